/- The end of a row whose arguments are a pair of int8s and a slice of int16s. -/
import Derived.Test.YtobcbjcnjpgipaaGreatRows
import Derived.Test.YtobcbjcnjpgipaaGreatRbH
import Derived.ProofKit
import Derived.WideKeyPair
namespace Go.Proofs.YtobcbjcnjpgipaaGreat
open Go.ChangeShapes Go.WideShapes Go.ChangeAt Go.RowKit
theorem Tryz.own:ownKnob Tryz.prog.godebug=none:=by kernel_rfl
theorem Tryz.laidOut:laidOutB Tryz.prog=true:=by kernel_rfl
section
variable {H:Type} {enc:TypeId×Value->H} {P:Program}
theorem post_below {f:Func} {s:ChangeSpec} {apart fresh handsOn again:Bool} {W W':World} {args:Array Value} {v:Value} {ds gs:List (DataW H)} {before pa pv:List MemPlace}
  (hW:DataW.Whole enc P f.params.toList s.vars apart W args.toList ds gs before)
  (hres:∀ (b:Nat) (sp:Nat->Bool) (hd:Bool),DataW.TrodAll enc P W' b sp hd f.resultTypes.toList (v.resultList f.resultTypes.size) (s.fn H (ds ++ gs)).results [])
  (hargs:∀ sp:Nat->Bool,(∀ p∈before,sp p.block=true)->DataW.TrodAll enc P W' 0 sp true f.params.toList args.toList (s.fn H (ds ++ gs)).args pa)
  (hvars:∀ sp:Nat->Bool,(∀ p∈before,sp p.block=true)->DataW.TrodVars enc P W' sp s.vars (s.fn H (ds ++ gs)).vars pv)
  (hps:before=pa ++ pv) (hb:Below W.heap.size W W')
  (hok:∀ (j:Nat) (t:TypeId) (r:Value),f.resultTypes[j]?=some t->(v.resultList f.resultTypes.size)[j]?=some r->Value.okWide P W' .any 0 t r) :
  s.post enc P f apart fresh handsOn again W args v W':=by
 have hlt:∀ p∈before,p.block<W.heap.size:=fun p hp=>hW.lt p hp
 have hold:∀ p∈before,(fun b=>decide (b<W.heap.size)) p.block=true:=fun p hp=>by simpa using hlt p hp
 refine ⟨ds,gs,before,[],pa,pv,hW,hres _ _ _,hargs _ hold,hvars _ hold,World.keptBut_mono (fun p hp=>⟨hp,?_⟩) (hb.frame (·∈before)),fun _=>?_⟩
 ·rw[hps,List.mem_append] at hp
  exact Or.inr hp
 ·obtain ⟨_,_,_,_,_,hz,hn⟩:=hW
  refine ⟨hok,_,_,([] ++ pa) ++ pv,⟨[] ++ pa,pv,trodAll_append (hargs _ (fun _ _=>rfl)) (hres _ _ _),hvars _ (fun _ _=>rfl),rfl,?_,?_⟩,?_⟩
  ·intro b off hp
   have hin:MemPlace.cell b off∈before:=by rw[hps];simpa using hp
   rw[hb.frozen (hlt _ hin)]
   exact hz b off hin
  ·intro ha
   have:=hn ha
   rw[hps] at this
   simpa using this
  ·intro p hp _
   rw[hps]
   simpa using hp
end
theorem i16_wf {n:Int} (h:(Lit.int .i16 n).wf=true):-32768<=n/\n<=32767:=by
 have h1:IntKind.i16.min=-32768:=rfl
 have h2:IntKind.i16.max=32767:=rfl
 simp only[Lit.wf,Bool.and_eq_true,decide_eq_true_eq] at h
 omega
theorem Tryz.cellsI16:Tryz.prog.cellsOf 62=1:=by kernel_rfl
theorem open_i16 {H:Type} {enc:TypeId×Value->H} {W:World} {A:Option Addr} {len cap:Nat} {d:DataW H} {p:List MemPlace}
  (h:DataW.Trod enc Tryz.prog W 0 (fun _=>true) true 22 (.slice A len cap) d p) (hlt:∀ x∈p,x.block<W.heap.size) :
  len<=9223372036854775807/\∃ zs,I16At W A len cap zs:=by
 obtain ⟨fuel,hf⟩:=h
 rcases open_ints Tryz.underlying22 Tryz.underlying62 Tryz.cellsI16 hf with ⟨hcs,hx⟩ | ⟨a,len',cap',zs,hcs,_,hl,hm,hz,hx,hcell,hwz⟩
 ·simp[Value.cells] at hcs
  obtain ⟨rfl,rfl,rfl⟩:=hcs
  exact ⟨by omega,[],rfl,(fun c hc=>by cases hc),.inl rfl⟩
 ·simp[Value.cells] at hcs
  obtain ⟨rfl,rfl,rfl⟩:=hcs
  simp only[Prod.mk.injEq] at hx
  obtain ⟨rfl,rfl⟩:=hx
  simp only[if_true] at hz
  refine ⟨by unfold maxLen at hm;omega,zs.take len,by rw[List.length_take];omega,fun c hc=>i16_wf (hwz c (List.mem_of_mem_take hc)),?_⟩
  by_cases hl0:len=0
  ·exact .inl hl0
  ·obtain ⟨b,off,spot⟩:=a
   have hspot:spot=none:=by simpa [Addr.add] using World.cell?_spot (hcell 0 (by omega))
   subst hspot
   have hbW:b<W.heap.size:=hlt (.cell b off) (MemPlace.mem_row.2 ⟨0,by omega,by simp⟩)
   refine .inr ⟨b,off,rfl,hbW,fun j hj=>?_⟩
   have:=hcell j (by omega)
   rw[show (⟨b,off,none⟩:Addr).add j=⟨b,off+j,none⟩ by simp[Addr.add]] at this
   rw[this]
   simp[List.getD_eq_getElem?_getD,hj]
set_option maxRecDepth 100000 in
theorem lifted_i16 (f:Nat) (fn:Func) (hp:fn.params=#[22]) (hr:fn.resultTypes=#[4]) {H:Type} (enc:TypeId×Value->H) (spec:ChangeSpec) (hsv:spec.vars=[]) (hsf:∀ d,spec.fn H [d]={ results:=[.lit (.bool true)],args:=[d] })
  (walk:∀ A len cap p w,I16At w A len cap p->len<=9223372036854775807->Calls Tryz.prog f #[.slice A len cap] w fun e w'=>e=.returned (.bool true)/\Below w.heap.size w w')
  (W:World) (args:Array Value) (ds gs:List (DataW H)) (before:List MemPlace)
  (hval:∀ (j:Nat) t v,fn.params[j]?=some t->args[j]?=some v->Value.okWide Tryz.prog W .any 0 t v)
  (hW:DataW.Whole enc Tryz.prog fn.params.toList spec.vars false W args.toList ds gs before) :
  Calls Tryz.prog f args W fun e W'=>∃ v,e=Ending.returned v/\spec.post enc Tryz.prog fn false true false false W args v W':=by
 have hW':=hW
 obtain ⟨p,q,hA0,hV,rfl,_,_⟩:=hW
 have hA:DataW.TrodAll enc Tryz.prog W 0 (fun _=>true) true fn.params.toList args.toList ds p:=hA0
 rw[hp] at hA hval
 obtain ⟨v0,d0,rfl,rfl,h0⟩:=trodAll_one hA
 rw[hsv] at hV
 obtain ⟨rfl,rfl⟩:=trodVars_none hV
 obtain ⟨a0,len,cap,rfl⟩:=okWide_slice Tryz.underlying22 (hval 0 22 v0 rfl rfl)
 simp only[List.append_nil] at hW'
 have hlt:∀ x∈p,x.block<W.heap.size:=fun x hx=>by simpa using hW'.lt x hx
 obtain ⟨hlm,zs,hat⟩:=open_i16 h0 hlt
 refine (walk a0 len cap zs W hat hlm).mono fun e W' ⟨he,hb⟩=>?_
 subst he
 refine ⟨_,rfl,post_below (pa:=p) (pv:=[]) hW' (fun _ _ _=>?_) (fun sp hs=>?_) (fun _ _=>?_) (by simp) hb ?_⟩
 ·rw[List.append_nil,hsf,hr]
  exact trodAll_mk1 (shut_bool Tryz.underlying4 _)
 ·rw[List.append_nil,hsf,hp]
  exact trodAll_mk1 (Go.WideElems.Trod_stays Tryz.laidOut (by kernel_rfl) (of_decide_eq_true (by kernel_rfl)) h0 (fun x hx=>hb.same (hlt x hx)) hs)
 ·rw[hsv,List.append_nil,hsf]
  rfl
 ·exact ok_one hr rfl (okWide_bool_mk Tryz.underlying4 _)
end Go.Proofs.YtobcbjcnjpgipaaGreat
namespace Go.Proofs.YtobcbjcnjpgipaaGreat
open Go.ChangeShapes Go.WideShapes Go.ChangeAt Go.RowKit
end Go.Proofs.YtobcbjcnjpgipaaGreat
