/- How a polynomial opens that came in as an argument, and the end of a row whose arguments are two polynomials. -/
import Derived.Test.YtjmglmgokfcgoaaRowP
import Derived.Test.YtjmglmgokfcgoaaFew
import Derived.Deep.SlicePairs
namespace Go.Proofs.Ytjmglmgokfcgoaa
open Go.ChangeShapes Go.WideShapes Go.ChangeAt Go.RowKit
theorem Try.cellsInt:Try.prog.cellsOf 35=2:=by kernel_rfl
theorem Try.cellsNat:Try.prog.cellsOf 33=1:=by kernel_rfl
theorem Try.cellsBool:Try.prog.cellsOf 4=1:=by kernel_rfl
theorem Try.cellsU32:Try.prog.cellsOf 86=1:=by kernel_rfl
theorem u32_wf {n:Int} (h:(Lit.int .u32 n).wf=true):0≤n∧n<4294967296:=by
 have h1:IntKind.u32.min=0:=rfl
 have h2:IntKind.u32.max=4294967295:=rfl
 simp only [Lit.wf,Bool.and_eq_true,decide_eq_true_eq] at h
 omega
theorem open_digs {H:Type} {enc:TypeId×Value→H} {W:World} {fuel:Nat} {v:Value} {x:DataW H×List MemPlace}
  (h:DataW.trod enc Try.prog W 0 (fun _=>true) true fuel 33 [v]=some x) (hlt:∀ y∈x.2,y.block<W.heap.size) :
  ∃ A l c ds,v=.slice A l c∧DigAt W A l c ds:=by
 rcases open_ints Try.underlying33 Try.underlying86 Try.cellsU32 h with ⟨hcs,hx⟩ | ⟨a,len',cap',zs,hcs,_,hl,hm,hz,hx,hcell,hwz⟩
 ·simp at hcs
  exact ⟨none,0,0,[],hcs,DigAt.nil _ _ _⟩
 ·simp at hcs
  simp only [if_true] at hz
  refine ⟨some a,len',cap',(zs.take len').map Int.toNat,hcs,⟨by rw [List.length_map,List.length_take];omega,hl,?_,?_⟩⟩
  ·intro d hd
   obtain ⟨n,hn,rfl⟩:=List.mem_map.1 hd
   have:=u32_wf (hwz n (List.mem_of_mem_take hn))
   rw [BB_eq];omega
  ·by_cases hl0:len'=0
   ·exact .inl hl0
   ·obtain ⟨b,off,spot⟩:=a
    have hspot:spot=none:=by simpa [Addr.add] using World.cell?_spot (hcell 0 (by omega))
    subst hspot
    have hbW:b<W.heap.size:=by
     refine hlt (.cell b off) ?_
     rw [hx]
     exact MemPlace.mem_row.2 ⟨0,by omega,by simp⟩
    refine .inr ⟨b,off,rfl,hbW,fun j hj=>?_⟩
    have h1:=hcell j (by omega)
    rw [show (⟨b,off,none⟩:Addr).add j=⟨b,off+j,none⟩ by simp [Addr.add]] at h1
    rw [h1]
    have h2:=u32_wf (hwz (zs.getD j 0) (by rw [List.getD_eq_getElem?_getD,List.getElem?_eq_getElem (by omega)];exact List.getElem_mem _))
    have h3:((zs.take len').map Int.toNat).getD j 0=(zs.getD j 0).toNat:=by
     simp [List.getD_eq_getElem?_getD,hj,List.getElem?_eq_getElem (show j<zs.length by omega)]
    rw [h3,Int.toNat_of_nonneg h2.1]
theorem open_poly {H:Type} {enc:TypeId×Value→H} {W:World} {A:Option Addr} {len cap:Nat} {d:DataW H} {p:List MemPlace}
  (h:DataW.Trod enc Try.prog W 0 (fun _=>true) true 23 (.slice A len cap) d p) (hlt:∀ x∈p,x.block<W.heap.size) :
  ∃ zs,PolyP IntR W A len cap zs:=by
 obtain ⟨fuel,hf⟩:=h
 rcases Go.Deep.open_slice_pairs Try.underlying23 Try.underlying35 Try.cellsInt rfl rfl Try.cellsBool Try.cellsNat hf with ⟨hcs,hx⟩ | ⟨a,len',cap',m,n,V0,V1,D0,D1,P0,P1,hcs,_,hl,hm,hmm,hx,hall⟩
 ·simp [Value.cells] at hcs
  obtain ⟨rfl,rfl,rfl⟩:=hcs
  exact ⟨[],PolyP.nil _ _ _ _⟩
 ·simp [Value.cells] at hcs
  obtain ⟨rfl,rfl,rfl⟩:=hcs
  simp only [if_true] at hmm
  subst hmm
  simp only [Prod.mk.injEq] at hx
  have hp:=hx.2
  have each:∀ i,i<len→∃ neg Aj lj cj,∃ z:Int,V0 i=.bool neg∧V1 i=.slice Aj lj cj∧IntR W neg Aj lj cj z:=fun i hi=>by
   obtain ⟨_,_,h0,h1⟩:=hall i (by omega)
   obtain ⟨neg,hv0,_⟩:=DataW.trod_bool Try.underlying4 h0
   obtain ⟨Aj,lj,cj,ds,hv1,hd⟩:=open_digs h1 (fun y hy=>hlt y (by
    rw [hp]
    exact List.mem_append.2 (.inr (List.mem_flatMap.2 ⟨i,List.mem_range.2 (by omega),List.mem_append.2 (.inr hy)⟩))))
   refine ⟨neg,Aj,lj,cj,sgn neg (val ds),by simpa using hv0,hv1,⟨ds,hd,(sgn_natAbs _ _).symm⟩,by rw [sgn_natAbs]⟩
  have ez:∃ zf:Nat→Int,∀ i,i<len→∃ neg Aj lj cj,V0 i=.bool neg∧V1 i=.slice Aj lj cj∧IntR W neg Aj lj cj (zf i) :=
   ⟨fun i=>if hi:i<len then (each i hi).choose_spec.choose_spec.choose_spec.choose_spec.choose else 0,fun i hi=>by
     obtain ⟨h1,h2,h3⟩:=(each i hi).choose_spec.choose_spec.choose_spec.choose_spec.choose_spec
     exact ⟨_,_,_,_,h1,h2,by simp only [dif_pos hi];exact h3⟩⟩
  obtain ⟨zf,hzf⟩:=ez
  refine ⟨(List.range len).map zf,by simp,hl,?_⟩
  by_cases hl0:len=0
  ·exact .inl hl0
  ·obtain ⟨b,off,spot⟩:=a
   have hspot:spot=none:=by simpa [Addr.add] using World.cell?_spot (hall 0 (by omega)).1
   subst hspot
   have hbW:b<W.heap.size:=by
    refine hlt (.cell b off) ?_
    rw [hp]
    exact List.mem_append.2 (.inl (MemPlace.mem_row.2 ⟨0,by omega,by simp⟩))
   refine .inr ⟨b,off,rfl,hbW,fun j hj=>?_⟩
   obtain ⟨neg,Aj,lj,cj,h1,h2,h3⟩:=hzf j hj
   obtain ⟨c0,c1,_,_⟩:=hall j (by omega)
   rw [show (⟨b,off,none⟩:Addr).add (j*2)=⟨b,off+j*2,none⟩ by simp [Addr.add],h1] at c0
   rw [show (⟨b,off,none⟩:Addr).add (j*2+1)=⟨b,off+j*2+1,none⟩ by simp [Addr.add];omega,h2] at c1
   refine ⟨neg,Aj,lj,cj,c0,c1,?_⟩
   have e:((List.range len).map zf).getD j 0=zf j:=by simp [List.getD_eq_getElem?_getD,hj]
   rw [e];exact h3
set_option maxRecDepth 100000 in
theorem lifted_polys (f:Nat) (fn:Func) (hp:fn.params=#[23,23]) (hr:fn.resultTypes=#[4]) {H:Type} (enc:TypeId×Value→H) (spec:ChangeSpec) (hsv:spec.vars=[]) (hsf:∀ d d',spec.fn H [d,d']={ results:=[.lit (.bool true)],args:=[d,d'] })
  (walk:∀ A la ca p B lb cb q w,PolyP IntR w A la ca p→PolyP IntR w B lb cb q→Calls Try.prog f #[.slice A la ca,.slice B lb cb] w fun e w'=>e=.returned (.bool true)∧Below w.heap.size w w')
  (W:World) (args:Array Value) (ds gs:List (DataW H)) (before:List MemPlace)
  (hval:∀ (j:Nat) t v,fn.params[j]?=some t→args[j]?=some v→Value.okWide Try.prog W .any 0 t v)
  (hW:DataW.Whole enc Try.prog fn.params.toList spec.vars false W args.toList ds gs before) :
  Calls Try.prog f args W fun e W'=>∃ v,e=Ending.returned v∧spec.post enc Try.prog fn false true false false W args v W':=by
 have hW':=hW
 obtain ⟨p,q,hA0,hV,rfl,_,_⟩:=hW
 have hA:DataW.TrodAll enc Try.prog W 0 (fun _=>true) true fn.params.toList args.toList ds p:=hA0
 rw [hp] at hA hval
 obtain ⟨v0,v1,d0,d1,p0,p1,rfl,rfl,rfl,h0,h1⟩:=trodAll_two hA
 rw [hsv] at hV
 obtain ⟨rfl,rfl⟩:=trodVars_none hV
 obtain ⟨a0,la,ca,rfl⟩:=okWide_slice Try.underlying23 (hval 0 23 v0 rfl rfl)
 obtain ⟨a1,lb,cb,rfl⟩:=okWide_slice Try.underlying23 (hval 1 23 v1 rfl rfl)
 simp only [List.append_nil] at hW'
 have hlt:∀ x∈p0 ++ p1,x.block<W.heap.size:=fun x hx=>by simpa using hW'.lt x hx
 have hlt0:∀ x∈p0,x.block<W.heap.size:=fun x hx=>hlt x (List.mem_append.2 (.inl hx))
 have hlt1:∀ x∈p1,x.block<W.heap.size:=fun x hx=>hlt x (List.mem_append.2 (.inr hx))
 obtain ⟨zs,hz⟩:=open_poly h0 hlt0
 obtain ⟨ys,hy⟩:=open_poly h1 hlt1
 refine (walk a0 la ca zs a1 lb cb ys W hz hy).mono fun e W' ⟨he,hb⟩=>?_
 subst he
 refine ⟨_,rfl,post_below (pa:=p0 ++ p1) (pv:=[]) hW' (fun _ _ _=>?_) (fun sp hs=>?_) (fun _ _=>?_) (by simp) hb ?_⟩
 ·rw [List.append_nil,hsf,hr]
  exact trodAll_mk1 (shut_bool Try.underlying4 _)
 ·rw [List.append_nil,hsf,hp]
  exact trodAll_mk2 (Go.WideElems.Trod_stays Try.laidOut (by kernel_rfl) (of_decide_eq_true (by kernel_rfl)) h0 (fun x hx=>hb.same (hlt0 x hx)) (fun x hx=>hs x (List.mem_append.2 (.inl hx)))) (Go.WideElems.Trod_stays Try.laidOut (by kernel_rfl) (of_decide_eq_true (by kernel_rfl)) h1 (fun x hx=>hb.same (hlt1 x hx)) (fun x hx=>hs x (List.mem_append.2 (.inr hx))))
 ·rw [hsv,List.append_nil,hsf]
  rfl
 ·exact ok_one hr rfl (okWide_bool_mk Try.underlying4 _)
end Go.Proofs.Ytjmglmgokfcgoaa
