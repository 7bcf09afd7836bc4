/- For any slice of int16s and any uint8 the law RefineSteps returns true and its arguments read as before: refine.Steps hands on isolating intervals of the same root, each within the one before it and at most half as wide. No condition. -/
import Derived.Test.YtobcbjcnjpgipaaGreatRows
import Derived.Test.YtobcbjcnjpgipaaGreatRbH
import Derived.ProofKit
import Derived.WideKeyPair
import Derived.OpenShut
import Derived.RangeFuncNested
import Derived.RangeFuncBound
import Derived.RangeFuncCalls
import Derived.RangeFuncLeaves
import Derived.Test.YtobcbjcnjpgipaaGreatNatS
import Derived.Test.YtobcbjcnjpgipaaGreatHfh
import Derived.Test.YtobcbjcnjpgipaaGreatRfd
import Derived.Test.YtobcbjcnjpgipaaGreatHfw
import Derived.Test.YtobcbjcnjpgipaaGreatHfp
import Derived.Test.YtobcbjcnjpgipaaGreatHvw
import Derived.Test.YtobcbjcnjpgipaaGreatSqw
import Derived.Test.YtobcbjcnjpgipaaGreatIvp
import Derived.Test.YtobcbjcnjpgipaaGreatRsb
import Derived.OrdersIn
import Derived.Deep.RegionHeld3
namespace Go.Proofs.YtobcbjcnjpgipaaGreat
open Go.ChangeShapes Go.WideShapes Go.ChangeAt Go.RowKit
theorem Tryz.own:ownKnob Tryz.prog.godebug=none:=by kernel_rfl
theorem Tryz.laidOut:laidOutB Tryz.prog=true:=by kernel_rfl
section
variable {H:Type} {enc:TypeId×Value→H} {P:Program}
theorem post_below {f:Func} {s:ChangeSpec} {apart fresh handsOn again:Bool} {W W':World} {args:Array Value} {v:Value} {ds gs:List (DataW H)} {before pa pv:List MemPlace}
 (hW:DataW.Whole enc P f.params.toList s.vars apart W args.toList ds gs before)
 (hres:∀ (b:Nat) (sp:Nat→Bool) (hd:Bool),DataW.TrodAll enc P W' b sp hd f.resultTypes.toList (v.resultList f.resultTypes.size) (s.fn H (ds ++ gs)).results [])
 (hargs:∀ sp:Nat→Bool,(∀ p∈before,sp p.block=true)→DataW.TrodAll enc P W' 0 sp true f.params.toList args.toList (s.fn H (ds ++ gs)).args pa)
 (hvars:∀ sp:Nat→Bool,(∀ p∈before,sp p.block=true)→DataW.TrodVars enc P W' sp s.vars (s.fn H (ds ++ gs)).vars pv)
 (hps:before=pa ++ pv) (hb:Below W.heap.size W W')
 (hok:∀ (j:Nat) (t:TypeId) (r:Value),f.resultTypes[j]?=some t→(v.resultList f.resultTypes.size)[j]?=some r→Value.okWide P W' .any 0 t r) :
 s.post enc P f apart fresh handsOn again W args v W':=by
 have hlt:∀ p∈before,p.block<W.heap.size:=fun p hp=>hW.lt p hp
 have hold:∀ p∈before,(fun b=>decide (b<W.heap.size)) p.block=true:=fun p hp=>by simpa using hlt p hp
 refine ⟨ds,gs,before,[],pa,pv,hW,hres _ _ _,hargs _ hold,hvars _ hold,World.keptBut_mono (fun p hp=>⟨hp,?_⟩) (hb.frame (·∈before)),fun _=>?_⟩
 ·rw [hps,List.mem_append] at hp
  exact Or.inr hp
 ·obtain ⟨_,_,_,_,_,hz,hn⟩:=hW
  refine ⟨hok,_,_,([] ++ pa) ++ pv,⟨[] ++ pa,pv,trodAll_append (hargs _ (fun _ _=>rfl)) (hres _ _ _),hvars _ (fun _ _=>rfl),rfl,?_,?_⟩,?_⟩
  ·intro b off hp
   have hin:MemPlace.cell b off∈before:=by rw [hps];simpa using hp
   rw [hb.frozen (hlt _ hin)]
   exact hz b off hin
  ·intro ha
   have:=hn ha
   rw [hps] at this
   simpa using this
  ·intro p hp _
   rw [hps]
   simpa using hp
end
theorem i16_wf {n:Int} (h:(Lit.int .i16 n).wf=true):-32768≤n∧n≤32767:=by
 have h1:IntKind.i16.min=-32768:=rfl
 have h2:IntKind.i16.max=32767:=rfl
 simp only [Lit.wf,Bool.and_eq_true,decide_eq_true_eq] at h
 omega
theorem Tryz.cellsI16:Tryz.prog.cellsOf 62=1:=by kernel_rfl
theorem open_i16 {H:Type} {enc:TypeId×Value→H} {W:World} {A:Option Addr} {len cap:Nat} {d:DataW H} {p:List MemPlace}
 (h:DataW.Trod enc Tryz.prog W 0 (fun _=>true) true 22 (.slice A len cap) d p) (hlt:∀ x∈p,x.block<W.heap.size) :
 len≤9223372036854775807∧∃ zs,I16At W A len cap zs:=by
 obtain ⟨fuel,hf⟩:=h
 rcases open_ints Tryz.underlying22 Tryz.underlying62 Tryz.cellsI16 hf with ⟨hcs,hx⟩ | ⟨a,len',cap',zs,hcs,_,hl,hm,hz,hx,hcell,hwz⟩
 ·simp [Value.cells] at hcs
  obtain ⟨rfl,rfl,rfl⟩:=hcs
  exact ⟨by omega,[],rfl,(fun c hc=>by cases hc),.inl rfl⟩
 ·simp [Value.cells] at hcs
  obtain ⟨rfl,rfl,rfl⟩:=hcs
  simp only [Prod.mk.injEq] at hx
  obtain ⟨rfl,rfl⟩:=hx
  simp only [if_true] at hz
  refine ⟨by unfold maxLen at hm;omega,zs.take len,by rw [List.length_take];omega,fun c hc=>i16_wf (hwz c (List.mem_of_mem_take hc)),?_⟩
  by_cases hl0:len=0
  ·exact .inl hl0
  ·obtain ⟨b,off,spot⟩:=a
   have hspot:spot=none:=by simpa [Addr.add] using World.cell?_spot (hcell 0 (by omega))
   subst hspot
   have hbW:b<W.heap.size:=hlt (.cell b off) (MemPlace.mem_row.2 ⟨0,by omega,by simp⟩)
   refine .inr ⟨b,off,rfl,hbW,fun j hj=>?_⟩
   have:=hcell j (by omega)
   rw [show (⟨b,off,none⟩:Addr).add j=⟨b,off+j,none⟩ by simp [Addr.add]] at this
   rw [this]
   simp [List.getD_eq_getElem?_getD,hj]
end Go.Proofs.YtobcbjcnjpgipaaGreat
namespace Go.Proofs.YtobcbjcnjpgipaaGreat
open Go.ChangeShapes Go.WideShapes Go.ChangeAt Go.RowKit
end Go.Proofs.YtobcbjcnjpgipaaGreat
namespace Go.Proofs.YtobcbjcnjpgipaaGreat
open Go.ChangeShapes Go.WideShapes Go.ChangeAt Go.RowKit
theorem u8_wf {n:Int} (h:(Lit.int .u8 n).wf=true):0≤n∧n≤255:=by
 have h1:IntKind.u8.min=0:=rfl
 have h2:IntKind.u8.max=255:=rfl
 simp only [Lit.wf,Bool.and_eq_true,decide_eq_true_eq] at h
 omega
set_option maxRecDepth 100000 in
theorem lifted_s16u8 (f:Nat) (fn:Func) (hp:fn.params=#[22,5]) (hr:fn.resultTypes=#[4]) {H:Type} (enc:TypeId×Value→H) (spec:ChangeSpec) (hsv:spec.vars=[]) (hsf:∀ d d',spec.fn H [d,d']={ results:=[.lit (.bool true)],args:=[d,d'] })
 (walk:∀ A len cap p n w,I16At w A len cap p→len≤9223372036854775807→(0≤n∧n≤255)→Calls Tryz.prog f #[.slice A len cap,.int .u8 n] w fun e w'=>e=.returned (.bool true)∧Below w.heap.size w w')
 (W:World) (args:Array Value) (ds gs:List (DataW H)) (before:List MemPlace)
 (hval:∀ (j:Nat) t v,fn.params[j]?=some t→args[j]?=some v→Value.okWide Tryz.prog W .any 0 t v)
 (hW:DataW.Whole enc Tryz.prog fn.params.toList spec.vars false W args.toList ds gs before) :
 Calls Tryz.prog f args W fun e W'=>∃ v,e=Ending.returned v∧spec.post enc Tryz.prog fn false true false false W args v W':=by
 have hW':=hW
 obtain ⟨p,q,hA0,hV,rfl,_,_⟩:=hW
 have hA:DataW.TrodAll enc Tryz.prog W 0 (fun _=>true) true fn.params.toList args.toList ds p:=hA0
 rw [hp] at hA hval
 obtain ⟨v0,v1,d0,d1,p0,p1,rfl,rfl,rfl,h0,h1⟩:=trodAll_two hA
 rw [hsv] at hV
 obtain ⟨rfl,rfl⟩:=trodVars_none hV
 obtain ⟨a0,len,cap,rfl⟩:=okWide_slice Tryz.underlying22 (hval 0 22 v0 rfl rfl)
 obtain ⟨n,rfl,rfl,rfl,wn⟩:=open_int Tryz.underlying5 (hval 1 5 v1 rfl rfl) h1
 simp only [List.append_nil] at hW'
 have hlt:∀ x∈p0,x.block<W.heap.size:=fun x hx=>by simpa using hW'.lt x hx
 obtain ⟨hlm,zs,hat⟩:=open_i16 h0 hlt
 refine (walk a0 len cap zs n W hat hlm (u8_wf wn)).mono fun e W' ⟨he,hb⟩=>?_
 subst he
 refine ⟨_,rfl,post_below (pa:=p0) (pv:=[]) hW' (fun _ _ _=>?_) (fun sp hs=>?_) (fun _ _=>?_) (by simp) hb ?_⟩
 ·rw [List.append_nil,hsf,hr]
  exact trodAll_mk1 (shut_bool Tryz.underlying4 _)
 ·rw [List.append_nil,hsf,hp]
  have h3:=trodAll_mk2 (Go.WideElems.Trod_stays Tryz.laidOut (by kernel_rfl) (of_decide_eq_true (by kernel_rfl)) h0 (fun x hx=>hb.same (hlt x hx)) hs) (shut_int (enc:=enc) (w:=W') (base:=0) (spare:=sp) (held:=true) Tryz.underlying5 wn)
  simpa using h3
 ·rw [hsv,List.append_nil,hsf]
  rfl
 ·exact ok_one hr rfl (okWide_bool_mk Tryz.underlying4 _)
end Go.Proofs.YtobcbjcnjpgipaaGreat
namespace Go.Proofs.YtobcbjcnjpgipaaGreat
open Go.RowKit
def fedPostX {α:Type} (B:Nat) (Kp:World→World→Prop) (I:List α→World→Prop) (Ix:Code→List α→World→Prop) (xs:List α) (W:World):Exit→Act→World→Prop
 | .normal,_,W'=>W'.heap[B]?=W.heap[B]?∧W'.heap[B+1]?=W.heap[B+1]?∧Kp W W'∧I xs W'
 | .exit id,_,W'=>W'.heap[B]?=W.heap[B]?∧W'.heap[B+1]?=W.heap[B+1]?∧Kp W W'∧Ix (.exit id) xs W'
 | .ret,_,W'=>W'.heap[B]?=W.heap[B]?∧W'.heap[B+1]?=W.heap[B+1]?∧Kp W W'∧Ix .ret xs W'
 | _,_,_=>False
def FeedsX {α:Type} (P:Program) (gf:Nat) (lb:Array Value) (enc:α→Value) (Pre:α→World→Prop) (Nx:List α→α→Prop) (NR:Nat→World→World→Prop) (Kp:World→World→Prop) (N:Nat) (S:List α→Prop) (w:World):Prop :=
 ∀ (l:Nat) (J Jx:List α→World→Prop) (W:World),Below w.heap.size w W →
   (∀ s A B,NR W.heap.size A B→J s A→J s B)→(∀ s A B,NR W.heap.size A B→Jx s A→Jx s B) →
   (∀ s A,J s A→s.length<N) →
   (∀ m pre x W1,J pre W1→Nx pre x→Pre x W1→W.heap.size≤W1.heap.size→YieldAt Fence.wide m P l #[enc x] W1 fun e W' =>
     (e=.returned (.bool true)∧J (pre ++ [x]) W'∧Kp W1 W')∨(e=.returned (.bool false)∧Jx (pre ++ [x]) W'∧Kp W1 W')) →
   J [] W →
   Calls P gf (#[.func (.yield l) #[] #[]] ++ lb) W fun e W'=>(∃ v,e=.returned v)∧((∃ xs,S xs∧J xs W')∨(∃ pre,Jx pre W'))
theorem wpIn_fedX {α:Type} {P:Program} {n:Nat} {g0:Operand} {ps:Array Tmp} {assign body:Code} {Q:Exit→Act→World→Prop} {a:Act} {w:World} {gf:Nat} {lb:Array Value}
 (hg:a.eval g0=.func (.func gf) #[] lb) (eg:∀ args w,(callFunc gf args).run P w=.ok (.enter gf args) w)
 {enc:α→Value} {Pre:α→World→Prop} {Nx:List α→α→Prop} {NR:Nat→World→World→Prop} {Kp:World→World→Prop} {N:Nat} {S:List α→Prop} (hseq:FeedsX P gf lb enc Pre Nx NR Kp N S w) (hps:ps.size=1)
 (ktr:∀ A B C,Kp A B→Kp B C→Kp A C) (kput:∀ W l o o',W.heap[l]?=some o→o.isCells=false→Kp W (W.putObj l o')) (nbel:∀ B A C,NR B A C→Below B A C) (kal:∀ W o,Kp W (W.alloc o)) (ob:α→Obj) (hPa:∀ x W o,Pre x W→Pre x (W.alloc o))
 (hPre:∀ x W l o o',Pre x W→W.heap[l]?=some o→o.isCells=false→Pre x (W.putObj l o'))
 (I:List α→World→Prop) (Ix:Code→List α→World→Prop)
 (hIN:∀ s W,I s W→s.length<N)
 (hIp:∀ s W l o o',I s W→W.heap[l]?=some o→o.isCells=false→w.heap.size≤l→I s (W.putObj l o'))
 (hXp:∀ c s W l o o',Ix c s W→W.heap[l]?=some o→o.isCells=false→w.heap.size≤l→Ix c s (W.putObj l o'))
 (hIa:∀ s W o,I s W→I s (W.alloc o))
 (hIb:∀ s A B,NR (w.heap.size+2) A B→I s A→I s B) (hXb:∀ c s A B,NR (w.heap.size+2) A B→Ix c s A→Ix c s B)
 (h0:I [] w) (a₁:α→Nat→Act)
 (hassign:∀ (l m:Nat) (x:α) (W:World) (K:Act→World→Prop),K (a₁ x W.heap.size) (W.alloc (ob x)) →
   assign.wpIn (Fence.wide.inRound l) m P (Exit.then K (fun _ _ _=>False)) { tmps:=(ps.zip #[enc x]).foldl (fun t (p,v)=>t.setIfInBounds p v) a.tmps,defers:=[] } W)
 (hbody:∀ (l m:Nat) (pre:List α) (x:α) (g:Nat) (W:World),I pre W→Nx pre x→Pre x W→w.heap.size+2≤g→W.heap[g]?=some (ob x)→body.wpIn (Fence.wide.inRound l) m P (fedPostX w.heap.size Kp I Ix (pre ++ [x]) W) (a₁ x g) W)
 (hdone:∀ (D:Nat) (xs:List α) (W:World),w.heap.size≤D→S xs→I xs W→W.heap[D]?=some (.deferred (some []))→Q .normal { a with defers:={ target:=.collected D,args:=#[] } :: a.defers } W)
 (hstop:∀ (D:Nat) (c:Code) (pre:List α) (W:World),w.heap.size≤D→Ix c pre W→W.heap[D]?=some (.deferred (some []))→c.wpIn Fence.wide n P Q { a with defers:={ target:=.collected D,args:=#[] } :: a.defers } W) :
 (Code.rangeFunc g0 ps assign body).wpIn Fence.wide n P Q a w:=by
 refine wpIn_rangeFunc fun fn hfn=>?_
 let rec0:LoopState→Option Code→Loop:=fun st pe=>{ state:=st,pending:=pe,fn,tmps:=a.tmps,params:=ps,assign,body,defers:=w.heap.size }
 have hw:w.heap.size<w.heap.size+1:=Nat.lt_succ_self _
 have hL:∀ o,((w.alloc (.deferred (some []))).alloc o).heap[w.heap.size+1]?=some o:=fun o=>by
  have:=World.alloc_heap_new (w.alloc (.deferred (some []))) o
  rwa [World.size_alloc] at this
 have hD:∀ o,((w.alloc (.deferred (some []))).alloc o).heap[w.heap.size]?=some (.deferred (some [])):=fun o =>
  (Below.heap_alloc _ _ _ (by simp)).trans (World.alloc_heap_new w _)
 have hsz:((w.alloc (.deferred (some []))).alloc (.loop (rec0 .ready none))).heap.size=w.heap.size+2:=by simp
 obtain ⟨W0,hW0⟩:∃ W,W=(w.alloc (.deferred (some []))).alloc (.loop (rec0 .ready none)):=⟨_,rfl⟩
 have hL0:W0.heap[w.heap.size+1]?=some (.loop (rec0 .ready none)):=by rw [hW0];exact hL _
 have hD0:W0.heap[w.heap.size]?=some (.deferred (some [])):=by rw [hW0];exact hD _
 have hI0:I [] W0:=by rw [hW0];exact hIa _ _ _ (hIa _ _ _ h0)
 have hb0:Below w.heap.size w W0:=by rw [hW0];exact ((Below.refl _ w).alloc (Nat.le_refl _) _).alloc (by simp) _
 rw [← hW0] at hsz
 -- one turn of the record
 have turn:∀ (W:World) (r r':Loop),W.heap[w.heap.size+1]?=some (.loop r)→W.heap[w.heap.size]?=some (.deferred (some [])) →
  (W.putObj (w.heap.size+1) (.loop r')).heap[w.heap.size+1]?=some (.loop r')∧(W.putObj (w.heap.size+1) (.loop r')).heap[w.heap.size]?=some (.deferred (some []))∧Kp W (W.putObj (w.heap.size+1) (.loop r')) :=
  fun W r r' h1 h2=>⟨World.putObj_heap_same (Array.getElem?_eq_some_iff.1 h1).1,(World.putObj_heap_other (by omega)).trans h2,kput _ _ _ _ h1 rfl⟩
 refine ⟨w.heap.size+1,[{ target:=.collected w.heap.size,args:=#[] }],W0,{ target:=.fn (.func gf) lb,args:=#[.func (.yield (w.heap.size+1)) #[] #[]] },W0,gf,#[.func (.yield (w.heap.size+1)) #[] #[]] ++ lb,W0,?_,?_,?_,?_,?_,?_⟩
 ·rw [hW0];exact run_enterLoop_outer _ _ _ _ _
 ·simp only [resolve,hg]
  simp [go_sem]
 ·intro f' _;trivial
 ·simp [invoke,go_sem,eg]
 ·intro h;cases h
 ·refine (callsIn_wide.2 (hseq (w.heap.size+1)
   (fun pre W=>I pre W∧W.heap[w.heap.size+1]?=some (.loop (rec0 .ready none))∧W.heap[w.heap.size]?=some (.deferred (some [])))
   (fun pre W=>∃ c,Ix c pre W∧W.heap[w.heap.size+1]?=some (.loop (rec0 .done (some c)))∧W.heap[w.heap.size]?=some (.deferred (some [])))
   W0 hb0 ?_ ?_ ?_ ?_ ⟨hI0,hL0,hD0⟩)).mono ?_
  ·rintro s A B hb ⟨h1,h2,h3⟩
   rw [hsz] at hb
   exact ⟨hIb s A B hb h1,((nbel _ _ _ hb).block _ (by omega)).trans h2,((nbel _ _ _ hb).block _ (by omega)).trans h3⟩
  ·rintro s A B hb ⟨c,h1,h2,h3⟩
   rw [hsz] at hb
   exact ⟨c,hXb c s A B hb h1,((nbel _ _ _ hb).block _ (by omega)).trans h2,((nbel _ _ _ hb).block _ (by omega)).trans h3⟩
  ·rintro s A ⟨h1,_,_⟩
   exact hIN s A h1
  ·rintro m pre x W1 ⟨h1,h2,h3⟩ hN hp hs
   rw [hsz] at hs
   have ha:=(Below.refl W1.heap.size W1).alloc (Nat.le_refl _) (ob x)
   have h2':=(ha.block _ (show w.heap.size+1<W1.heap.size by omega)).trans h2
   have h3':=(ha.block _ (show w.heap.size<W1.heap.size by omega)).trans h3
   have hn:=World.alloc_heap_new W1 (ob x)
   obtain ⟨t1,t2,t3⟩:=turn (W1.alloc (ob x)) _ { rec0 .ready none with state:=.busy } h2' h3'
   refine ⟨fn,_,assign,body,run_yield h2 (by show 1=_;exact hps.symm),roundIn_of_wpIn trivial (hassign _ m x W1 _ ⟨_,run_beginRound h2' rfl,?_⟩)⟩
   have hlen:=(Array.getElem?_eq_some_iff.1 h2).1
   refine wpIn_mono (hbody _ m pre x W1.heap.size _ (hIp _ _ _ _ _ (hIa _ _ _ h1) h2' rfl (by omega)) hN (hPre _ _ _ _ _ (hPa _ _ _ hp) h2' rfl) hs ((World.putObj_heap_other (by omega)).trans hn)) ?_
   rintro e a3 W3 hq
   cases e with
   | normal =>
     obtain ⟨q1,q2,q3,q4⟩:=hq
     have k1:=q2.trans t1
     have k2:=q1.trans t2
     obtain ⟨u1,u2,u3⟩:=turn W3 _ (rec0 .ready none) k1 k2
     exact ⟨_,_,run_endRound (P:=P) none k1,.inl ⟨rfl,⟨hIp _ _ _ _ _ q4 k1 rfl (by omega),u1,u2⟩,ktr _ _ _ (ktr _ _ _ (ktr _ _ _ (kal _ _) t3) q3) u3⟩⟩
   | exit c =>
     obtain ⟨q1,q2,q3,q4⟩:=hq
     have k1:=q2.trans t1
     have k2:=q1.trans t2
     obtain ⟨u1,u2,u3⟩:=turn W3 _ (rec0 .done (some (.exit c))) k1 k2
     exact ⟨_,_,run_endRound (P:=P) (some (.exit c)) k1,.inr ⟨rfl,⟨.exit c,hXp _ _ _ _ _ _ q4 k1 rfl (by omega),u1,u2⟩,ktr _ _ _ (ktr _ _ _ (ktr _ _ _ (kal _ _) t3) q3) u3⟩⟩
   | ret =>
     obtain ⟨q1,q2,q3,q4⟩:=hq
     have k1:=q2.trans t1
     have k2:=q1.trans t2
     obtain ⟨u1,u2,u3⟩:=turn W3 _ (rec0 .done (some (.ret))) k1 k2
     exact ⟨_,_,run_endRound (P:=P) (some (.ret)) k1,.inr ⟨rfl,⟨.ret,hXp _ _ _ _ _ _ q4 k1 rfl (by omega),u1,u2⟩,ktr _ _ _ (ktr _ _ _ (ktr _ _ _ (kal _ _) t3) q3) u3⟩⟩
   | goto t=>exact hq.elim
   | panic ch=>exact hq.elim
   | outgrown=>exact hq.elim
  ·rintro e W2 ⟨⟨v,rfl⟩,(⟨xs,hS,h1,h2,h3⟩ | ⟨pre,c,h1,h2,h3⟩)⟩
   ·obtain ⟨u1,u2,u3⟩:=turn W2 _ { rec0 .ready none with state:=.exhausted } h2 h3
    exact ⟨none,_,run_endLoop (P:=P) h2 (by simp [rec0]),hdone _ xs _ (Nat.le_refl _) hS (hIp _ _ _ _ _ h1 h2 rfl (by omega)) u2⟩
   ·obtain ⟨u1,u2,u3⟩:=turn W2 _ { rec0 .done (some c) with state:=.exhausted } h2 h3
    exact ⟨some c,_,run_endLoop (P:=P) h2 (by simp [rec0]),hstop _ c pre _ (Nat.le_refl _) (hXp _ _ _ _ _ _ h1 h2 rfl (by omega)) u2⟩
end Go.Proofs.YtobcbjcnjpgipaaGreat
namespace Go.Proofs.YtobcbjcnjpgipaaGreat
open Go Go.RowKit
theorem intn_zero (w:World):IntN w false none 0 0 0:=⟨NatN.zero _ _ _,by simp⟩
def nfr (r:Fq×Fq):Fq×Fq:=(r.1.nf,r.2.nf)
end Go.Proofs.YtobcbjcnjpgipaaGreat
namespace Go.Proofs.YtobcbjcnjpgipaaGreat
open Go Go.RowKit
structure RBk (w:World) (g:Nat) (n:Bool) (A:Option Addr) (l c:Nat) (B:Option Addr) (m d:Nat) (n':Bool) (A':Option Addr) (l' c':Nat) (B':Option Addr) (m' d':Nat) (s:Fq×Fq):Prop where
 k:Blk w g 34 #[.bool n,.slice A l c,.slice B m d,.bool n',.slice A' l' c',.slice B' m' d']
 hz:IntN w n A l c s.1.z
 hq:NatN w B m d s.1.q
 hz':IntN w n' A' l' c' s.2.z
 hq':NatN w B' m' d' s.2.q
section
variable {w w':World} {g:Nat} {n:Bool} {A:Option Addr} {l c:Nat} {B:Option Addr} {m d:Nat} {n':Bool} {A':Option Addr} {l' c':Nat} {B':Option Addr} {m' d':Nat} {s t:Fq×Fq}
theorem RBk.tb (h:RBk w g n A l c B m d n' A' l' c' B' m' d' s):TBox w g n A l c B m d s.1.z s.1.q n' A' l' c' B' m' d' s.2.z s.2.q :=
 ⟨⟨h.k.cell 0,h.k.cell 1,h.k.cell 2,h.k.frozen 0,h.k.frozen 1,h.k.frozen 2,h.k.lt,h.hz,h.hq⟩,h.k.cell 3,h.k.cell 4,h.k.cell 5,h.hz',h.hq'⟩
theorem RBk.make (hz:IntN w n A l c s.1.z) (hq:NatN w B m d s.1.q) (hz':IntN w n' A' l' c' s.2.z) (hq':NatN w B' m' d' s.2.q):RBk (w.alloc (tbox n A l c B m d n' A' l' c' B' m' d')) w.heap.size n A l c B m d n' A' l' c' B' m' d' s:=by
 have ho:=below_new w (tbox n A l c B m d n' A' l' c' B' m' d')
 exact ⟨Blk.new _ _ _,hz.below ho,hq.below ho,hz'.below ho,hq'.below ho⟩
theorem RBk.move (h:RBk w g n A l c B m d n' A' l' c' B' m' d' s) (hb:Below w.heap.size w w'):RBk w' g n A l c B m d n' A' l' c' B' m' d' s :=
 ⟨h.k.below hb h.k.lt,h.hz.below hb,h.hq.below hb,h.hz'.below hb,h.hq'.below hb⟩
theorem RBk.ndb (h:RBk w g n A l c B m d n' A' l' c' B' m' d' s):NdB w g:=blk_ndb h.k fun j v hv=>by
 match j,hv with
 | 0,hv=>simp at hv;subst hv;exact noDigit_bool _
 | 1,hv=>simp at hv;subst hv;exact noDigit_slice _ _ _
 | 2,hv=>simp at hv;subst hv;exact noDigit_slice _ _ _
 | 3,hv=>simp at hv;subst hv;exact noDigit_bool _
 | 4,hv=>simp at hv;subst hv;exact noDigit_slice _ _ _
 | 5,hv=>simp at hv;subst hv;exact noDigit_slice _ _ _
 | j+6,hv=>simp at hv
variable {n₂:Bool} {A₂:Option Addr} {l₂ c₂:Nat} {B₂:Option Addr} {m₂ d₂:Nat} {n₃:Bool} {A₃:Option Addr} {l₃ c₃:Nat} {B₃:Option Addr} {m₃ d₃:Nat}
theorem RBk.put (h:RBk w g n A l c B m d n' A' l' c' B' m' d' s) (h1:IntN w n₂ A₂ l₂ c₂ t.1.z) (h2:NatN w B₂ m₂ d₂ t.1.q) (h3:IntN w n₃ A₃ l₃ c₃ t.2.z) (h4:NatN w B₃ m₃ d₃ t.2.q) :
 RBk (pu6 w g (.bool n₂) (.slice A₂ l₂ c₂) (.slice B₂ m₂ d₂) (.bool n₃) (.slice A₃ l₃ c₃) (.slice B₃ m₃ d₃)) g n₂ A₂ l₂ c₂ B₂ m₂ d₂ n₃ A₃ l₃ c₃ B₃ m₃ d₃ t:=by
 have hf:=pu6_frs w g (.bool n₂) (.slice A₂ l₂ c₂) (.slice B₂ m₂ d₂) (.bool n₃) (.slice A₃ l₃ c₃) (.slice B₃ m₃ d₃)
 have nd:=h.ndb
 exact ⟨(((((h.k.set_ 0 _).set_ 1 _).set_ 2 _).set_ 3 _).set_ 4 _).set_ 5 _,h1.frs hf nd nd,h2.frs hf nd nd,h3.frs hf nd nd,h4.frs hf nd nd⟩
end
end Go.Proofs.YtobcbjcnjpgipaaGreat
namespace Go.Proofs.YtobcbjcnjpgipaaGreat
open Go.RowKit
section
variable {K i j:Nat} {a b:Fq} {r:Fq×Fq} {Q f:List Int}
theorem Dy.le (h:Dy K i a) (hij:i≤j):Dy K j a:=⟨h.p,Nat.dvd_trans h.d (Nat.pow_dvd_pow 2 hij),h.z⟩
theorem Dy.nf (h:Dy K i a):Dy K i a.nf:=by
 have hp:=(Go.Proofs.YtobcbjcnjpgipaaGreat.nf_v (z:=a.z) h.p).2.1
 obtain ⟨g,hg⟩:∃ g,g=Nat.gcd a.z.natAbs a.q:=⟨_,rfl⟩
 have hg0:0<g:=by rw [hg];exact Nat.gcd_pos_of_pos_right _ h.p
 have d2:g∣a.q:=by rw [hg];exact Nat.gcd_dvd_right _ _
 have d1:g∣a.z.natAbs:=by rw [hg];exact Nat.gcd_dvd_left _ _
 have eq:a.nf.q=a.q / g:=by rw [hg];rfl
 have ez:a.nf.z.natAbs=a.z.natAbs / g:=by
  show (rz a.z a.q).natAbs=_
  unfold rz
  rw [Int.natAbs_tdiv,hg,Int.natAbs_natCast];rfl
 refine ⟨hp,?_,?_⟩
 ·rw [eq];exact Nat.dvd_trans (Nat.div_dvd_of_dvd d2) h.d
 ·rw [ez,eq,← Nat.mul_div_assoc _ d2]
  exact Nat.div_le_div_right h.z
def DyR (K i:Nat) (r:Fq×Fq):Prop:=Dy K i r.1∧Dy K i r.2
theorem DyR.le (h:DyR K i r) (hij:i≤j):DyR K j r:=⟨h.1.le hij,h.2.le hij⟩
theorem hlf_dy (h:DyR K i r):DyR K (i+1) (hlf Q r):=by
 have hm:=h.1.mid h.2
 unfold hlf
 split
 ·exact h.le (Nat.le_succ _)
 ·split
  ·exact ⟨hm.nf,hm.nf⟩
  ·split
   ·exact ⟨hm,h.2.up⟩
   ·exact ⟨h.1.up,hm⟩
structure DyW (K:Nat) (W:Rat) (i:Nat) (r:Fq×Fq):Prop where
 d:DyR K i r
 w:r.1.v=r.2.v∨(r.2.v-r.1.v)*2^i=W
theorem pow2_succ (i:Nat):(2:Rat)^(i+1)=2^i*2:=by rw [Rat.pow_succ]
theorem isl_dw {PS:List (List Int)} {W:Rat}:∀ (n i:Nat) (a b:Fq),Dy K i a→Dy K i b→(b.v-a.v)*2^i=W→∀ r∈isl Q PS n a b,∃ j,i≤j∧j≤i+n∧DyW K W j r
 | 0,_,_,_,_,_,_,r,hr=>by simp [isl] at hr
 | n+1,i,a,b,ha,hb,hw,r,hr=>by
   have e:isl Q PS (n+1) a b=if icnt Q PS a b<1 then [] else if icnt Q PS a b=1∧a.sgn Q≠0∧b.sgn Q≠0 then [(a.nf,b.nf)] else isl Q PS n a (a.mid b) ++ (if (a.mid b).sgn Q=0 then [((a.mid b).nf,(a.mid b).nf)] else []) ++ isl Q PS n (a.mid b) b:=rfl
   rw [e] at hr
   have hm:=ha.mid hb
   have hv:=Fq.mid_v ha.p hb.p
   by_cases c1:icnt Q PS a b<1
   ·rw [if_pos c1] at hr;simp at hr
   rw [if_neg c1] at hr
   by_cases c2:icnt Q PS a b=1∧a.sgn Q≠0∧b.sgn Q≠0
   ·rw [if_pos c2,List.mem_singleton] at hr
    rw [hr]
    refine ⟨i,Nat.le_refl _,by omega,⟨ha.nf,hb.nf⟩,.inr ?_⟩
    show (b.nf.v-a.nf.v)*2^i=W
    rw [(Fq.nf_v ha.p).1,(Fq.nf_v hb.p).1]
    exact hw
   rw [if_neg c2] at hr
   rcases List.mem_append.1 hr with hr | hr
   ·rcases List.mem_append.1 hr with hr | hr
    ·obtain ⟨j,j1,j2,j3⟩:=isl_dw (W:=W) n (i+1) a (a.mid b) ha.up hm (by rw [hv.1,pow2_succ];grind) r hr
     exact ⟨j,by omega,by omega,j3⟩
    ·split at hr
     ·rw [List.mem_singleton] at hr
      rw [hr]
      exact ⟨i+1,by omega,by omega,⟨hm.nf,hm.nf⟩,.inl rfl⟩
     ·simp at hr
   ·obtain ⟨j,j1,j2,j3⟩:=isl_dw (W:=W) n (i+1) (a.mid b) b hm hb.up (by rw [hv.1,pow2_succ];grind) r hr
    exact ⟨j,by omega,by omega,j3⟩
theorem nn_zb2 (h:SqF Q 16):(cbn Q+1)*2^(NN+2500)≤ZB:=by
 have h1:=cbn_le h
 have h2:BB^17+1≤BB^18:=by
  have h3:BB^17<BB^18:=Nat.pow_lt_pow_right (by rw [BB_eq];decide) (by decide)
  omega
 obtain ⟨k,hk⟩:∃ k:Nat,k=18:=⟨_,rfl⟩
 have h4:cbn Q+1≤2^(32*k):=by rw [← bb_two,hk];omega
 have e:ZB=2^(32*ZK):=by unfold ZB;rw [bb_two]
 refine Nat.le_trans (Nat.mul_le_mul_right _ h4) ?_
 rw [e,← Nat.pow_add]
 exact Nat.pow_le_pow_right (by decide) (by rw [hk,NN_eq,ZK_eq];decide)
theorem DyR.fqb {N:Nat} (h:DyR K i r) (hi:i≤N) (hN:(K+1)*2^N≤ZB):FqB r.1∧FqB r.2∧(i+1≤N→FqB (r.1.mid r.2)):=⟨h.1.fqb hi hN,h.2.fqb hi hN,fun h2=>(h.1.mid h.2).fqb h2 hN⟩
theorem proots_dw (f:List Int):∀ r∈proots f,∃ j,j≤NN+1∧DyW (cbn (qpart f)) (2*(cbn (qpart f):Nat)) j r:=by
 unfold proots
 by_cases h:plen (qpart f)<2
 ·rw [if_pos h];intro r hr;simp at hr
 ·rw [if_neg h]
  have hv:=end_v (cbn (qpart f))
  intro r hr
  obtain ⟨j,_,j2,j3⟩:=isl_dw (K:=cbn (qpart f)) (W:=2*((cbn (qpart f):Nat):Rat)) (NN+1) 0 ⟨-((cbn (qpart f):Nat):Int),1⟩ ⟨((cbn (qpart f):Nat):Int),1⟩ ⟨Nat.one_pos,by simp,by simp⟩ ⟨Nat.one_pos,by simp,by simp⟩ (by rw [hv.1,hv.2,Rat.pow_zero];grind) r hr
  exact ⟨j,by omega,j3⟩
end
end Go.Proofs.YtobcbjcnjpgipaaGreat
namespace Go.Proofs.YtobcbjcnjpgipaaGreat
open Go Go.RowKit
section
variable {f:List Int} {x:Pt} {a b a' b':Fq} {s:Fq×Fq} {j:Nat}
theorem IsoV.congr (h:IsoV f x a b) (ha:a'.v=a.v) (hb:b'.v=b.v):IsoV f x a' b':=by
 unfold IsoV Fq.p at *
 rw [ha,hb]
 exact h
structure HSt (f:List Int) (x:Pt) (j:Nat) (s:Fq×Fq):Prop where
 iso:IsoV f x s.1 s.2
 d:DyR (cbn (qpart f)) j s
theorem HSt.fqb (h9:P9 f) (h0:plen f≠0) (h:HSt f x j s) (hj:j≤NN+2500):FqB s.1∧FqB s.2:=by
 have:=h.d.fqb hj (nn_zb2 (SqF.of9 h9.pq h0))
 exact ⟨this.1,this.2.1⟩
theorem HSt.vld (h9:P9 f) (h0:plen f≠0) (h:HSt f x j s):vld 2 f s.1 s.2=true:=(vld_iff h9.pq h0 h.d.1.p h.d.2.p).2 ⟨x,h.iso⟩
theorem HSt.vld1 (h9:P9 f) (h0:plen f≠0) (h:HSt f x j s):Go.Proofs.YtobcbjcnjpgipaaGreat.vld 1 f s.1 s.2=true:=by rw [vld_one h9.pq h.d.1.p h.d.2.p];exact h.vld h9 h0
theorem HSt.half (h9:P9 f) (h0:plen f≠0) (h:HSt f x j s):HSt f x (j+1) (hlf (qpart f) s)∧Half s (hlf (qpart f) s):=by
 have hq:=q_facts h9.q h0
 have hs:=hlf_spec hq.q0 hq.simple (fun y=>(hq.root y).symm) h.d.1.p h.d.2.p h.iso
 exact ⟨⟨hs.1,hlf_dy h.d⟩,hs.2⟩
theorem HSt.nf (h:HSt f x j s):HSt f x j (nfr s)∧(nfr s).1.v=s.1.v∧(nfr s).2.v=s.2.v:=by
 have e1:=(Fq.nf_v h.d.1.p).1
 have e2:=(Fq.nf_v h.d.2.p).1
 exact ⟨⟨h.iso.congr e1 e2,h.d.1.nf,h.d.2.nf⟩,e1,e2⟩
theorem HSt.mid (h9:P9 f) (h0:plen f≠0) (h:HSt f x j s) (hj:j<NN+2500):FqB (s.1.mid s.2):=(h.d.fqb (Nat.le_of_lt hj) (nn_zb2 (SqF.of9 h9.pq h0))).2.2 hj
theorem cmp_le (ha:0<a.q) (hb:0<b.q) (h:a.v≤b.v):fcmp a b≤0:=by
 have:¬ 0<fcmp a b:=fun c=>by
  have:=(fcmp_pos ha hb).1 c
  grind
 omega
theorem HSt.within {t:Fq×Fq} {i:Nat} (h9:P9 f) (h0:plen f≠0) (h:HSt f x j s) (ht:HSt f x i t) (h1:s.1.v≤t.1.v) (h2:t.2.v≤s.2.v):wthn f t s :=
 ⟨ht.vld1 h9 h0,cmp_le h.d.1.p ht.d.1.p h1,cmp_le ht.d.2.p h.d.2.p h2⟩
theorem proots_hst (h9:P9 f) (h0:plen f≠0) {k:Nat} (hk:k<(proots f).length):∃ x,HSt f x (NN+1) ((proots f).getD k r00):=by
 obtain ⟨xs,h⟩:=rf_ex h9.pq h0
 obtain ⟨i,i1,i2⟩:=proots_dw f _ (getD_mem hk r00)
 exact ⟨_,h.iso k (by rw [← h.len];exact hk),i2.d.le i1⟩
def wid (s:Fq×Fq):Fq:=s.2.sub s.1
theorem wid_v (h1:0<s.1.q) (h2:0<s.2.q):(wid s).v=s.2.v-s.1.v:=Fq.sub_v h2 h1
noncomputable def WK:Nat:=2*ZK+1
theorem wid_sz (h1:FqB s.1) (h2:FqB s.2):Sz WK (wid s):=by
 have:=h2.sz.sub h1.sz
 have e:ZK+ZK+1=WK:=by unfold WK;omega
 rw [e] at this
 exact this
theorem wk_lt:WK<FW:=by unfold WK;rw [ZK_eq,FW_eq];decide
theorem wk2_lt:WK+WK+1<FW:=by unfold WK;rw [ZK_eq,FW_eq];decide
end
end Go.Proofs.YtobcbjcnjpgipaaGreat
namespace Go.Proofs.YtobcbjcnjpgipaaGreat
open Go Go.RowKit
def XN (X:Nat→Prop) (W:World):Prop:=∀ k,X k→(∃ o,W.heap[k]?=some o∧o.isCells=true)∧NdB W k
theorem XN.lt {X:Nat→Prop} {W:World} (h:XN X W) {k:Nat} (hk:X k):k<W.heap.size:=by
 obtain ⟨⟨o,h1,_⟩,_⟩:=h k hk
 exact (Array.getElem?_eq_some_iff.1 h1).1
structure KpX (X:Nat→Prop) (W W':World):Prop where
 os:W'.os=W.os
 tape:W'.tape=W.tape
 output:W'.output=W.output
 size:W.heap.size≤W'.heap.size
 same:∀ k o,¬ X k→W.heap[k]?=some o→o.isCells=true→W'.heap[k]?=some o
 nd:XN X W→XN X W'
theorem KpX.refl (X:Nat→Prop) (W:World):KpX X W W:=⟨rfl,rfl,rfl,Nat.le_refl _,fun _ _ _ h _=>h,fun h=>h⟩
theorem KpX.trans {X:Nat→Prop} {A B C:World} (h:KpX X A B) (k:KpX X B C):KpX X A C :=
 ⟨k.os.trans h.os,k.tape.trans h.tape,k.output.trans h.output,Nat.le_trans h.size k.size,fun i o hi ho hc=>k.same i o hi (h.same i o hi ho hc) hc,fun hb=>k.nd (h.nd hb)⟩
theorem KpX.putObj (X:Nat→Prop) {W:World} {l:Nat} {o:Obj} {o':Obj} (hl:W.heap[l]?=some o) (hc:o.isCells=false):KpX X W (W.putObj l o'):=by
 have hne:∀ k x,W.heap[k]?=some x→x.isCells=true→k≠l:=fun k x hk hx e=>by rw [e,hl] at hk;cases hk;rw [hc] at hx;cases hx
 refine ⟨rfl,rfl,rfl,by simp,fun k x _ hk hx=>?_,fun h k hk=>?_⟩
 ·rw [World.putObj_heap_other (hne k x hk hx)];exact hk
 ·obtain ⟨⟨x,h1,h2⟩,h3⟩:=h k hk
  have e:=World.putObj_heap_other (w:=W) (o:=o') (hne k x h1 h2)
  exact ⟨⟨x,e.trans h1,h2⟩,fun q v hv=>h3 q v (by rw [← hv];exact (World.cell?_of_block (w:=W) e).symm)⟩
theorem KpX.below {X:Nat→Prop} {A B:World} (h:Below A.heap.size A B):KpX X A B :=
 ⟨h.os,h.tape,h.output,h.size,fun k _ _ hk _=>(h.block k (Array.getElem?_eq_some_iff.1 hk).1).trans hk,fun hx k hk=>by
   have e:=h.block k (hx.lt hk)
   obtain ⟨⟨x,h1,h2⟩,h3⟩:=hx k hk
   exact ⟨⟨x,e.trans h1,h2⟩,fun q v hv=>h3 q v (by rw [← hv];exact (World.cell?_of_block (w:=A) e).symm)⟩⟩
section
variable {X:Nat→Prop} {W W':World}
theorem heap_of_cell {W:World} {k o:Nat} {v:Value} (hv:W.cell? ⟨k,o,none⟩=some v):∃ x,W.heap[k]?=some x∧x.isCells=true:=by
 unfold World.cell? at hv
 cases e:W.heap[k]? with
 | none=>simp [e] at hv
 | some x=>cases x<;>simp_all [Obj.isCells]
theorem KpX.blk {k o:Nat} {v:Value} (h:KpX X W W') (hk:¬ X k) (hv:W.cell? ⟨k,o,none⟩=some v):W'.heap[k]?=W.heap[k]?:=by
 obtain ⟨x,hx,hc⟩:=heap_of_cell hv
 rw [h.same k x hk hx hc,hx]
theorem KpX.cell {k o:Nat} {v:Value} (h:KpX X W W') (hk:¬ X k) (hv:W.cell? ⟨k,o,none⟩=some v):W'.cell? ⟨k,o,none⟩=some v :=
 (World.cell?_of_block (w:=W) (h.blk hk hv)).trans hv
theorem Blk.kpx {g t:Nat} {cs:Array Value} (hb:Blk W g t cs) (h:KpX X W W') (hk:¬ X g):Blk W' g t cs:=by
 unfold Blk at *
 exact h.same _ _ hk hb rfl
theorem DigAt.kpx {A:Option Addr} {len cap:Nat} {ds:List Nat} (hd:DigAt W A len cap ds) (h:KpX X W W') (hX:XN X W):DigAt W' A len cap ds:=by
 refine ⟨hd.length,hd.cap,hd.wd,?_⟩
 rcases hd.cells with e | ⟨b,off,hA,hlt,hc⟩
 ·exact .inl e
 ·rcases Nat.eq_zero_or_pos len with e | e
  ·exact .inl e
  ·have hnx:¬ X b:=fun hx=>(hX b hx).2 _ _ (hc 0 e) _ rfl
   exact .inr ⟨b,off,hA,Nat.lt_of_lt_of_le hlt h.size,fun j hj=>h.cell hnx (hc j hj)⟩
theorem NatN.kpx {A:Option Addr} {len cap n:Nat} (hd:NatN W A len cap n) (h:KpX X W W') (hX:XN X W):NatN W' A len cap n:=⟨hd.digits.kpx h hX⟩
theorem IntN.kpx {neg:Bool} {A:Option Addr} {len cap:Nat} {z:Int} (hd:IntN W neg A len cap z) (h:KpX X W W') (hX:XN X W):IntN W' neg A len cap z:=⟨hd.nat.kpx h hX,hd.sign⟩
end
structure PolyX (X:Nat→Prop) (w:World) (A:Option Addr) (l c:Nat) (p:List Int):Prop where
 n:PolyN w A l c p
 off:l=0∨∃ b o,A=some ⟨b,o,none⟩∧¬ X b
theorem PolyX.below {X:Nat→Prop} {w w':World} {A:Option Addr} {l c:Nat} {p:List Int} (h:PolyX X w A l c p) (hb:Below w.heap.size w w'):PolyX X w' A l c p:=⟨h.n.below ikN hb,h.off⟩
theorem PolyX.kpx {X:Nat→Prop} {W W':World} {A:Option Addr} {l c:Nat} {p:List Int} (hp:PolyX X W A l c p) (h:KpX X W W') (hX:XN X W):PolyX X W' A l c p:=by
 refine ⟨⟨hp.n.length,hp.n.cap,?_⟩,hp.off⟩
 rcases hp.n.elems with h0 | ⟨b,o,hA,hlt,he⟩
 ·exact .inl h0
 ·rcases hp.off with h0 | ⟨b',o',hA',hne⟩
  ·exact .inl h0
  ·rw [hA] at hA'
   injection hA' with e
   injection e with e1 e2 e3
   subst e1 e2
   refine .inr ⟨b,o,hA,Nat.lt_of_lt_of_le hlt h.size,fun j hj=>?_⟩
   obtain ⟨neg,Aj,lj,cj,f1,f2,f3⟩:=he j hj
   exact ⟨neg,Aj,lj,cj,h.cell hne f1,h.cell hne f2,f3.kpx h hX⟩
theorem RBk.kpx {X:Nat→Prop} {w w':World} {g:Nat} {n:Bool} {A:Option Addr} {l c:Nat} {B:Option Addr} {m d:Nat} {n':Bool} {A':Option Addr} {l' c':Nat} {B':Option Addr} {m' d':Nat} {s:Fq×Fq} (h:RBk w g n A l c B m d n' A' l' c' B' m' d' s) (hk:KpX X w w') (hX:XN X w) (hg:¬ X g):RBk w' g n A l c B m d n' A' l' c' B' m' d' s :=
 ⟨h.k.kpx hk hg,h.hz.kpx hk hX,h.hq.kpx hk hX,h.hz'.kpx hk hX,h.hq'.kpx hk hX⟩
def RtO:Obj→Prop
 | .cells cs _ _=>∃ n A l c B m d n' A' l' c' B' m' d',cs=#[.bool n,.slice A l c,.slice B m d,.bool n',.slice A' l' c',.slice B' m' d']
 | _=>False
structure NRt (B:Nat) (A C:World):Prop where
 bel:Below B A C
 same:∀ (k:Nat) (o:Obj),¬ RtO o→A.heap[k]?=some o→C.heap[k]?=some o
theorem NRt.of {B:Nat} {A C:World} (hb:Below A.heap.size A C) (hB:B≤A.heap.size):NRt B A C :=
 ⟨hb.mono hB,fun k _ _ h=>(hb.block k (Array.getElem?_eq_some_iff.1 h).1).trans h⟩
theorem NRt.put {B g:Nat} {A C:World} {n:Bool} {A1:Option Addr} {l c:Nat} {B1:Option Addr} {m d:Nat} {n':Bool} {A':Option Addr} {l' c':Nat} {B':Option Addr} {m' d':Nat} {s:Fq×Fq} (h:RBk A g n A1 l c B1 m d n' A' l' c' B' m' d' s) (hf:FrS g g A C) (hg:B≤g):NRt B A C:=by
 refine ⟨hf.mono (Below.refl _ _) hg hg (by have:=h.k.lt;omega),fun k o ho hk=>?_⟩
 have hlt:=(Array.getElem?_eq_some_iff.1 hk).1
 have hne:k≠g:=by
  rintro rfl
  have:=h.k
  unfold Blk at this
  rw [hk] at this
  injection this with this
  subst this
  exact ho ⟨_,_,_,_,_,_,_,_,_,_,_,_,_,_,rfl⟩
 exact (hf.same k hlt hne hne).trans hk
theorem DigAt.nrt {B:Nat} {W W':World} {A:Option Addr} {len cap:Nat} {ds:List Nat} (hd:DigAt W A len cap ds) (h:NRt B W W'):DigAt W' A len cap ds:=by
 refine ⟨hd.length,hd.cap,hd.wd,?_⟩
 rcases hd.cells with e | ⟨b,off,hA,hlt,hc⟩
 ·exact .inl e
 ·rcases Nat.eq_zero_or_pos len with e | e
  ·exact .inl e
  ·obtain ⟨x,hx,_⟩:=heap_of_cell (hc 0 e)
   have hn:¬ RtO x:=by
    intro hr
    cases x with
    | cells cs t fr =>
      obtain ⟨n,A1,l1,c1,B1,m1,d1,n2,A2,l2,c2,B2,m2,d2,rfl⟩:=hr
      have e1:=hc 0 e
      rw [cell_of_row W b (off+0) _ t fr hx] at e1
      have hlt6:off+0<6:=by
       rcases Nat.lt_or_ge (off+0) 6 with h' | h'
       ·exact h'
       ·rw [Array.getElem?_eq_none (by simpa using h')] at e1;cases e1
      match off,hlt6 with
      | 0,_=>simp at e1
      | 1,_=>simp at e1
      | 2,_=>simp at e1
      | 3,_=>simp at e1
      | 4,_=>simp at e1
      | 5,_=>simp at e1
    | _=>exact hr
   have hk:W'.heap[b]?=W.heap[b]?:=(h.same b x hn hx).trans hx.symm
   exact .inr ⟨b,off,hA,Nat.lt_of_lt_of_le hlt h.bel.size,fun j hj=>(World.cell?_of_block (w:=W) hk).trans (hc j hj)⟩
theorem NatN.nrt {B:Nat} {W W':World} {A:Option Addr} {len cap n:Nat} (hd:NatN W A len cap n) (h:NRt B W W'):NatN W' A len cap n:=⟨hd.digits.nrt h⟩
theorem IntN.nrt {B:Nat} {W W':World} {neg:Bool} {A:Option Addr} {len cap:Nat} {z:Int} (hd:IntN W neg A len cap z) (h:NRt B W W'):IntN W' neg A len cap z:=⟨hd.nat.nrt h,hd.sign⟩
structure RV where
 n:Bool
 A:Option Addr
 l:Nat
 c:Nat
 B:Option Addr
 m:Nat
 d:Nat
 n':Bool
 A':Option Addr
 l':Nat
 c':Nat
 B':Option Addr
 m':Nat
 d':Nat
 s:Fq×Fq
def RV.val (x:RV):Value:=.agg #[.bool x.n,.slice x.A x.l x.c,.slice x.B x.m x.d,.bool x.n',.slice x.A' x.l' x.c',.slice x.B' x.m' x.d']
def RV.ok (x:RV) (w:World):Prop:=IntN w x.n x.A x.l x.c x.s.1.z∧NatN w x.B x.m x.d x.s.1.q∧IntN w x.n' x.A' x.l' x.c' x.s.2.z∧NatN w x.B' x.m' x.d' x.s.2.q
def stp (Q:List Int) (r:Fq×Fq):Nat→Fq×Fq
 | 0=>r
 | k+1=>hlf Q (stp Q r k)
def ext (s:Fq×Fq):Bool:=fcmp s.1 s.2 == 0
def NxS (Q:List Int) (r:Fq×Fq) (pre:List RV) (x:RV):Prop:=x.s=nfr (stp Q r pre.length)∧∀ j,j<pre.length→ext (stp Q r j)=false
def EnS (Q:List Int) (r:Fq×Fq) (xs:List RV):Prop:=0<xs.length∧ext (stp Q r (xs.length-1))=true
theorem HSt.stp {f:List Int} {x:Pt} {j:Nat} {s:Fq×Fq} (h9:P9 f) (h0:plen f≠0) (h:HSt f x j s):∀ k,HSt f x (j+k) (stp (qpart f) s k)
 | 0=>h
 | k+1=>((HSt.stp h9 h0 h k).half h9 h0).1
end Go.Proofs.YtobcbjcnjpgipaaGreat
namespace Go.Proofs.YtobcbjcnjpgipaaGreat
open Go Go.RowKit
theorem XN.frs {X:Nat→Prop} {W W':World} {g:Nat} (h:XN X W) (hf:FrS g g W W') (hg:¬ X g):XN X W':=fun k hk=>by
 have hne:k≠g:=fun e=>hg (e ▸ hk)
 have e:=hf.same k (h.lt hk) hne hne
 obtain ⟨⟨x,h1,h2⟩,h3⟩:=h k hk
 exact ⟨⟨x,e.trans h1,h2⟩,fun q v hv=>h3 q v (by rw [← hv];exact (World.cell?_of_block (w:=W) e).symm)⟩
structure PolyY (X:Nat→Prop) (N:Nat) (w:World) (A:Option Addr) (l c:Nat) (p:List Int):Prop where
 n:PolyN w A l c p
 off:l=0∨∃ b o,A=some ⟨b,o,none⟩∧¬ X b∧b<N
theorem PolyX.y {X:Nat→Prop} {w:World} {A:Option Addr} {l c:Nat} {p:List Int} (h:PolyX X w A l c p):PolyY X w.heap.size w A l c p:=by
 refine ⟨h.n,?_⟩
 rcases h.off with h0 | ⟨b,o,hA,hx⟩
 ·exact .inl h0
 rcases h.n.elems with h0 | ⟨b',o',hA',hlt,_⟩
 ·exact .inl h0
 ·rw [hA'] at hA
  injection hA with e
  injection e with e1 e2 e3
  subst e1 e2
  exact .inr ⟨b',o',hA',hx,hlt⟩
theorem PolyY.below {X:Nat→Prop} {N:Nat} {w w':World} {A:Option Addr} {l c:Nat} {p:List Int} (h:PolyY X N w A l c p) (hb:Below w.heap.size w w'):PolyY X N w' A l c p:=⟨h.n.below ikN hb,h.off⟩
theorem PolyY.kpx {X:Nat→Prop} {N:Nat} {W W':World} {A:Option Addr} {l c:Nat} {p:List Int} (hp:PolyY X N W A l c p) (h:KpX X W W') (hX:XN X W):PolyY X N W' A l c p :=
 ⟨(PolyX.kpx (X:=X) ⟨hp.n,hp.off.imp id fun ⟨b,o,h1,h2,_⟩=>⟨b,o,h1,h2⟩⟩ h hX).n,hp.off⟩
theorem PolyY.frs {X:Nat→Prop} {N g:Nat} {W W':World} {A:Option Addr} {l c:Nat} {p:List Int} (hp:PolyY X N W A l c p) (h:FrS g g W W') (hg:NdB W g) (hN:N≤g):PolyY X N W' A l c p :=
 ⟨(PolyG.mk hp.n (hp.off.imp id fun ⟨b,o,h1,_,h3⟩=>⟨b,o,h1,by omega,by omega⟩)).frs h hg hg,hp.off⟩
structure StI (X:Nat→Prop) (J:List RV→World→Prop) (w:World) (gP:Nat) (Ap:Option Addr) (lp cp:Nat) (Q:List Int) (r:Fq×Fq) (pre:List RV) (g:Nat) (wr:World):Prop where
 j:J pre wr
 ne:∀ j,j<pre.length→ext (stp Q r j)=false
 p:PolyY X w.heap.size wr Ap lp cp Q
 c:wr.cell? ⟨gP,0,none⟩=some (.slice Ap lp cp)
 nd:XN X wr
 gw:w.heap.size≤g
 s:∃ n A l c B m d n' A' l' c' B' m' d',RBk wr g n A l c B m d n' A' l' c' B' m' d' (stp Q r pre.length)
 sz:w.heap.size≤wr.heap.size
set_option maxRecDepth 100000 in
set_option maxHeartbeats 4000000 in
theorem steps2_any (l:Nat) (X:Nat→Prop) (gR gP:Nat) (F:List Int) (x:Pt) (r:Fq×Fq) (w:World) (J Jx:List RV→World→Prop) {n:Bool} {A:Option Addr} {l0 c:Nat} {B:Option Addr} {m d:Nat} {n':Bool} {A':Option Addr} {l' c':Nat} {B':Option Addr} {m' d':Nat} {Ap:Option Addr} {lp cp:Nat}
 (h9:P9 F) (h0:plen F≠0) (hs:HSt F x (NN+1) r) (hR:RBk w gR n A l0 c B m d n' A' l' c' B' m' d' r) (hP:PolyX X w Ap lp cp (qpart F)) (hc:w.cell? ⟨gP,0,none⟩=some (.slice Ap lp cp)) (hlp:lp≤1000000) (hPQ:∀ y,FqB y→PoOK y.z y.q (qpart F)) (hX:XN X w) (hgP:¬ X gP)
 (hJ:∀ s A B,NRt w.heap.size A B→J s A→J s B) (hJx:∀ s A B,NRt w.heap.size A B→Jx s A→Jx s B) (hN:∀ s A,J s A→s.length<12)
 (hY:∀ m pre x W1,J pre W1→NxS (qpart F) r pre x→x.ok W1→w.heap.size≤W1.heap.size→YieldAt Fence.wide m Tryz.prog l #[x.val] W1 fun e W' =>
   (e=.returned (.bool true)∧J (pre ++ [x]) W'∧KpX X W1 W')∨(e=.returned (.bool false)∧Jx (pre ++ [x]) W'∧KpX X W1 W'))
 (hj:J [] w) :
 Calls Tryz.prog 31 #[.func (.yield l) #[] #[],.pointer (some ⟨gR,0,none⟩),.pointer (some ⟨gP,0,none⟩)] w fun e W'=>(∃ v,e=.returned v)∧((∃ xs,EnS (qpart F) r xs∧J xs W')∨(∃ pre,Jx pre W')):=by
 have H9:=Lib.hid h9
 have H0:=Lib.hid h0
 have HS:=Lib.hid hs
 have HX:=Lib.hid hX
 have HJ:=Lib.hid hJ
 have HJx:=Lib.hid hJx
 have HN:=Lib.hid hN
 have HY:=Lib.hid hY
 have K0:=Lib.hid hR
 have HP:=Lib.hid hP.y
 have hgPl:gP<w.heap.size:=by
  obtain ⟨o,h1,_⟩:=heap_of_cell hc
  exact (Array.getElem?_eq_some_iff.1 h1).1
 have Hj:=Lib.hid hj
 have x0:=hR.tb.r.c0;have x1:=hR.tb.r.c1;have x2:=hR.tb.r.c2;have x3:=hR.tb.c3;have x4:=hR.tb.c4;have x5:=hR.tb.c5
 obtain ⟨Q,hQ⟩:∃ Q,Q=qpart F:=⟨_,rfl⟩
 have HQ:=Lib.hid hQ
 rw [← hQ] at HY HP hPQ ⊢
 have PQ:=Lib.hid hPQ
 clear h9 h0 hs hX hJ hJx hN hY hR hP hj hQ hPQ
 go_enter Tryz.func31,Tryz.ntmps31
 refine (wpIn_wide (n:=9)).1 ?_
 gi_wp2_with fail
 obtain ⟨g0,hg0⟩:∃ g,g=w.heap.size:=⟨_,rfl⟩
 obtain ⟨W1,hW1⟩:∃ W,W=w.alloc (tbox n A l0 c B m d n' A' l' c' B' m' d'):=⟨_,rfl⟩
 have hb1:Below w.heap.size w W1:=by rw [hW1];exact below_new _ _
 have K1:RBk W1 g0 n A l0 c B m d n' A' l' c' B' m' d' r:=by rw [hW1,hg0];exact RBk.make K0.out.hz K0.out.hq K0.out.hz' K0.out.hq'
 have hst:StI X J w gP Ap lp cp Q r [] g0 W1:=⟨HJ.out _ _ _ (NRt.of hb1 (Nat.le_refl _)) Hj.out,fun j h=>absurd h (Nat.not_lt_zero _),HP.out.below hb1,(KpX.below hb1).cell hgP hc,(KpX.below hb1).nd HX.out,by omega,⟨_,_,_,_,_,_,_,_,_,_,_,_,_,_,K1⟩,hb1.size⟩
 have HST:=Lib.hid hst
 rw [← hW1,← hg0]
 clear hst K1 hb1 hW1 hg0 K0 HP Hj x0 x1 x2 x3 x4 x5 hc
 gi_loopg [4] 12 (fun k s4 wr=>∃ (pre:List RV) (g:Nat),pre.length+k=12∧s4=.pointer (some ⟨g,0,none⟩)∧StI X J w gP Ap lp cp Q r pre g wr)
 case atStart=>exact ⟨[],g0,rfl,rfl,HST.out⟩
 case round =>
  clear HST
  obtain ⟨pre,g,hk,rfl,st⟩:=hrel
  have hl:=HN.out _ _ st.j
  obtain ⟨n1,A1,l1,c1,B1,m1,d1,n2,A2,l2,c2,B2,m2,d2,K⟩:=st.s
  have ST:=Lib.hid st
  have hg:=st.gw
  have hgs:=K.k.lt
  have hng:¬ X g:=fun h=>by have:=HX.out.lt h;omega
  have hss:=st.sz
  obtain ⟨s,hsd⟩:∃ s,s=stp Q r pre.length:=⟨_,rfl⟩
  rw [← hsd] at K
  have hst:=HS.out.stp H9.out H0.out pre.length
  rw [← HQ.out,← hsd] at hst
  obtain ⟨fa,fb⟩:=hst.fqb H9.out H0.out (by omega)
  have fm:=hst.mid H9.out H0.out (by omega)
  have KK:=Lib.hid K
  have HSD:=Lib.hid hsd
  have x0:=K.tb.r.c0;have x1:=K.tb.r.c1;have x2:=K.tb.r.c2;have x3:=K.tb.c3;have x4:=K.tb.c4;have x5:=K.tb.c5
  clear st K hsd hst
  gi_wp2_with fail
  refine ⟨trivial,(callsIn_wide.2 (rcopy_any KK.out.hz KK.out.hq KK.out.hz' KK.out.hq' fa fb)).mono ?_⟩
  rintro e w3 ⟨⟨n3,A3,l3,c3,B3,m3,d3,n4,A4,l4,c4,B4,m4,d4,rfl,y1,y2,y3,y4⟩,hb3⟩
  have nd3:=(KpX.below hb3).nd ST.out.nd
  have P3:=Lib.hid (ST.out.p.below hb3)
  have C3:=Lib.hid ((KpX.below hb3).cell hgP ST.out.c)
  have K3:=Lib.hid (KK.out.move hb3)
  have hs3:=hb3.size
  obtain ⟨e3,he3⟩:∃ e:RV,e=⟨n3,A3,l3,c3,B3,m3,d3,n4,A4,l4,c4,B4,m4,d4,nfr s⟩:=⟨_,rfl⟩
  obtain ⟨yf,yt,yas,ybd,hy,hR⟩:=HY.out 8 pre e3 w3 (HJ.out _ _ _ (NRt.of hb3 hss) ST.out.j) ⟨by rw [he3,HSD.out],ST.out.ne⟩ (by rw [he3];exact ⟨y1,y2,y3,y4⟩) (by omega)
  have NE:=Lib.hid ST.out.ne
  have ND3:=Lib.hid nd3
  rw [he3] at hy
  simp only [RV.val] at hy
  clear y1 y2 y3 y4 hb3 nd3 ST KK x0 x1 x2 x3 x4 x5
  gi_wp2
  refine hR.mono ?_
  clear hR hy
  rintro e w4 (⟨rfl,hj4,hk4⟩ | ⟨rfl,hjx4,hk4⟩)
  ·have nd4:=hk4.nd ND3.out
   have K4:=K3.out.kpx hk4 ND3.out hng
   have P4:=Lib.hid (P3.out.kpx hk4 ND3.out)
   have C4:=Lib.hid (hk4.cell hgP C3.out)
   have hs4:=hk4.size
   have ND4:=Lib.hid nd4
   have KK:=Lib.hid K4
   have HJ4:=Lib.hid hj4
   have hgl:=K4.k.lt
   have x0:=K4.tb.r.c0;have x1:=K4.tb.r.c1;have x2:=K4.tb.r.c2;have x3:=K4.tb.c3;have x4:=K4.tb.c4;have x5:=K4.tb.c5
   clear nd4 K4 hk4 hj4 P3 C3 K3 ND3
   gi_wp2_with fail
   refine ⟨trivial,(callsIn_wide.2 (isexact_any KK.out.hz KK.out.hq KK.out.hz' KK.out.hq' fa fb)).mono ?_⟩
   rintro e w5 ⟨rfl,hb5⟩
   have K5:=Lib.hid (KK.out.move hb5)
   have P5:=Lib.hid (P4.out.below hb5)
   have C5:=Lib.hid ((KpX.below hb5).cell hgP C4.out)
   have ND5:=Lib.hid ((KpX.below hb5).nd ND4.out)
   have HJ5:=Lib.hid (HJ.out _ _ _ (NRt.of hb5 (by omega)) HJ4.out)
   have hs5:=hb5.size
   cases hE:(fcmp s.1 s.2 == 0) with
   | true =>
     have HE:=Lib.hid hE
     clear hE hb5 KK P4 C4 ND4 HJ4 K5 P5 C5 ND5 x0 x1 x2 x3 x4 x5
     gi_wp2
     exact bodyPost_end (results_none (by rfl) _ _ _) rfl ⟨⟨_,rfl⟩,.inl ⟨_,⟨by simp,by rw [List.length_append];show ext (stp Q r (pre.length+1-1))=true;rw [Nat.add_sub_cancel,← HSD.out];exact HE.out⟩,HJ5.out⟩⟩
   | false =>
     have HE:=Lib.hid hE
     have hgl5:=K5.out.k.lt
     have x0:=K5.out.tb.r.c0;have x1:=K5.out.tb.r.c1;have x2:=K5.out.tb.r.c2;have x3:=K5.out.tb.c3;have x4:=K5.out.tb.c4;have x5:=K5.out.tb.c5
     have xp:=C5.out
     have z0:=K5.out.k.frozen 0;have z1:=K5.out.k.frozen 1;have z2:=K5.out.k.frozen 2;have z3:=K5.out.k.frozen 3;have z4:=K5.out.k.frozen 4;have z5:=K5.out.k.frozen 5
     clear hE hb5 KK P4 C4 ND4 HJ4
     gi_wp2_with fail
     refine ⟨trivial,(callsIn_wide.2 (half_any ikN (r:=s) P5.out.n hlp PQ.out K5.out.hz K5.out.hq K5.out.hz' K5.out.hq' fa fb fm)).mono ?_⟩
     rintro e w6 ⟨⟨n7,A7,l7,c7,B7,m7,d7,n8,A8,l8,c8,B8,m8,d8,rfl,y1,y2,y3,y4⟩,hb6⟩
     have K6:=Lib.hid (K5.out.move hb6)
     have P6:=Lib.hid (P5.out.below hb6)
     have C6:=Lib.hid ((KpX.below hb6).cell hgP C5.out)
     have ND6:=Lib.hid ((KpX.below hb6).nd ND5.out)
     have HJ6:=Lib.hid (HJ.out _ _ _ (NRt.of hb6 (by omega)) HJ5.out)
     have hs6:=hb6.size
     have K7:=Lib.hid (K6.out.put (t:=hlf Q s) y1 y2 y3 y4)
     have hf:=pu6_frs w6 g (.bool n7) (.slice A7 l7 c7) (.slice B7 m7 d7) (.bool n8) (.slice A8 l8 c8) (.slice B8 m8 d8)
     have HF:=Lib.hid hf
     have x0:=K6.out.tb.r.c0;have x1:=K6.out.tb.r.c1;have x2:=K6.out.tb.r.c2;have x3:=K6.out.tb.c3;have x4:=K6.out.tb.c4;have x5:=K6.out.tb.c5
     have z0:=K6.out.k.frozen 0;have z1:=K6.out.k.frozen 1;have z2:=K6.out.k.frozen 2;have z3:=K6.out.k.frozen 3;have z4:=K6.out.k.frozen 4;have z5:=K6.out.k.frozen 5
     clear hf y1 y2 y3 y4 hb6 K5 P5 C5 ND5 HJ5 xp
     gi_wp2_with fail
     have hb7:=below_new (pu6 w6 g (.bool n7) (.slice A7 l7 c7) (.slice B7 m7 d7) (.bool n8) (.slice A8 l8 c8) (.slice B8 m8 d8)) (tbox n7 A7 l7 c7 B7 m7 d7 n8 A8 l8 c8 B8 m8 d8)
     have K8:=RBk.make K7.out.hz K7.out.hq K7.out.hz' K7.out.hq'
     have hsz:(pu6 w6 g (.bool n7) (.slice A7 l7 c7) (.slice B7 m7 d7) (.bool n8) (.slice A8 l8 c8) (.slice B8 m8 d8)).heap.size=w6.heap.size:=by simp [pu6]
     have J7:=HJ.out _ _ _ (NRt.put K6.out HF.out hg) HJ6.out
     have J8:=HJ.out _ _ _ (NRt.of hb7 (by omega)) J7
     have P7:=P6.out.frs HF.out K6.out.ndb hg
     have C7:=(HF.out.cell (k:=gP) (by omega) (by omega) (by omega) 0).trans C6.out
     have N7:=ND6.out.frs HF.out hng
     have el:(pre ++ [e3]).length=pre.length+1:=by rw [List.length_append];rfl
     have HST:Hid (StI X J w gP Ap lp cp Q r (pre ++ [e3]) w6.heap.size ((pu6 w6 g (.bool n7) (.slice A7 l7 c7) (.slice B7 m7 d7) (.bool n8) (.slice A8 l8 c8) (.slice B8 m8 d8)).alloc (tbox n7 A7 l7 c7 B7 m7 d7 n8 A8 l8 c8 B8 m8 d8))):=Lib.hid ⟨J8,fun j hj=>by
      rw [el] at hj
      rcases Nat.lt_or_ge j pre.length with h | h
      ·exact NE.out j h
      ·rw [show j=pre.length by omega,← HSD.out];exact HE.out,P7.below hb7,(KpX.below hb7).cell hgP C7,(KpX.below hb7).nd N7,by omega,⟨n7,A7,l7,c7,B7,m7,d7,n8,A8,l8,c8,B8,m8,d8,by rw [el,← hsz];show RBk _ _ _ _ _ _ _ _ _ _ _ _ _ _ _ _ (hlf Q (stp Q r pre.length));rw [← HSD.out];exact K8⟩,by rw [World.size_alloc,hsz];omega⟩
     gi_roundg (gk-1)
     case measure=>omega
     case rel=>exact ⟨pre ++ [e3],w6.heap.size,by rw [el];omega,rfl,HST.out⟩
  ·have HJX:=Lib.hid hjx4
   clear hjx4 hk4 P3 C3 K3 ND3
   gi_wp2
   refine ⟨trivial,?_⟩
   gi_wp2
   exact bodyPost_end (results_none (by rfl) _ _ _) rfl ⟨⟨_,rfl⟩,.inr ⟨_,HJX.out⟩⟩
end Go.Proofs.YtobcbjcnjpgipaaGreat
namespace Go.Proofs.YtobcbjcnjpgipaaGreat
open Go Go.RowKit
theorem poly_off {w:World} {A:Option Addr} {l c:Nat} {p:List Int} {g t:Nat} {cs:Array Value} (h:PolyN w A l c p) (h2:2≤l) (k:Blk w g t cs) (hcs:∀ (o:Nat) (b b':Bool) (A':Option Addr) (l' c':Nat),cs[o]?=some (.bool b)→cs[o+1]?=some (.slice A' l' c')→cs[o+2]?=some (.bool b')→False) :
 ∃ b o,A=some ⟨b,o,none⟩∧b≠g:=by
 rcases h.elems with h0 | ⟨b,off,hA,hlt,hj⟩
 ·omega
 refine ⟨b,off,hA,?_⟩
 rintro rfl
 obtain ⟨n0,A0,l0,c0,e1,e2,_⟩:=hj 0 (by omega)
 obtain ⟨n1,A1,l1,c1,e3,_,_⟩:=hj 1 (by omega)
 rw [k.cell] at e1 e2 e3
 exact hcs off n0 n1 A0 l0 c0 (by simpa using e1) (by simpa using e2) (by simpa using e3)
theorem rt_shape {n n':Bool} {A A' B B':Option Addr} {l c m d l' c' m' d':Nat} (o:Nat) (b b':Bool) (A0:Option Addr) (l0 c0:Nat) (h1:(#[Value.bool n,.slice A l c,.slice B m d,.bool n',.slice A' l' c',.slice B' m' d']:Array Value)[o]?=some (.bool b)) (h2:(#[Value.bool n,.slice A l c,.slice B m d,.bool n',.slice A' l' c',.slice B' m' d']:Array Value)[o+1]?=some (.slice A0 l0 c0)) (h3:(#[Value.bool n,.slice A l c,.slice B m d,.bool n',.slice A' l' c',.slice B' m' d']:Array Value)[o+2]?=some (.bool b')):False:=by
 match o with
 | 0=>simp at h3
 | 1=>simp at h1
 | 2=>simp at h1
 | 3=>simp at h3
 | 4=>simp at h1
 | 5=>simp at h1
 | o+6=>simp at h1
theorem one_shape {v:Value} (o:Nat) (b b':Bool) (A0:Option Addr) (l0 c0:Nat) (_:(#[v]:Array Value)[o]?=some (.bool b)) (h2:(#[v]:Array Value)[o+1]?=some (.slice A0 l0 c0)) (_:(#[v]:Array Value)[o+2]?=some (.bool b')):False:=by
 simp at h2
theorem stz_end {wb wz:World} {bA bR:Nat} {f:List Int} {r:Fq×Fq} {A4:Option Addr} {l4 c4:Nat} {n5:Bool} {A5:Option Addr} {l5 c5:Nat} {B5:Option Addr} {m5 d5:Nat} {n6:Bool} {A6:Option Addr} {l6 c6:Nat} {B6:Option Addr} {m6 d6:Nat}
 (hA:Blk wz bA 25 #[.slice none 0 0]) (hR:Blk wz bR 34 rz6) (hP:PolyN wz A4 l4 c4 (qpart f)) (z1:IntN wz n5 A5 l5 c5 (nfr r).1.z) (z2:NatN wz B5 m5 d5 (nfr r).1.q) (z3:IntN wz n6 A6 l6 c6 (nfr r).2.z) (z4:NatN wz B6 m6 d6 (nfr r).2.q) (hG:Below wb.heap.size wb wz) (h1:wb.heap.size≤bA) (h2:wb.heap.size≤bR) (h3:bA≠bR) (hq2:2≤(qpart f).length) (hl4:l4≤10) :
 ∃ gP gR Ap lp cp n A l c B m d n' A' l' c' B' m' d',Value.pointer (some ⟨bA,0,none⟩)=.pointer (some ⟨gP,0,none⟩)∧Value.pointer (some ⟨bR,0,none⟩)=.pointer (some ⟨gR,0,none⟩)∧(pu6 (wz.setCell ⟨bA,0,none⟩ (.slice A4 l4 c4)) bR (.bool n5) (.slice A5 l5 c5) (.slice B5 m5 d5) (.bool n6) (.slice A6 l6 c6) (.slice B6 m6 d6)).cell? ⟨gP,0,none⟩=some (.slice Ap lp cp)∧PolyN (pu6 (wz.setCell ⟨bA,0,none⟩ (.slice A4 l4 c4)) bR (.bool n5) (.slice A5 l5 c5) (.slice B5 m5 d5) (.bool n6) (.slice A6 l6 c6) (.slice B6 m6 d6)) Ap lp cp (qpart f)∧lp≤10∧RBk (pu6 (wz.setCell ⟨bA,0,none⟩ (.slice A4 l4 c4)) bR (.bool n5) (.slice A5 l5 c5) (.slice B5 m5 d5) (.bool n6) (.slice A6 l6 c6) (.slice B6 m6 d6)) gR n A l c B m d n' A' l' c' B' m' d' (nfr r)∧wb.heap.size≤gP∧wb.heap.size≤gR∧Below wb.heap.size wb (pu6 (wz.setCell ⟨bA,0,none⟩ (.slice A4 l4 c4)) bR (.bool n5) (.slice A5 l5 c5) (.slice B5 m5 d5) (.bool n6) (.slice A6 l6 c6) (.slice B6 m6 d6)):=by
 have hl2:2≤l4:=by rw [← hP.length];exact hq2
 obtain ⟨b1,o1,e1,x1⟩:=poly_off hP hl2 hA one_shape
 obtain ⟨b2,o2,e2,x2⟩:=poly_off hP hl2 hR rt_shape
 rw [e1] at e2
 injection e2 with e2
 injection e2 with e2 e3 _
 subst e2 e3
 have hf1:FrS bA bA wz (wz.setCell ⟨bA,0,none⟩ (.slice A4 l4 c4)):=frs_set (FrS.refl bA bA wz) 0 _
 have ndA:NdB wz bA:=blk_ndb hA fun j v hv=>by
  match j,hv with
  | 0,hv=>simp at hv;subst hv;exact noDigit_slice _ _ _
  | j+1,hv=>simp at hv
 have hR1:Blk (wz.setCell ⟨bA,0,none⟩ (.slice A4 l4 c4)) bR 34 rz6:=hR.far (p:=⟨bA,0,none⟩) (fun e=>h3 e.symm) _
 have ndR:=rz6_ndb hR1
 have hf2:=pu6_frs (wz.setCell ⟨bA,0,none⟩ (.slice A4 l4 c4)) bR (.bool n5) (.slice A5 l5 c5) (.slice B5 m5 d5) (.bool n6) (.slice A6 l6 c6) (.slice B6 m6 d6)
 have P1:PolyN (wz.setCell ⟨bA,0,none⟩ (.slice A4 l4 c4)) A4 l4 c4 (qpart f):=(PolyG.mk hP (.inr ⟨b1,o1,e1,x1,x1⟩)).frs hf1 ndA ndA
 have P2:=(PolyG.mk P1 (.inr ⟨b1,o1,e1,x2,x2⟩)).frs hf2 ndR ndR
 have K1:RBk (wz.setCell ⟨bA,0,none⟩ (.slice A4 l4 c4)) bR false none 0 0 none 0 0 false none 0 0 none 0 0 (⟨0,0⟩,⟨0,0⟩):=⟨hR1,intn_zero _,NatN.zero _ none 0,intn_zero _,NatN.zero _ none 0⟩
 have K2:=K1.put (t:=nfr r) (z1.frs hf1 ndA ndA) (z2.frs hf1 ndA ndA) (z3.frs hf1 ndA ndA) (z4.frs hf1 ndA ndA)
 have c1:(wz.setCell ⟨bA,0,none⟩ (.slice A4 l4 c4)).cell? ⟨bA,0,none⟩=some (.slice A4 l4 c4):=((hA.set_ 0 _).cell 0).trans rfl
 have hltA:=(hA.set_ 0 (.slice A4 l4 c4)).lt
 have c2:=(hf2.cell (k:=bA) hltA h3 h3 0).trans c1
 have b1':=hf1.mono hG h1 h1 hG.size
 have b2':=hf2.mono b1' h2 h2 b1'.size
 exact ⟨bA,bR,A4,l4,c4,n5,A5,l5,c5,B5,m5,d5,n6,A6,l6,c6,B6,m6,d6,rfl,rfl,c2,P2,hl4,K2,h1,h2,b2'⟩
set_option maxRecDepth 100000 in
set_option maxHeartbeats 8000000 in
theorem steps_any {I:IntPred} (hI:IK I) {w:World} {Af:Option Addr} {lf cf:Nat} {f:List Int} {r:Fq×Fq} {n:Bool} {A:Option Addr} {l c:Nat} {B:Option Addr} {m d:Nat} {n':Bool} {A':Option Addr} {l' c':Nat} {B':Option Addr} {m' d':Nat}
 (hf:PolyP I w Af lf cf f) (hl:f.length≤10) (h9:P9 f) (hz:IntN w n A l c r.1.z) (hq:NatN w B m d r.1.q) (hz':IntN w n' A' l' c' r.2.z) (hq':NatN w B' m' d' r.2.q) (ha:FqB r.1) (hb:FqB r.2) (hv:vld 2 f r.1 r.2=true) (hq2:2≤(qpart f).length) :
 Calls Tryz.prog 9 #[.slice Af lf cf,.agg #[.bool n,.slice A l c,.slice B m d,.bool n',.slice A' l' c',.slice B' m' d']] w fun e w'=>(∃ gP gR Ap lp cp n A l c B m d n' A' l' c' B' m' d',e=.returned (.func (.func 31) #[] #[.pointer (some ⟨gR,0,none⟩),.pointer (some ⟨gP,0,none⟩)])∧w'.cell? ⟨gP,0,none⟩=some (.slice Ap lp cp)∧PolyN w' Ap lp cp (qpart f)∧lp≤10∧RBk w' gR n A l c B m d n' A' l' c' B' m' d' (nfr r)∧w.heap.size≤gP∧w.heap.size≤gR)∧Below w.heap.size w w':=by
 have hlf':lf≤10:=by have:=hf.length;omega
 have o1:=below_new w (tbox n A l c B m d n' A' l' c' B' m' d')
 have T:=Lib.hid (TBox.make hz hq hz' hq')
 have HP:=Lib.hid (hf.below hI o1)
 have Hb:=Lib.hid o1
 clear hz hq hz' hq' o1 hf
 go_enter Tryz.func9,Tryz.ntmps9
 have x0:=T.out.r.c0;have x1:=T.out.r.c1;have x2:=T.out.r.c2;have x3:=T.out.c3;have x4:=T.out.c4;have x5:=T.out.c5
 go_wp2_with fail
 refine (valid_any hI _ _ _ f r.1 r.2 _ _ _ _ _ _ _ _ _ _ _ _ _ _ _ HP.out (by omega) h9.pq T.out.r.hz T.out.r.hq T.out.hz T.out.hq ha hb).mono ?_
 rintro e w1 ⟨he,hb1⟩
 rw [hv] at he
 subst he
 clear x0 x1 x2 x3 x4 x5
 replace HP:=Lib.hid (HP.out.below hI hb1)
 replace T:=Lib.hid (T.out.move hb1)
 replace Hb:=Lib.hid (Hb.out.trans (hb1.mono Hb.out.size))
 clear hb1
 obtain ⟨wb,hwb⟩:∃ wb,wb=w1:=⟨_,rfl⟩
 obtain ⟨g1,hg1⟩:∃ g,g=w.heap.size:=⟨_,rfl⟩
 rw [← hwb] at T HP Hb ⊢
 rw [← hg1] at T
 rw [← hg1]
 have l1:=T.out.r.lt
 have hsb:=Hb.out.size
 have HG1:=Lib.hid hg1
 clear hwb hg1
 have hql:(qpart f).length≤10:=by rw [← h9.part_t,ptrim_length];have:=h9.part_l;have:=h9.len;omega
 go_wp2_with fail
 go_cut [5,6] (fun s5 s6 wx=>∃ gP gR Ap lp cp n A l c B m d n' A' l' c' B' m' d',s5=.pointer (some ⟨gP,0,none⟩)∧s6=.pointer (some ⟨gR,0,none⟩)∧wx.cell? ⟨gP,0,none⟩=some (.slice Ap lp cp)∧PolyN wx Ap lp cp (qpart f)∧lp≤10∧RBk wx gR n A l c B m d n' A' l' c' B' m' d' (nfr r)∧wb.heap.size≤gP∧wb.heap.size≤gR∧Below wb.heap.size wb wx)
 case first =>
  have x0:=T.out.r.c0;have x1:=T.out.r.c1;have x2:=T.out.r.c2;have x3:=T.out.c3;have x4:=T.out.c4;have x5:=T.out.c5
  refine wp_region_held_drew (S:=fun w'=>w'.cell? ⟨g1,0,none⟩=some (.bool n)∧w'.cell? ⟨g1,1,none⟩=some (.slice A l c)∧w'.cell? ⟨g1,2,none⟩=some (.slice B m d)∧w'.cell? ⟨g1,3,none⟩=some (.bool n')∧w'.cell? ⟨g1,4,none⟩=some (.slice A' l' c')∧w'.cell? ⟨g1,5,none⟩=some (.slice B' m' d')) (by kernel_rfl) (by (try dsimp only);go_keep) (fun hHeld=>?_)
  (refine tk (i:=0) (v:=?_) rfl rfl (Or.inl ⟨by rfl,?_⟩) ?_;rotate_left;(focus (intro w hSw;(try dsimp only at hSw);go_simp;(try with_reducible rfl)));(simp only [put_lit,List.set]))
  (refine tk (i:=2) (v:=?_) rfl rfl (Or.inl ⟨by rfl,?_⟩) ?_;rotate_left;(focus (intro w hSw;(try dsimp only at hSw);go_simp;(try with_reducible rfl)));(simp only [put_lit,List.set]))
  have G:=Lib.hid (Below.refl wb.heap.size wb)
  refine wpAnyH_ready (rs:=[1,4,5]) (by kernel_rfl) (by simp) ?_
  refine AllReadyH.cons rfl (fun K hK=>?_) (AllReadyH.cons rfl (fun K hK=>?_) (AllReadyH.cons rfl (fun K hK=>?_) AllReadyH.nil))
  ·
   go_simp
   refine (part_q hI _ _ _ f _ ((HP.out.below hI G.out).below hI Bel.go) h9.cp.fit.smp (fun _=>h9.q) (by omega)).mono ?_
   rintro e w14 ⟨A4,l4,c4,rfl,h4,hb4⟩
   have hl4:l4≤10:=by have:=h4.length;omega
   have hbn:Below wb.heap.size wb w14:=(Below.trans Bel.go (hb4.mono (by simp<;>omega)))
   have H4:=Lib.hid h4
   replace G:=Lib.hid (G.out.trans (hbn.mono G.out.size))
   have sz4:=hbn.size
   obtain ⟨hcx,hfx⟩:=bcellS hb4;refine hK.out _ _ ?_ (fun _=>?_);(focus (((try dsimp only);repeat' apply And.intro)<;>(rw [hcx _ (by go_simp)];go_simp)));clear hHeld hK K hcx hfx;rename_i hHeld
   clear hb4 hbn h4
   refine wpAnyH_ready (rs:=[3,4,5]) (by kernel_rfl) (by simp) ?_
   refine AllReadyH.cons rfl (fun K hK=>?_) (AllReadyH.cons rfl (fun K hK=>?_) (AllReadyH.cons rfl (fun K hK=>?_) AllReadyH.nil))
   ·
    go_simp
    refine (rcopy_any (r:=r) ((T.out.move G.out).r.hz.below Bel.go) ((T.out.move G.out).r.hq.below Bel.go) ((T.out.move G.out).hz.below Bel.go) ((T.out.move G.out).hq.below Bel.go) ha hb).mono ?_
    rintro e w15 ⟨⟨n5,A5,l5,c5,B5,m5,d5,n6,A6,l6,c6,B6,m6,d6,rfl,z1,z2,z3,z4⟩,hb4⟩
    have hbn:Below w14.heap.size w14 w15:=(Below.trans Bel.go (hb4.mono (by simp<;>omega)))
    replace H4:=Lib.hid (H4.out.below ikN hbn)
    have Z:=Lib.hid (And.intro (And.intro z1 z2) (And.intro z3 z4))
    replace G:=Lib.hid (G.out.trans (hbn.mono G.out.size))
    have sz5:=hbn.size
    obtain ⟨hcx,hfx⟩:=bcellS hb4;refine hK.out _ _ ?_ (fun _=>?_);(focus (((try dsimp only);repeat' apply And.intro)<;>(rw [hcx _ (by go_simp)];go_simp)));clear hHeld hK K hcx hfx;rename_i hHeld
    clear hb4 hbn z1 z2 z3 z4
    refine wpAnyH_ready (rs:=[4,5]) (by kernel_rfl) (by simp) ?_
    refine AllReadyH.cons rfl (fun K hK=>?_) (AllReadyH.cons rfl (fun K hK=>?_) AllReadyH.nil)
    ·
     go_simp
     refine hK.out _ _ ?_ (fun _=>?_)
     ·(try dsimp only);go_keep
     clear hHeld hK K;rename_i hHeld
     refine wpAnyH_ready (rs:=[5]) (by kernel_rfl) (by simp) ?_
     refine AllReadyH.cons rfl (fun K hK=>?_) AllReadyH.nil
     go_simp
     refine hK.out _ _ ?_ (fun _=>?_)
     ·(try dsimp only);go_keep
     clear hHeld hK K;rename_i hHeld
     have FA:Hid (Blk (((w15).alloc (.cells #[.slice none 0 0] 25)).alloc (.cells rz6 34)) (w15.heap.size) 25 #[.slice none 0 0]):=Lib.hid (by simpa using (Blk.new (w15) 25 #[.slice none 0 0]).alloc (.cells rz6 34))
     have FR:Hid (Blk (((w15).alloc (.cells #[.slice none 0 0] 25)).alloc (.cells rz6 34)) (w15.heap.size+1) 34 rz6):=Lib.hid (by simpa using Blk.new ((w15).alloc (.cells #[.slice none 0 0] 25)) 34 rz6)
     have FP:Hid (PolyN (((w15).alloc (.cells #[.slice none 0 0] 25)).alloc (.cells rz6 34)) A4 l4 c4 (qpart f)):=Lib.hid (H4.out.below ikN Bel.go)
     have FZ:Hid ((IntN (((w15).alloc (.cells #[.slice none 0 0] 25)).alloc (.cells rz6 34)) n5 A5 l5 c5 (nfr r).1.z∧NatN (((w15).alloc (.cells #[.slice none 0 0] 25)).alloc (.cells rz6 34)) B5 m5 d5 (nfr r).1.q)∧(IntN (((w15).alloc (.cells #[.slice none 0 0] 25)).alloc (.cells rz6 34)) n6 A6 l6 c6 (nfr r).2.z∧NatN (((w15).alloc (.cells #[.slice none 0 0] 25)).alloc (.cells rz6 34)) B6 m6 d6 (nfr r).2.q)):=Lib.hid ⟨⟨Z.out.1.1.below Bel.go,Z.out.1.2.below Bel.go⟩,Z.out.2.1.below Bel.go,Z.out.2.2.below Bel.go⟩
     have FG:Hid (Below wb.heap.size wb (((w15).alloc (.cells #[.slice none 0 0] 25)).alloc (.cells rz6 34))):=Lib.hid (G.out.trans (Below.mono (B:=w15.heap.size) Bel.go G.out.size))
     obtain ⟨wz,hwz⟩:∃ wz,wz=(((w15).alloc (.cells #[.slice none 0 0] 25)).alloc (.cells rz6 34)):=⟨_,rfl⟩
     rw [← hwz] at FA FR FP FZ FG hHeld ⊢
     clear hwz Z H4 G
     (have nA:wb.heap.size≤w15.heap.size:=(by omega);have nR:wb.heap.size≤w15.heap.size+1:=(by omega);have n1:g1≠w15.heap.size:=(by omega);have n2:g1≠w15.heap.size+1:=(by omega);have n3:w15.heap.size≠w15.heap.size+1:=(by omega);have a0:=(FA.out.cell 0).trans rfl;have a1:=FA.out.frozen 0;obtain ⟨q0,q1,q2,q3,q4,q5⟩:=hHeld;have K4:=Lib.hid FR.out;have r0:=(K4.out.cell 0).trans rfl;have r1:=(K4.out.cell 1).trans rfl;have r2:=(K4.out.cell 2).trans rfl;have r3:=(K4.out.cell 3).trans rfl;have r4:=(K4.out.cell 4).trans rfl;have r5:=(K4.out.cell 5).trans rfl;have s0:=K4.out.frozen 0;have s1:=K4.out.frozen 1;have s2:=K4.out.frozen 2;have s3:=K4.out.frozen 3;have s4:=K4.out.frozen 4;have s5:=K4.out.frozen 5;refine wpAnyH_ready (rs:=[6]) (by kernel_rfl) (by simp) ?_;refine AllReadyH.cons rfl (fun K hK=>?_) AllReadyH.nil;go_simp;refine hK.out _ _ ?_ (fun _=>?_);(focus (refine ⟨?_,?_,?_,?_,?_,?_⟩<;>(repeat (rw [World.cell?_setCell_other _ _ _ _ (by intro e;injection e with e _;omega)]))<;>assumption));clear hK K;rename_i hHeld;refine wpAnyH_ready (rs:=[7]) (by kernel_rfl) (by simp) ?_;refine AllReadyH.cons rfl (fun K hK=>?_) AllReadyH.nil;go_simp;refine hK.out _ _ ?_ (fun _=>?_);(focus (refine ⟨?_,?_,?_,?_,?_,?_⟩<;>(repeat (rw [World.cell?_setCell_other _ _ _ _ (by intro e;injection e with e _;omega)]))<;>assumption));clear hK K;refine wpAnyH_done (by kernel_rfl) ?_ _;go_wp2;go_meet;exact stz_end FA.out FR.out FP.out FZ.out.1.1 FZ.out.1.2 FZ.out.2.1 FZ.out.2.2 FG.out nA nR n3 hq2 hl4)
    ·
     go_simp
     refine hK.out _ _ ?_ (fun _=>?_)
     ·(try dsimp only);go_keep
     clear hHeld hK K;rename_i hHeld
     refine wpAnyH_ready (rs:=[4]) (by kernel_rfl) (by simp) ?_
     refine AllReadyH.cons rfl (fun K hK=>?_) AllReadyH.nil
     go_simp
     refine hK.out _ _ ?_ (fun _=>?_)
     ·(try dsimp only);go_keep
     clear hHeld hK K;rename_i hHeld
     have FA:Hid (Blk (((w15).alloc (.cells rz6 34)).alloc (.cells #[.slice none 0 0] 25)) (w15.heap.size+1) 25 #[.slice none 0 0]):=Lib.hid (by simpa using Blk.new ((w15).alloc (.cells rz6 34)) 25 #[.slice none 0 0])
     have FR:Hid (Blk (((w15).alloc (.cells rz6 34)).alloc (.cells #[.slice none 0 0] 25)) (w15.heap.size) 34 rz6):=Lib.hid (by simpa using (Blk.new (w15) 34 rz6).alloc (.cells #[.slice none 0 0] 25))
     have FP:Hid (PolyN (((w15).alloc (.cells rz6 34)).alloc (.cells #[.slice none 0 0] 25)) A4 l4 c4 (qpart f)):=Lib.hid (H4.out.below ikN Bel.go)
     have FZ:Hid ((IntN (((w15).alloc (.cells rz6 34)).alloc (.cells #[.slice none 0 0] 25)) n5 A5 l5 c5 (nfr r).1.z∧NatN (((w15).alloc (.cells rz6 34)).alloc (.cells #[.slice none 0 0] 25)) B5 m5 d5 (nfr r).1.q)∧(IntN (((w15).alloc (.cells rz6 34)).alloc (.cells #[.slice none 0 0] 25)) n6 A6 l6 c6 (nfr r).2.z∧NatN (((w15).alloc (.cells rz6 34)).alloc (.cells #[.slice none 0 0] 25)) B6 m6 d6 (nfr r).2.q)):=Lib.hid ⟨⟨Z.out.1.1.below Bel.go,Z.out.1.2.below Bel.go⟩,Z.out.2.1.below Bel.go,Z.out.2.2.below Bel.go⟩
     have FG:Hid (Below wb.heap.size wb (((w15).alloc (.cells rz6 34)).alloc (.cells #[.slice none 0 0] 25))):=Lib.hid (G.out.trans (Below.mono (B:=w15.heap.size) Bel.go G.out.size))
     obtain ⟨wz,hwz⟩:∃ wz,wz=(((w15).alloc (.cells rz6 34)).alloc (.cells #[.slice none 0 0] 25)):=⟨_,rfl⟩
     rw [← hwz] at FA FR FP FZ FG hHeld ⊢
     clear hwz Z H4 G
     (have nA:wb.heap.size≤w15.heap.size+1:=(by omega);have nR:wb.heap.size≤w15.heap.size:=(by omega);have n1:g1≠w15.heap.size+1:=(by omega);have n2:g1≠w15.heap.size:=(by omega);have n3:w15.heap.size+1≠w15.heap.size:=(by omega);have a0:=(FA.out.cell 0).trans rfl;have a1:=FA.out.frozen 0;obtain ⟨q0,q1,q2,q3,q4,q5⟩:=hHeld;have K4:=Lib.hid FR.out;have r0:=(K4.out.cell 0).trans rfl;have r1:=(K4.out.cell 1).trans rfl;have r2:=(K4.out.cell 2).trans rfl;have r3:=(K4.out.cell 3).trans rfl;have r4:=(K4.out.cell 4).trans rfl;have r5:=(K4.out.cell 5).trans rfl;have s0:=K4.out.frozen 0;have s1:=K4.out.frozen 1;have s2:=K4.out.frozen 2;have s3:=K4.out.frozen 3;have s4:=K4.out.frozen 4;have s5:=K4.out.frozen 5;refine wpAnyH_ready (rs:=[6]) (by kernel_rfl) (by simp) ?_;refine AllReadyH.cons rfl (fun K hK=>?_) AllReadyH.nil;go_simp;refine hK.out _ _ ?_ (fun _=>?_);(focus (refine ⟨?_,?_,?_,?_,?_,?_⟩<;>(repeat (rw [World.cell?_setCell_other _ _ _ _ (by intro e;injection e with e _;omega)]))<;>assumption));clear hK K;rename_i hHeld;refine wpAnyH_ready (rs:=[7]) (by kernel_rfl) (by simp) ?_;refine AllReadyH.cons rfl (fun K hK=>?_) AllReadyH.nil;go_simp;refine hK.out _ _ ?_ (fun _=>?_);(focus (refine ⟨?_,?_,?_,?_,?_,?_⟩<;>(repeat (rw [World.cell?_setCell_other _ _ _ _ (by intro e;injection e with e _;omega)]))<;>assumption));clear hK K;refine wpAnyH_done (by kernel_rfl) ?_ _;go_wp2;go_meet;exact stz_end FA.out FR.out FP.out FZ.out.1.1 FZ.out.1.2 FZ.out.2.1 FZ.out.2.2 FG.out nA nR n3 hq2 hl4)
   ·
    go_simp
    refine hK.out _ _ ?_ (fun _=>?_)
    ·(try dsimp only);go_keep
    clear hHeld hK K;rename_i hHeld
    refine wpAnyH_ready (rs:=[3,5]) (by kernel_rfl) (by simp) ?_
    refine AllReadyH.cons rfl (fun K hK=>?_) (AllReadyH.cons rfl (fun K hK=>?_) AllReadyH.nil)
    ·
     go_simp
     refine (rcopy_any (r:=r) ((T.out.move G.out).r.hz.below Bel.go) ((T.out.move G.out).r.hq.below Bel.go) ((T.out.move G.out).hz.below Bel.go) ((T.out.move G.out).hq.below Bel.go) ha hb).mono ?_
     rintro e w16 ⟨⟨n5,A5,l5,c5,B5,m5,d5,n6,A6,l6,c6,B6,m6,d6,rfl,z1,z2,z3,z4⟩,hb4⟩
     have hbn:Below w14.heap.size w14 w16:=(Below.trans Bel.go (hb4.mono (by simp<;>omega)))
     have KA:Hid (Blk w16 (w14.heap.size) 25 #[.slice none 0 0]):=Lib.hid ((show Blk ((w14).alloc (.cells #[.slice none 0 0] 25)) (w14.heap.size) 25 #[.slice none 0 0] by have x:=Blk.new (w14) 25 #[.slice none 0 0];(try simp only [World.size_alloc] at x);exact x).below hb4 (by simp;try omega))
     have ltA:=KA.out.lt
     replace H4:=Lib.hid (H4.out.below ikN hbn)
     have Z:=Lib.hid (And.intro (And.intro z1 z2) (And.intro z3 z4))
     replace G:=Lib.hid (G.out.trans (hbn.mono G.out.size))
     have sz6:=hbn.size
     obtain ⟨hcx,hfx⟩:=bcellS hb4;refine hK.out _ _ ?_ (fun _=>?_);(focus (((try dsimp only);repeat' apply And.intro)<;>(rw [hcx _ (by go_simp)];go_simp)));clear hHeld hK K hcx hfx;rename_i hHeld
     clear hb4 hbn z1 z2 z3 z4
     refine wpAnyH_ready (rs:=[5]) (by kernel_rfl) (by simp) ?_
     refine AllReadyH.cons rfl (fun K hK=>?_) AllReadyH.nil
     go_simp
     refine hK.out _ _ ?_ (fun _=>?_)
     ·(try dsimp only);go_keep
     clear hHeld hK K;rename_i hHeld
     have FA:Hid (Blk ((w16).alloc (.cells rz6 34)) (w14.heap.size) 25 #[.slice none 0 0]):=Lib.hid (by simpa using (KA.out).alloc (.cells rz6 34))
     have FR:Hid (Blk ((w16).alloc (.cells rz6 34)) (w16.heap.size) 34 rz6):=Lib.hid (by simpa using Blk.new (w16) 34 rz6)
     have FP:Hid (PolyN ((w16).alloc (.cells rz6 34)) A4 l4 c4 (qpart f)):=Lib.hid (H4.out.below ikN Bel.go)
     have FZ:Hid ((IntN ((w16).alloc (.cells rz6 34)) n5 A5 l5 c5 (nfr r).1.z∧NatN ((w16).alloc (.cells rz6 34)) B5 m5 d5 (nfr r).1.q)∧(IntN ((w16).alloc (.cells rz6 34)) n6 A6 l6 c6 (nfr r).2.z∧NatN ((w16).alloc (.cells rz6 34)) B6 m6 d6 (nfr r).2.q)):=Lib.hid ⟨⟨Z.out.1.1.below Bel.go,Z.out.1.2.below Bel.go⟩,Z.out.2.1.below Bel.go,Z.out.2.2.below Bel.go⟩
     have FG:Hid (Below wb.heap.size wb ((w16).alloc (.cells rz6 34))):=Lib.hid (G.out.trans (Below.mono (B:=w16.heap.size) Bel.go G.out.size))
     obtain ⟨wz,hwz⟩:∃ wz,wz=((w16).alloc (.cells rz6 34)):=⟨_,rfl⟩
     rw [← hwz] at FA FR FP FZ FG hHeld ⊢
     clear hwz Z H4 G
     (have nA:wb.heap.size≤w14.heap.size:=(by omega);have nR:wb.heap.size≤w16.heap.size:=(by omega);have n1:g1≠w14.heap.size:=(by omega);have n2:g1≠w16.heap.size:=(by omega);have n3:w14.heap.size≠w16.heap.size:=(by omega);have a0:=(FA.out.cell 0).trans rfl;have a1:=FA.out.frozen 0;obtain ⟨q0,q1,q2,q3,q4,q5⟩:=hHeld;have K4:=Lib.hid FR.out;have r0:=(K4.out.cell 0).trans rfl;have r1:=(K4.out.cell 1).trans rfl;have r2:=(K4.out.cell 2).trans rfl;have r3:=(K4.out.cell 3).trans rfl;have r4:=(K4.out.cell 4).trans rfl;have r5:=(K4.out.cell 5).trans rfl;have s0:=K4.out.frozen 0;have s1:=K4.out.frozen 1;have s2:=K4.out.frozen 2;have s3:=K4.out.frozen 3;have s4:=K4.out.frozen 4;have s5:=K4.out.frozen 5;refine wpAnyH_ready (rs:=[6]) (by kernel_rfl) (by simp) ?_;refine AllReadyH.cons rfl (fun K hK=>?_) AllReadyH.nil;go_simp;refine hK.out _ _ ?_ (fun _=>?_);(focus (refine ⟨?_,?_,?_,?_,?_,?_⟩<;>(repeat (rw [World.cell?_setCell_other _ _ _ _ (by intro e;injection e with e _;omega)]))<;>assumption));clear hK K;rename_i hHeld;refine wpAnyH_ready (rs:=[7]) (by kernel_rfl) (by simp) ?_;refine AllReadyH.cons rfl (fun K hK=>?_) AllReadyH.nil;go_simp;refine hK.out _ _ ?_ (fun _=>?_);(focus (refine ⟨?_,?_,?_,?_,?_,?_⟩<;>(repeat (rw [World.cell?_setCell_other _ _ _ _ (by intro e;injection e with e _;omega)]))<;>assumption));clear hK K;refine wpAnyH_done (by kernel_rfl) ?_ _;go_wp2;go_meet;exact stz_end FA.out FR.out FP.out FZ.out.1.1 FZ.out.1.2 FZ.out.2.1 FZ.out.2.2 FG.out nA nR n3 hq2 hl4)
    ·
     go_simp
     refine hK.out _ _ ?_ (fun _=>?_)
     ·(try dsimp only);go_keep
     clear hHeld hK K;rename_i hHeld
     refine wpAnyH_ready (rs:=[3]) (by kernel_rfl) (by simp) ?_
     refine AllReadyH.cons rfl (fun K hK=>?_) AllReadyH.nil
     go_simp
     refine (rcopy_any (r:=r) ((T.out.move G.out).r.hz.below Bel.go) ((T.out.move G.out).r.hq.below Bel.go) ((T.out.move G.out).hz.below Bel.go) ((T.out.move G.out).hq.below Bel.go) ha hb).mono ?_
     rintro e w17 ⟨⟨n5,A5,l5,c5,B5,m5,d5,n6,A6,l6,c6,B6,m6,d6,rfl,z1,z2,z3,z4⟩,hb4⟩
     have hbn:Below w14.heap.size w14 w17:=(Below.trans Bel.go (hb4.mono (by simp<;>omega)))
     have KA:Hid (Blk w17 (w14.heap.size) 25 #[.slice none 0 0]):=Lib.hid ((show Blk (((w14).alloc (.cells #[.slice none 0 0] 25)).alloc (.cells rz6 34)) (w14.heap.size) 25 #[.slice none 0 0] by have x:=(Blk.new (w14) 25 #[.slice none 0 0]).alloc (.cells rz6 34);(try simp only [World.size_alloc] at x);exact x).below hb4 (by simp;try omega))
     have ltA:=KA.out.lt
     have KR:Hid (Blk w17 (w14.heap.size+1) 34 rz6):=Lib.hid ((show Blk (((w14).alloc (.cells #[.slice none 0 0] 25)).alloc (.cells rz6 34)) (w14.heap.size+1) 34 rz6 by have x:=Blk.new ((w14).alloc (.cells #[.slice none 0 0] 25)) 34 rz6;(try simp only [World.size_alloc] at x);exact x).below hb4 (by simp;try omega))
     have ltR:=KR.out.lt
     replace H4:=Lib.hid (H4.out.below ikN hbn)
     have Z:=Lib.hid (And.intro (And.intro z1 z2) (And.intro z3 z4))
     replace G:=Lib.hid (G.out.trans (hbn.mono G.out.size))
     have sz7:=hbn.size
     obtain ⟨hcx,hfx⟩:=bcellS hb4;refine hK.out _ _ ?_ (fun _=>?_);(focus (((try dsimp only);repeat' apply And.intro)<;>(rw [hcx _ (by go_simp)];go_simp)));clear hHeld hK K hcx hfx;rename_i hHeld
     clear hb4 hbn z1 z2 z3 z4
     have FA:Hid (Blk (w17) (w14.heap.size) 25 #[.slice none 0 0]):=Lib.hid (by simpa using KA.out)
     have FR:Hid (Blk (w17) (w14.heap.size+1) 34 rz6):=Lib.hid (by simpa using KR.out)
     have FP:Hid (PolyN (w17) A4 l4 c4 (qpart f)):=Lib.hid (H4.out.below ikN Bel.go)
     have FZ:Hid ((IntN (w17) n5 A5 l5 c5 (nfr r).1.z∧NatN (w17) B5 m5 d5 (nfr r).1.q)∧(IntN (w17) n6 A6 l6 c6 (nfr r).2.z∧NatN (w17) B6 m6 d6 (nfr r).2.q)):=Lib.hid ⟨⟨Z.out.1.1.below Bel.go,Z.out.1.2.below Bel.go⟩,Z.out.2.1.below Bel.go,Z.out.2.2.below Bel.go⟩
     have FG:Hid (Below wb.heap.size wb (w17)):=Lib.hid (G.out.trans (Below.mono (B:=w17.heap.size) Bel.go G.out.size))
     obtain ⟨wz,hwz⟩:∃ wz,wz=(w17):=⟨_,rfl⟩
     rw [← hwz] at FA FR FP FZ FG hHeld ⊢
     clear hwz Z H4 G
     (have nA:wb.heap.size≤w14.heap.size:=(by omega);have nR:wb.heap.size≤w14.heap.size+1:=(by omega);have n1:g1≠w14.heap.size:=(by omega);have n2:g1≠w14.heap.size+1:=(by omega);have n3:w14.heap.size≠w14.heap.size+1:=(by omega);have a0:=(FA.out.cell 0).trans rfl;have a1:=FA.out.frozen 0;obtain ⟨q0,q1,q2,q3,q4,q5⟩:=hHeld;have K4:=Lib.hid FR.out;have r0:=(K4.out.cell 0).trans rfl;have r1:=(K4.out.cell 1).trans rfl;have r2:=(K4.out.cell 2).trans rfl;have r3:=(K4.out.cell 3).trans rfl;have r4:=(K4.out.cell 4).trans rfl;have r5:=(K4.out.cell 5).trans rfl;have s0:=K4.out.frozen 0;have s1:=K4.out.frozen 1;have s2:=K4.out.frozen 2;have s3:=K4.out.frozen 3;have s4:=K4.out.frozen 4;have s5:=K4.out.frozen 5;refine wpAnyH_ready (rs:=[6]) (by kernel_rfl) (by simp) ?_;refine AllReadyH.cons rfl (fun K hK=>?_) AllReadyH.nil;go_simp;refine hK.out _ _ ?_ (fun _=>?_);(focus (refine ⟨?_,?_,?_,?_,?_,?_⟩<;>(repeat (rw [World.cell?_setCell_other _ _ _ _ (by intro e;injection e with e _;omega)]))<;>assumption));clear hK K;rename_i hHeld;refine wpAnyH_ready (rs:=[7]) (by kernel_rfl) (by simp) ?_;refine AllReadyH.cons rfl (fun K hK=>?_) AllReadyH.nil;go_simp;refine hK.out _ _ ?_ (fun _=>?_);(focus (refine ⟨?_,?_,?_,?_,?_,?_⟩<;>(repeat (rw [World.cell?_setCell_other _ _ _ _ (by intro e;injection e with e _;omega)]))<;>assumption));clear hK K;refine wpAnyH_done (by kernel_rfl) ?_ _;go_wp2;go_meet;exact stz_end FA.out FR.out FP.out FZ.out.1.1 FZ.out.1.2 FZ.out.2.1 FZ.out.2.2 FG.out nA nR n3 hq2 hl4)
   ·
    go_simp
    refine hK.out _ _ ?_ (fun _=>?_)
    ·(try dsimp only);go_keep
    clear hHeld hK K;rename_i hHeld
    refine wpAnyH_ready (rs:=[3,4]) (by kernel_rfl) (by simp) ?_
    refine AllReadyH.cons rfl (fun K hK=>?_) (AllReadyH.cons rfl (fun K hK=>?_) AllReadyH.nil)
    ·
     go_simp
     refine (rcopy_any (r:=r) ((T.out.move G.out).r.hz.below Bel.go) ((T.out.move G.out).r.hq.below Bel.go) ((T.out.move G.out).hz.below Bel.go) ((T.out.move G.out).hq.below Bel.go) ha hb).mono ?_
     rintro e w18 ⟨⟨n5,A5,l5,c5,B5,m5,d5,n6,A6,l6,c6,B6,m6,d6,rfl,z1,z2,z3,z4⟩,hb4⟩
     have hbn:Below w14.heap.size w14 w18:=(Below.trans Bel.go (hb4.mono (by simp<;>omega)))
     have KR:Hid (Blk w18 (w14.heap.size) 34 rz6):=Lib.hid ((show Blk ((w14).alloc (.cells rz6 34)) (w14.heap.size) 34 rz6 by have x:=Blk.new (w14) 34 rz6;(try simp only [World.size_alloc] at x);exact x).below hb4 (by simp;try omega))
     have ltR:=KR.out.lt
     replace H4:=Lib.hid (H4.out.below ikN hbn)
     have Z:=Lib.hid (And.intro (And.intro z1 z2) (And.intro z3 z4))
     replace G:=Lib.hid (G.out.trans (hbn.mono G.out.size))
     have sz8:=hbn.size
     obtain ⟨hcx,hfx⟩:=bcellS hb4;refine hK.out _ _ ?_ (fun _=>?_);(focus (((try dsimp only);repeat' apply And.intro)<;>(rw [hcx _ (by go_simp)];go_simp)));clear hHeld hK K hcx hfx;rename_i hHeld
     clear hb4 hbn z1 z2 z3 z4
     refine wpAnyH_ready (rs:=[4]) (by kernel_rfl) (by simp) ?_
     refine AllReadyH.cons rfl (fun K hK=>?_) AllReadyH.nil
     go_simp
     refine hK.out _ _ ?_ (fun _=>?_)
     ·(try dsimp only);go_keep
     clear hHeld hK K;rename_i hHeld
     have FA:Hid (Blk ((w18).alloc (.cells #[.slice none 0 0] 25)) (w18.heap.size) 25 #[.slice none 0 0]):=Lib.hid (by simpa using Blk.new (w18) 25 #[.slice none 0 0])
     have FR:Hid (Blk ((w18).alloc (.cells #[.slice none 0 0] 25)) (w14.heap.size) 34 rz6):=Lib.hid (by simpa using (KR.out).alloc (.cells #[.slice none 0 0] 25))
     have FP:Hid (PolyN ((w18).alloc (.cells #[.slice none 0 0] 25)) A4 l4 c4 (qpart f)):=Lib.hid (H4.out.below ikN Bel.go)
     have FZ:Hid ((IntN ((w18).alloc (.cells #[.slice none 0 0] 25)) n5 A5 l5 c5 (nfr r).1.z∧NatN ((w18).alloc (.cells #[.slice none 0 0] 25)) B5 m5 d5 (nfr r).1.q)∧(IntN ((w18).alloc (.cells #[.slice none 0 0] 25)) n6 A6 l6 c6 (nfr r).2.z∧NatN ((w18).alloc (.cells #[.slice none 0 0] 25)) B6 m6 d6 (nfr r).2.q)):=Lib.hid ⟨⟨Z.out.1.1.below Bel.go,Z.out.1.2.below Bel.go⟩,Z.out.2.1.below Bel.go,Z.out.2.2.below Bel.go⟩
     have FG:Hid (Below wb.heap.size wb ((w18).alloc (.cells #[.slice none 0 0] 25))):=Lib.hid (G.out.trans (Below.mono (B:=w18.heap.size) Bel.go G.out.size))
     obtain ⟨wz,hwz⟩:∃ wz,wz=((w18).alloc (.cells #[.slice none 0 0] 25)):=⟨_,rfl⟩
     rw [← hwz] at FA FR FP FZ FG hHeld ⊢
     clear hwz Z H4 G
     (have nA:wb.heap.size≤w18.heap.size:=(by omega);have nR:wb.heap.size≤w14.heap.size:=(by omega);have n1:g1≠w18.heap.size:=(by omega);have n2:g1≠w14.heap.size:=(by omega);have n3:w18.heap.size≠w14.heap.size:=(by omega);have a0:=(FA.out.cell 0).trans rfl;have a1:=FA.out.frozen 0;obtain ⟨q0,q1,q2,q3,q4,q5⟩:=hHeld;have K4:=Lib.hid FR.out;have r0:=(K4.out.cell 0).trans rfl;have r1:=(K4.out.cell 1).trans rfl;have r2:=(K4.out.cell 2).trans rfl;have r3:=(K4.out.cell 3).trans rfl;have r4:=(K4.out.cell 4).trans rfl;have r5:=(K4.out.cell 5).trans rfl;have s0:=K4.out.frozen 0;have s1:=K4.out.frozen 1;have s2:=K4.out.frozen 2;have s3:=K4.out.frozen 3;have s4:=K4.out.frozen 4;have s5:=K4.out.frozen 5;refine wpAnyH_ready (rs:=[6]) (by kernel_rfl) (by simp) ?_;refine AllReadyH.cons rfl (fun K hK=>?_) AllReadyH.nil;go_simp;refine hK.out _ _ ?_ (fun _=>?_);(focus (refine ⟨?_,?_,?_,?_,?_,?_⟩<;>(repeat (rw [World.cell?_setCell_other _ _ _ _ (by intro e;injection e with e _;omega)]))<;>assumption));clear hK K;rename_i hHeld;refine wpAnyH_ready (rs:=[7]) (by kernel_rfl) (by simp) ?_;refine AllReadyH.cons rfl (fun K hK=>?_) AllReadyH.nil;go_simp;refine hK.out _ _ ?_ (fun _=>?_);(focus (refine ⟨?_,?_,?_,?_,?_,?_⟩<;>(repeat (rw [World.cell?_setCell_other _ _ _ _ (by intro e;injection e with e _;omega)]))<;>assumption));clear hK K;refine wpAnyH_done (by kernel_rfl) ?_ _;go_wp2;go_meet;exact stz_end FA.out FR.out FP.out FZ.out.1.1 FZ.out.1.2 FZ.out.2.1 FZ.out.2.2 FG.out nA nR n3 hq2 hl4)
    ·
     go_simp
     refine hK.out _ _ ?_ (fun _=>?_)
     ·(try dsimp only);go_keep
     clear hHeld hK K;rename_i hHeld
     refine wpAnyH_ready (rs:=[3]) (by kernel_rfl) (by simp) ?_
     refine AllReadyH.cons rfl (fun K hK=>?_) AllReadyH.nil
     go_simp
     refine (rcopy_any (r:=r) ((T.out.move G.out).r.hz.below Bel.go) ((T.out.move G.out).r.hq.below Bel.go) ((T.out.move G.out).hz.below Bel.go) ((T.out.move G.out).hq.below Bel.go) ha hb).mono ?_
     rintro e w19 ⟨⟨n5,A5,l5,c5,B5,m5,d5,n6,A6,l6,c6,B6,m6,d6,rfl,z1,z2,z3,z4⟩,hb4⟩
     have hbn:Below w14.heap.size w14 w19:=(Below.trans Bel.go (hb4.mono (by simp<;>omega)))
     have KR:Hid (Blk w19 (w14.heap.size) 34 rz6):=Lib.hid ((show Blk (((w14).alloc (.cells rz6 34)).alloc (.cells #[.slice none 0 0] 25)) (w14.heap.size) 34 rz6 by have x:=(Blk.new (w14) 34 rz6).alloc (.cells #[.slice none 0 0] 25);(try simp only [World.size_alloc] at x);exact x).below hb4 (by simp;try omega))
     have ltR:=KR.out.lt
     have KA:Hid (Blk w19 (w14.heap.size+1) 25 #[.slice none 0 0]):=Lib.hid ((show Blk (((w14).alloc (.cells rz6 34)).alloc (.cells #[.slice none 0 0] 25)) (w14.heap.size+1) 25 #[.slice none 0 0] by have x:=Blk.new ((w14).alloc (.cells rz6 34)) 25 #[.slice none 0 0];(try simp only [World.size_alloc] at x);exact x).below hb4 (by simp;try omega))
     have ltA:=KA.out.lt
     replace H4:=Lib.hid (H4.out.below ikN hbn)
     have Z:=Lib.hid (And.intro (And.intro z1 z2) (And.intro z3 z4))
     replace G:=Lib.hid (G.out.trans (hbn.mono G.out.size))
     have sz9:=hbn.size
     obtain ⟨hcx,hfx⟩:=bcellS hb4;refine hK.out _ _ ?_ (fun _=>?_);(focus (((try dsimp only);repeat' apply And.intro)<;>(rw [hcx _ (by go_simp)];go_simp)));clear hHeld hK K hcx hfx;rename_i hHeld
     clear hb4 hbn z1 z2 z3 z4
     have FA:Hid (Blk (w19) (w14.heap.size+1) 25 #[.slice none 0 0]):=Lib.hid (by simpa using KA.out)
     have FR:Hid (Blk (w19) (w14.heap.size) 34 rz6):=Lib.hid (by simpa using KR.out)
     have FP:Hid (PolyN (w19) A4 l4 c4 (qpart f)):=Lib.hid (H4.out.below ikN Bel.go)
     have FZ:Hid ((IntN (w19) n5 A5 l5 c5 (nfr r).1.z∧NatN (w19) B5 m5 d5 (nfr r).1.q)∧(IntN (w19) n6 A6 l6 c6 (nfr r).2.z∧NatN (w19) B6 m6 d6 (nfr r).2.q)):=Lib.hid ⟨⟨Z.out.1.1.below Bel.go,Z.out.1.2.below Bel.go⟩,Z.out.2.1.below Bel.go,Z.out.2.2.below Bel.go⟩
     have FG:Hid (Below wb.heap.size wb (w19)):=Lib.hid (G.out.trans (Below.mono (B:=w19.heap.size) Bel.go G.out.size))
     obtain ⟨wz,hwz⟩:∃ wz,wz=(w19):=⟨_,rfl⟩
     rw [← hwz] at FA FR FP FZ FG hHeld ⊢
     clear hwz Z H4 G
     (have nA:wb.heap.size≤w14.heap.size+1:=(by omega);have nR:wb.heap.size≤w14.heap.size:=(by omega);have n1:g1≠w14.heap.size+1:=(by omega);have n2:g1≠w14.heap.size:=(by omega);have n3:w14.heap.size+1≠w14.heap.size:=(by omega);have a0:=(FA.out.cell 0).trans rfl;have a1:=FA.out.frozen 0;obtain ⟨q0,q1,q2,q3,q4,q5⟩:=hHeld;have K4:=Lib.hid FR.out;have r0:=(K4.out.cell 0).trans rfl;have r1:=(K4.out.cell 1).trans rfl;have r2:=(K4.out.cell 2).trans rfl;have r3:=(K4.out.cell 3).trans rfl;have r4:=(K4.out.cell 4).trans rfl;have r5:=(K4.out.cell 5).trans rfl;have s0:=K4.out.frozen 0;have s1:=K4.out.frozen 1;have s2:=K4.out.frozen 2;have s3:=K4.out.frozen 3;have s4:=K4.out.frozen 4;have s5:=K4.out.frozen 5;refine wpAnyH_ready (rs:=[6]) (by kernel_rfl) (by simp) ?_;refine AllReadyH.cons rfl (fun K hK=>?_) AllReadyH.nil;go_simp;refine hK.out _ _ ?_ (fun _=>?_);(focus (refine ⟨?_,?_,?_,?_,?_,?_⟩<;>(repeat (rw [World.cell?_setCell_other _ _ _ _ (by intro e;injection e with e _;omega)]))<;>assumption));clear hK K;rename_i hHeld;refine wpAnyH_ready (rs:=[7]) (by kernel_rfl) (by simp) ?_;refine AllReadyH.cons rfl (fun K hK=>?_) AllReadyH.nil;go_simp;refine hK.out _ _ ?_ (fun _=>?_);(focus (refine ⟨?_,?_,?_,?_,?_,?_⟩<;>(repeat (rw [World.cell?_setCell_other _ _ _ _ (by intro e;injection e with e _;omega)]))<;>assumption));clear hK K;refine wpAnyH_done (by kernel_rfl) ?_ _;go_wp2;go_meet;exact stz_end FA.out FR.out FP.out FZ.out.1.1 FZ.out.1.2 FZ.out.2.1 FZ.out.2.2 FG.out nA nR n3 hq2 hl4)
  ·
   go_simp
   refine hK.out _ _ ?_ (fun _=>?_)
   ·(try dsimp only);go_keep
   clear hHeld hK K;rename_i hHeld
   refine wpAnyH_ready (rs:=[1,5]) (by kernel_rfl) (by simp) ?_
   refine AllReadyH.cons rfl (fun K hK=>?_) (AllReadyH.cons rfl (fun K hK=>?_) AllReadyH.nil)
   ·
    go_simp
    refine (part_q hI _ _ _ f _ ((HP.out.below hI G.out).below hI Bel.go) h9.cp.fit.smp (fun _=>h9.q) (by omega)).mono ?_
    rintro e w20 ⟨A4,l4,c4,rfl,h4,hb4⟩
    have hl4:l4≤10:=by have:=h4.length;omega
    have hbn:Below wb.heap.size wb w20:=(Below.trans Bel.go (hb4.mono (by simp<;>omega)))
    have KA:Hid (Blk w20 (wb.heap.size) 25 #[.slice none 0 0]):=Lib.hid ((show Blk (((wb).alloc (.cells #[.slice none 0 0] 25)).drew) (wb.heap.size) 25 #[.slice none 0 0] by have x:=Blk.new (wb) 25 #[.slice none 0 0];(try simp only [World.size_alloc] at x);exact x).below hb4 (by simp;try omega))
    have ltA:=KA.out.lt
    have H4:=Lib.hid h4
    replace G:=Lib.hid (G.out.trans (hbn.mono G.out.size))
    have sz10:=hbn.size
    obtain ⟨hcx,hfx⟩:=bcellS hb4;refine hK.out _ _ ?_ (fun _=>?_);(focus (((try dsimp only);repeat' apply And.intro)<;>(rw [hcx _ (by go_simp)];go_simp)));clear hHeld hK K hcx hfx;rename_i hHeld
    clear hb4 hbn h4
    refine wpAnyH_ready (rs:=[3,5]) (by kernel_rfl) (by simp) ?_
    refine AllReadyH.cons rfl (fun K hK=>?_) (AllReadyH.cons rfl (fun K hK=>?_) AllReadyH.nil)
    ·
     go_simp
     refine (rcopy_any (r:=r) ((T.out.move G.out).r.hz.below Bel.go) ((T.out.move G.out).r.hq.below Bel.go) ((T.out.move G.out).hz.below Bel.go) ((T.out.move G.out).hq.below Bel.go) ha hb).mono ?_
     rintro e w21 ⟨⟨n5,A5,l5,c5,B5,m5,d5,n6,A6,l6,c6,B6,m6,d6,rfl,z1,z2,z3,z4⟩,hb4⟩
     have hbn:Below w20.heap.size w20 w21:=(Below.trans Bel.go (hb4.mono (by simp<;>omega)))
     replace KA:=Lib.hid (KA.out.below hbn KA.out.lt)
     replace H4:=Lib.hid (H4.out.below ikN hbn)
     have Z:=Lib.hid (And.intro (And.intro z1 z2) (And.intro z3 z4))
     replace G:=Lib.hid (G.out.trans (hbn.mono G.out.size))
     have sz11:=hbn.size
     obtain ⟨hcx,hfx⟩:=bcellS hb4;refine hK.out _ _ ?_ (fun _=>?_);(focus (((try dsimp only);repeat' apply And.intro)<;>(rw [hcx _ (by go_simp)];go_simp)));clear hHeld hK K hcx hfx;rename_i hHeld
     clear hb4 hbn z1 z2 z3 z4
     refine wpAnyH_ready (rs:=[5]) (by kernel_rfl) (by simp) ?_
     refine AllReadyH.cons rfl (fun K hK=>?_) AllReadyH.nil
     go_simp
     refine hK.out _ _ ?_ (fun _=>?_)
     ·(try dsimp only);go_keep
     clear hHeld hK K;rename_i hHeld
     have FA:Hid (Blk ((w21).alloc (.cells rz6 34)) (wb.heap.size) 25 #[.slice none 0 0]):=Lib.hid (by simpa using (KA.out).alloc (.cells rz6 34))
     have FR:Hid (Blk ((w21).alloc (.cells rz6 34)) (w21.heap.size) 34 rz6):=Lib.hid (by simpa using Blk.new (w21) 34 rz6)
     have FP:Hid (PolyN ((w21).alloc (.cells rz6 34)) A4 l4 c4 (qpart f)):=Lib.hid (H4.out.below ikN Bel.go)
     have FZ:Hid ((IntN ((w21).alloc (.cells rz6 34)) n5 A5 l5 c5 (nfr r).1.z∧NatN ((w21).alloc (.cells rz6 34)) B5 m5 d5 (nfr r).1.q)∧(IntN ((w21).alloc (.cells rz6 34)) n6 A6 l6 c6 (nfr r).2.z∧NatN ((w21).alloc (.cells rz6 34)) B6 m6 d6 (nfr r).2.q)):=Lib.hid ⟨⟨Z.out.1.1.below Bel.go,Z.out.1.2.below Bel.go⟩,Z.out.2.1.below Bel.go,Z.out.2.2.below Bel.go⟩
     have FG:Hid (Below wb.heap.size wb ((w21).alloc (.cells rz6 34))):=Lib.hid (G.out.trans (Below.mono (B:=w21.heap.size) Bel.go G.out.size))
     obtain ⟨wz,hwz⟩:∃ wz,wz=((w21).alloc (.cells rz6 34)):=⟨_,rfl⟩
     rw [← hwz] at FA FR FP FZ FG hHeld ⊢
     clear hwz Z H4 G
     (have nA:wb.heap.size≤wb.heap.size:=(by omega);have nR:wb.heap.size≤w21.heap.size:=(by omega);have n1:g1≠wb.heap.size:=(by omega);have n2:g1≠w21.heap.size:=(by omega);have n3:wb.heap.size≠w21.heap.size:=(by omega);have a0:=(FA.out.cell 0).trans rfl;have a1:=FA.out.frozen 0;obtain ⟨q0,q1,q2,q3,q4,q5⟩:=hHeld;have K4:=Lib.hid FR.out;have r0:=(K4.out.cell 0).trans rfl;have r1:=(K4.out.cell 1).trans rfl;have r2:=(K4.out.cell 2).trans rfl;have r3:=(K4.out.cell 3).trans rfl;have r4:=(K4.out.cell 4).trans rfl;have r5:=(K4.out.cell 5).trans rfl;have s0:=K4.out.frozen 0;have s1:=K4.out.frozen 1;have s2:=K4.out.frozen 2;have s3:=K4.out.frozen 3;have s4:=K4.out.frozen 4;have s5:=K4.out.frozen 5;refine wpAnyH_ready (rs:=[6]) (by kernel_rfl) (by simp) ?_;refine AllReadyH.cons rfl (fun K hK=>?_) AllReadyH.nil;go_simp;refine hK.out _ _ ?_ (fun _=>?_);(focus (refine ⟨?_,?_,?_,?_,?_,?_⟩<;>(repeat (rw [World.cell?_setCell_other _ _ _ _ (by intro e;injection e with e _;omega)]))<;>assumption));clear hK K;rename_i hHeld;refine wpAnyH_ready (rs:=[7]) (by kernel_rfl) (by simp) ?_;refine AllReadyH.cons rfl (fun K hK=>?_) AllReadyH.nil;go_simp;refine hK.out _ _ ?_ (fun _=>?_);(focus (refine ⟨?_,?_,?_,?_,?_,?_⟩<;>(repeat (rw [World.cell?_setCell_other _ _ _ _ (by intro e;injection e with e _;omega)]))<;>assumption));clear hK K;refine wpAnyH_done (by kernel_rfl) ?_ _;go_wp2;go_meet;exact stz_end FA.out FR.out FP.out FZ.out.1.1 FZ.out.1.2 FZ.out.2.1 FZ.out.2.2 FG.out nA nR n3 hq2 hl4)
    ·
     go_simp
     refine hK.out _ _ ?_ (fun _=>?_)
     ·(try dsimp only);go_keep
     clear hHeld hK K;rename_i hHeld
     refine wpAnyH_ready (rs:=[3]) (by kernel_rfl) (by simp) ?_
     refine AllReadyH.cons rfl (fun K hK=>?_) AllReadyH.nil
     go_simp
     refine (rcopy_any (r:=r) ((T.out.move G.out).r.hz.below Bel.go) ((T.out.move G.out).r.hq.below Bel.go) ((T.out.move G.out).hz.below Bel.go) ((T.out.move G.out).hq.below Bel.go) ha hb).mono ?_
     rintro e w22 ⟨⟨n5,A5,l5,c5,B5,m5,d5,n6,A6,l6,c6,B6,m6,d6,rfl,z1,z2,z3,z4⟩,hb4⟩
     have hbn:Below w20.heap.size w20 w22:=(Below.trans Bel.go (hb4.mono (by simp<;>omega)))
     have KR:Hid (Blk w22 (w20.heap.size) 34 rz6):=Lib.hid ((show Blk ((w20).alloc (.cells rz6 34)) (w20.heap.size) 34 rz6 by have x:=Blk.new (w20) 34 rz6;(try simp only [World.size_alloc] at x);exact x).below hb4 (by simp;try omega))
     have ltR:=KR.out.lt
     replace KA:=Lib.hid (KA.out.below hbn KA.out.lt)
     replace H4:=Lib.hid (H4.out.below ikN hbn)
     have Z:=Lib.hid (And.intro (And.intro z1 z2) (And.intro z3 z4))
     replace G:=Lib.hid (G.out.trans (hbn.mono G.out.size))
     have sz12:=hbn.size
     obtain ⟨hcx,hfx⟩:=bcellS hb4;refine hK.out _ _ ?_ (fun _=>?_);(focus (((try dsimp only);repeat' apply And.intro)<;>(rw [hcx _ (by go_simp)];go_simp)));clear hHeld hK K hcx hfx;rename_i hHeld
     clear hb4 hbn z1 z2 z3 z4
     have FA:Hid (Blk (w22) (wb.heap.size) 25 #[.slice none 0 0]):=Lib.hid (by simpa using KA.out)
     have FR:Hid (Blk (w22) (w20.heap.size) 34 rz6):=Lib.hid (by simpa using KR.out)
     have FP:Hid (PolyN (w22) A4 l4 c4 (qpart f)):=Lib.hid (H4.out.below ikN Bel.go)
     have FZ:Hid ((IntN (w22) n5 A5 l5 c5 (nfr r).1.z∧NatN (w22) B5 m5 d5 (nfr r).1.q)∧(IntN (w22) n6 A6 l6 c6 (nfr r).2.z∧NatN (w22) B6 m6 d6 (nfr r).2.q)):=Lib.hid ⟨⟨Z.out.1.1.below Bel.go,Z.out.1.2.below Bel.go⟩,Z.out.2.1.below Bel.go,Z.out.2.2.below Bel.go⟩
     have FG:Hid (Below wb.heap.size wb (w22)):=Lib.hid (G.out.trans (Below.mono (B:=w22.heap.size) Bel.go G.out.size))
     obtain ⟨wz,hwz⟩:∃ wz,wz=(w22):=⟨_,rfl⟩
     rw [← hwz] at FA FR FP FZ FG hHeld ⊢
     clear hwz Z H4 G
     (have nA:wb.heap.size≤wb.heap.size:=(by omega);have nR:wb.heap.size≤w20.heap.size:=(by omega);have n1:g1≠wb.heap.size:=(by omega);have n2:g1≠w20.heap.size:=(by omega);have n3:wb.heap.size≠w20.heap.size:=(by omega);have a0:=(FA.out.cell 0).trans rfl;have a1:=FA.out.frozen 0;obtain ⟨q0,q1,q2,q3,q4,q5⟩:=hHeld;have K4:=Lib.hid FR.out;have r0:=(K4.out.cell 0).trans rfl;have r1:=(K4.out.cell 1).trans rfl;have r2:=(K4.out.cell 2).trans rfl;have r3:=(K4.out.cell 3).trans rfl;have r4:=(K4.out.cell 4).trans rfl;have r5:=(K4.out.cell 5).trans rfl;have s0:=K4.out.frozen 0;have s1:=K4.out.frozen 1;have s2:=K4.out.frozen 2;have s3:=K4.out.frozen 3;have s4:=K4.out.frozen 4;have s5:=K4.out.frozen 5;refine wpAnyH_ready (rs:=[6]) (by kernel_rfl) (by simp) ?_;refine AllReadyH.cons rfl (fun K hK=>?_) AllReadyH.nil;go_simp;refine hK.out _ _ ?_ (fun _=>?_);(focus (refine ⟨?_,?_,?_,?_,?_,?_⟩<;>(repeat (rw [World.cell?_setCell_other _ _ _ _ (by intro e;injection e with e _;omega)]))<;>assumption));clear hK K;rename_i hHeld;refine wpAnyH_ready (rs:=[7]) (by kernel_rfl) (by simp) ?_;refine AllReadyH.cons rfl (fun K hK=>?_) AllReadyH.nil;go_simp;refine hK.out _ _ ?_ (fun _=>?_);(focus (refine ⟨?_,?_,?_,?_,?_,?_⟩<;>(repeat (rw [World.cell?_setCell_other _ _ _ _ (by intro e;injection e with e _;omega)]))<;>assumption));clear hK K;refine wpAnyH_done (by kernel_rfl) ?_ _;go_wp2;go_meet;exact stz_end FA.out FR.out FP.out FZ.out.1.1 FZ.out.1.2 FZ.out.2.1 FZ.out.2.2 FG.out nA nR n3 hq2 hl4)
   ·
    go_simp
    refine hK.out _ _ ?_ (fun _=>?_)
    ·(try dsimp only);go_keep
    clear hHeld hK K;rename_i hHeld
    refine wpAnyH_ready (rs:=[1]) (by kernel_rfl) (by simp) ?_
    refine AllReadyH.cons rfl (fun K hK=>?_) AllReadyH.nil
    go_simp
    refine (part_q hI _ _ _ f _ ((HP.out.below hI G.out).below hI Bel.go) h9.cp.fit.smp (fun _=>h9.q) (by omega)).mono ?_
    rintro e w23 ⟨A4,l4,c4,rfl,h4,hb4⟩
    have hl4:l4≤10:=by have:=h4.length;omega
    have hbn:Below wb.heap.size wb w23:=(Below.trans Bel.go (hb4.mono (by simp<;>omega)))
    have KA:Hid (Blk w23 (wb.heap.size) 25 #[.slice none 0 0]):=Lib.hid ((show Blk ((((wb).alloc (.cells #[.slice none 0 0] 25)).alloc (.cells rz6 34)).drew) (wb.heap.size) 25 #[.slice none 0 0] by have x:=(Blk.new (wb) 25 #[.slice none 0 0]).alloc (.cells rz6 34);(try simp only [World.size_alloc] at x);exact x).below hb4 (by simp;try omega))
    have ltA:=KA.out.lt
    have KR:Hid (Blk w23 (wb.heap.size+1) 34 rz6):=Lib.hid ((show Blk ((((wb).alloc (.cells #[.slice none 0 0] 25)).alloc (.cells rz6 34)).drew) (wb.heap.size+1) 34 rz6 by have x:=Blk.new ((wb).alloc (.cells #[.slice none 0 0] 25)) 34 rz6;(try simp only [World.size_alloc] at x);exact x).below hb4 (by simp;try omega))
    have ltR:=KR.out.lt
    have H4:=Lib.hid h4
    replace G:=Lib.hid (G.out.trans (hbn.mono G.out.size))
    have sz13:=hbn.size
    obtain ⟨hcx,hfx⟩:=bcellS hb4;refine hK.out _ _ ?_ (fun _=>?_);(focus (((try dsimp only);repeat' apply And.intro)<;>(rw [hcx _ (by go_simp)];go_simp)));clear hHeld hK K hcx hfx;rename_i hHeld
    clear hb4 hbn h4
    refine wpAnyH_ready (rs:=[3]) (by kernel_rfl) (by simp) ?_
    refine AllReadyH.cons rfl (fun K hK=>?_) AllReadyH.nil
    go_simp
    refine (rcopy_any (r:=r) ((T.out.move G.out).r.hz.below Bel.go) ((T.out.move G.out).r.hq.below Bel.go) ((T.out.move G.out).hz.below Bel.go) ((T.out.move G.out).hq.below Bel.go) ha hb).mono ?_
    rintro e w24 ⟨⟨n5,A5,l5,c5,B5,m5,d5,n6,A6,l6,c6,B6,m6,d6,rfl,z1,z2,z3,z4⟩,hb4⟩
    have hbn:Below w23.heap.size w23 w24:=(Below.trans Bel.go (hb4.mono (by simp<;>omega)))
    replace KA:=Lib.hid (KA.out.below hbn KA.out.lt)
    replace KR:=Lib.hid (KR.out.below hbn KR.out.lt)
    replace H4:=Lib.hid (H4.out.below ikN hbn)
    have Z:=Lib.hid (And.intro (And.intro z1 z2) (And.intro z3 z4))
    replace G:=Lib.hid (G.out.trans (hbn.mono G.out.size))
    have sz14:=hbn.size
    obtain ⟨hcx,hfx⟩:=bcellS hb4;refine hK.out _ _ ?_ (fun _=>?_);(focus (((try dsimp only);repeat' apply And.intro)<;>(rw [hcx _ (by go_simp)];go_simp)));clear hHeld hK K hcx hfx;rename_i hHeld
    clear hb4 hbn z1 z2 z3 z4
    have FA:Hid (Blk (w24) (wb.heap.size) 25 #[.slice none 0 0]):=Lib.hid (by simpa using KA.out)
    have FR:Hid (Blk (w24) (wb.heap.size+1) 34 rz6):=Lib.hid (by simpa using KR.out)
    have FP:Hid (PolyN (w24) A4 l4 c4 (qpart f)):=Lib.hid (H4.out.below ikN Bel.go)
    have FZ:Hid ((IntN (w24) n5 A5 l5 c5 (nfr r).1.z∧NatN (w24) B5 m5 d5 (nfr r).1.q)∧(IntN (w24) n6 A6 l6 c6 (nfr r).2.z∧NatN (w24) B6 m6 d6 (nfr r).2.q)):=Lib.hid ⟨⟨Z.out.1.1.below Bel.go,Z.out.1.2.below Bel.go⟩,Z.out.2.1.below Bel.go,Z.out.2.2.below Bel.go⟩
    have FG:Hid (Below wb.heap.size wb (w24)):=Lib.hid (G.out.trans (Below.mono (B:=w24.heap.size) Bel.go G.out.size))
    obtain ⟨wz,hwz⟩:∃ wz,wz=(w24):=⟨_,rfl⟩
    rw [← hwz] at FA FR FP FZ FG hHeld ⊢
    clear hwz Z H4 G
    (have nA:wb.heap.size≤wb.heap.size:=(by omega);have nR:wb.heap.size≤wb.heap.size+1:=(by omega);have n1:g1≠wb.heap.size:=(by omega);have n2:g1≠wb.heap.size+1:=(by omega);have n3:wb.heap.size≠wb.heap.size+1:=(by omega);have a0:=(FA.out.cell 0).trans rfl;have a1:=FA.out.frozen 0;obtain ⟨q0,q1,q2,q3,q4,q5⟩:=hHeld;have K4:=Lib.hid FR.out;have r0:=(K4.out.cell 0).trans rfl;have r1:=(K4.out.cell 1).trans rfl;have r2:=(K4.out.cell 2).trans rfl;have r3:=(K4.out.cell 3).trans rfl;have r4:=(K4.out.cell 4).trans rfl;have r5:=(K4.out.cell 5).trans rfl;have s0:=K4.out.frozen 0;have s1:=K4.out.frozen 1;have s2:=K4.out.frozen 2;have s3:=K4.out.frozen 3;have s4:=K4.out.frozen 4;have s5:=K4.out.frozen 5;refine wpAnyH_ready (rs:=[6]) (by kernel_rfl) (by simp) ?_;refine AllReadyH.cons rfl (fun K hK=>?_) AllReadyH.nil;go_simp;refine hK.out _ _ ?_ (fun _=>?_);(focus (refine ⟨?_,?_,?_,?_,?_,?_⟩<;>(repeat (rw [World.cell?_setCell_other _ _ _ _ (by intro e;injection e with e _;omega)]))<;>assumption));clear hK K;rename_i hHeld;refine wpAnyH_ready (rs:=[7]) (by kernel_rfl) (by simp) ?_;refine AllReadyH.cons rfl (fun K hK=>?_) AllReadyH.nil;go_simp;refine hK.out _ _ ?_ (fun _=>?_);(focus (refine ⟨?_,?_,?_,?_,?_,?_⟩<;>(repeat (rw [World.cell?_setCell_other _ _ _ _ (by intro e;injection e with e _;omega)]))<;>assumption));clear hK K;refine wpAnyH_done (by kernel_rfl) ?_ _;go_wp2;go_meet;exact stz_end FA.out FR.out FP.out FZ.out.1.1 FZ.out.1.2 FZ.out.2.1 FZ.out.2.2 FG.out nA nR n3 hq2 hl4)
  ·
   go_simp
   refine hK.out _ _ ?_ (fun _=>?_)
   ·(try dsimp only);go_keep
   clear hHeld hK K;rename_i hHeld
   refine wpAnyH_ready (rs:=[1,4]) (by kernel_rfl) (by simp) ?_
   refine AllReadyH.cons rfl (fun K hK=>?_) (AllReadyH.cons rfl (fun K hK=>?_) AllReadyH.nil)
   ·
    go_simp
    refine (part_q hI _ _ _ f _ ((HP.out.below hI G.out).below hI Bel.go) h9.cp.fit.smp (fun _=>h9.q) (by omega)).mono ?_
    rintro e w25 ⟨A4,l4,c4,rfl,h4,hb4⟩
    have hl4:l4≤10:=by have:=h4.length;omega
    have hbn:Below wb.heap.size wb w25:=(Below.trans Bel.go (hb4.mono (by simp<;>omega)))
    have KR:Hid (Blk w25 (wb.heap.size) 34 rz6):=Lib.hid ((show Blk (((wb).alloc (.cells rz6 34)).drew) (wb.heap.size) 34 rz6 by have x:=Blk.new (wb) 34 rz6;(try simp only [World.size_alloc] at x);exact x).below hb4 (by simp;try omega))
    have ltR:=KR.out.lt
    have H4:=Lib.hid h4
    replace G:=Lib.hid (G.out.trans (hbn.mono G.out.size))
    have sz15:=hbn.size
    obtain ⟨hcx,hfx⟩:=bcellS hb4;refine hK.out _ _ ?_ (fun _=>?_);(focus (((try dsimp only);repeat' apply And.intro)<;>(rw [hcx _ (by go_simp)];go_simp)));clear hHeld hK K hcx hfx;rename_i hHeld
    clear hb4 hbn h4
    refine wpAnyH_ready (rs:=[3,4]) (by kernel_rfl) (by simp) ?_
    refine AllReadyH.cons rfl (fun K hK=>?_) (AllReadyH.cons rfl (fun K hK=>?_) AllReadyH.nil)
    ·
     go_simp
     refine (rcopy_any (r:=r) ((T.out.move G.out).r.hz.below Bel.go) ((T.out.move G.out).r.hq.below Bel.go) ((T.out.move G.out).hz.below Bel.go) ((T.out.move G.out).hq.below Bel.go) ha hb).mono ?_
     rintro e w26 ⟨⟨n5,A5,l5,c5,B5,m5,d5,n6,A6,l6,c6,B6,m6,d6,rfl,z1,z2,z3,z4⟩,hb4⟩
     have hbn:Below w25.heap.size w25 w26:=(Below.trans Bel.go (hb4.mono (by simp<;>omega)))
     replace KR:=Lib.hid (KR.out.below hbn KR.out.lt)
     replace H4:=Lib.hid (H4.out.below ikN hbn)
     have Z:=Lib.hid (And.intro (And.intro z1 z2) (And.intro z3 z4))
     replace G:=Lib.hid (G.out.trans (hbn.mono G.out.size))
     have sz16:=hbn.size
     obtain ⟨hcx,hfx⟩:=bcellS hb4;refine hK.out _ _ ?_ (fun _=>?_);(focus (((try dsimp only);repeat' apply And.intro)<;>(rw [hcx _ (by go_simp)];go_simp)));clear hHeld hK K hcx hfx;rename_i hHeld
     clear hb4 hbn z1 z2 z3 z4
     refine wpAnyH_ready (rs:=[4]) (by kernel_rfl) (by simp) ?_
     refine AllReadyH.cons rfl (fun K hK=>?_) AllReadyH.nil
     go_simp
     refine hK.out _ _ ?_ (fun _=>?_)
     ·(try dsimp only);go_keep
     clear hHeld hK K;rename_i hHeld
     have FA:Hid (Blk ((w26).alloc (.cells #[.slice none 0 0] 25)) (w26.heap.size) 25 #[.slice none 0 0]):=Lib.hid (by simpa using Blk.new (w26) 25 #[.slice none 0 0])
     have FR:Hid (Blk ((w26).alloc (.cells #[.slice none 0 0] 25)) (wb.heap.size) 34 rz6):=Lib.hid (by simpa using (KR.out).alloc (.cells #[.slice none 0 0] 25))
     have FP:Hid (PolyN ((w26).alloc (.cells #[.slice none 0 0] 25)) A4 l4 c4 (qpart f)):=Lib.hid (H4.out.below ikN Bel.go)
     have FZ:Hid ((IntN ((w26).alloc (.cells #[.slice none 0 0] 25)) n5 A5 l5 c5 (nfr r).1.z∧NatN ((w26).alloc (.cells #[.slice none 0 0] 25)) B5 m5 d5 (nfr r).1.q)∧(IntN ((w26).alloc (.cells #[.slice none 0 0] 25)) n6 A6 l6 c6 (nfr r).2.z∧NatN ((w26).alloc (.cells #[.slice none 0 0] 25)) B6 m6 d6 (nfr r).2.q)):=Lib.hid ⟨⟨Z.out.1.1.below Bel.go,Z.out.1.2.below Bel.go⟩,Z.out.2.1.below Bel.go,Z.out.2.2.below Bel.go⟩
     have FG:Hid (Below wb.heap.size wb ((w26).alloc (.cells #[.slice none 0 0] 25))):=Lib.hid (G.out.trans (Below.mono (B:=w26.heap.size) Bel.go G.out.size))
     obtain ⟨wz,hwz⟩:∃ wz,wz=((w26).alloc (.cells #[.slice none 0 0] 25)):=⟨_,rfl⟩
     rw [← hwz] at FA FR FP FZ FG hHeld ⊢
     clear hwz Z H4 G
     (have nA:wb.heap.size≤w26.heap.size:=(by omega);have nR:wb.heap.size≤wb.heap.size:=(by omega);have n1:g1≠w26.heap.size:=(by omega);have n2:g1≠wb.heap.size:=(by omega);have n3:w26.heap.size≠wb.heap.size:=(by omega);have a0:=(FA.out.cell 0).trans rfl;have a1:=FA.out.frozen 0;obtain ⟨q0,q1,q2,q3,q4,q5⟩:=hHeld;have K4:=Lib.hid FR.out;have r0:=(K4.out.cell 0).trans rfl;have r1:=(K4.out.cell 1).trans rfl;have r2:=(K4.out.cell 2).trans rfl;have r3:=(K4.out.cell 3).trans rfl;have r4:=(K4.out.cell 4).trans rfl;have r5:=(K4.out.cell 5).trans rfl;have s0:=K4.out.frozen 0;have s1:=K4.out.frozen 1;have s2:=K4.out.frozen 2;have s3:=K4.out.frozen 3;have s4:=K4.out.frozen 4;have s5:=K4.out.frozen 5;refine wpAnyH_ready (rs:=[6]) (by kernel_rfl) (by simp) ?_;refine AllReadyH.cons rfl (fun K hK=>?_) AllReadyH.nil;go_simp;refine hK.out _ _ ?_ (fun _=>?_);(focus (refine ⟨?_,?_,?_,?_,?_,?_⟩<;>(repeat (rw [World.cell?_setCell_other _ _ _ _ (by intro e;injection e with e _;omega)]))<;>assumption));clear hK K;rename_i hHeld;refine wpAnyH_ready (rs:=[7]) (by kernel_rfl) (by simp) ?_;refine AllReadyH.cons rfl (fun K hK=>?_) AllReadyH.nil;go_simp;refine hK.out _ _ ?_ (fun _=>?_);(focus (refine ⟨?_,?_,?_,?_,?_,?_⟩<;>(repeat (rw [World.cell?_setCell_other _ _ _ _ (by intro e;injection e with e _;omega)]))<;>assumption));clear hK K;refine wpAnyH_done (by kernel_rfl) ?_ _;go_wp2;go_meet;exact stz_end FA.out FR.out FP.out FZ.out.1.1 FZ.out.1.2 FZ.out.2.1 FZ.out.2.2 FG.out nA nR n3 hq2 hl4)
    ·
     go_simp
     refine hK.out _ _ ?_ (fun _=>?_)
     ·(try dsimp only);go_keep
     clear hHeld hK K;rename_i hHeld
     refine wpAnyH_ready (rs:=[3]) (by kernel_rfl) (by simp) ?_
     refine AllReadyH.cons rfl (fun K hK=>?_) AllReadyH.nil
     go_simp
     refine (rcopy_any (r:=r) ((T.out.move G.out).r.hz.below Bel.go) ((T.out.move G.out).r.hq.below Bel.go) ((T.out.move G.out).hz.below Bel.go) ((T.out.move G.out).hq.below Bel.go) ha hb).mono ?_
     rintro e w27 ⟨⟨n5,A5,l5,c5,B5,m5,d5,n6,A6,l6,c6,B6,m6,d6,rfl,z1,z2,z3,z4⟩,hb4⟩
     have hbn:Below w25.heap.size w25 w27:=(Below.trans Bel.go (hb4.mono (by simp<;>omega)))
     have KA:Hid (Blk w27 (w25.heap.size) 25 #[.slice none 0 0]):=Lib.hid ((show Blk ((w25).alloc (.cells #[.slice none 0 0] 25)) (w25.heap.size) 25 #[.slice none 0 0] by have x:=Blk.new (w25) 25 #[.slice none 0 0];(try simp only [World.size_alloc] at x);exact x).below hb4 (by simp;try omega))
     have ltA:=KA.out.lt
     replace KR:=Lib.hid (KR.out.below hbn KR.out.lt)
     replace H4:=Lib.hid (H4.out.below ikN hbn)
     have Z:=Lib.hid (And.intro (And.intro z1 z2) (And.intro z3 z4))
     replace G:=Lib.hid (G.out.trans (hbn.mono G.out.size))
     have sz17:=hbn.size
     obtain ⟨hcx,hfx⟩:=bcellS hb4;refine hK.out _ _ ?_ (fun _=>?_);(focus (((try dsimp only);repeat' apply And.intro)<;>(rw [hcx _ (by go_simp)];go_simp)));clear hHeld hK K hcx hfx;rename_i hHeld
     clear hb4 hbn z1 z2 z3 z4
     have FA:Hid (Blk (w27) (w25.heap.size) 25 #[.slice none 0 0]):=Lib.hid (by simpa using KA.out)
     have FR:Hid (Blk (w27) (wb.heap.size) 34 rz6):=Lib.hid (by simpa using KR.out)
     have FP:Hid (PolyN (w27) A4 l4 c4 (qpart f)):=Lib.hid (H4.out.below ikN Bel.go)
     have FZ:Hid ((IntN (w27) n5 A5 l5 c5 (nfr r).1.z∧NatN (w27) B5 m5 d5 (nfr r).1.q)∧(IntN (w27) n6 A6 l6 c6 (nfr r).2.z∧NatN (w27) B6 m6 d6 (nfr r).2.q)):=Lib.hid ⟨⟨Z.out.1.1.below Bel.go,Z.out.1.2.below Bel.go⟩,Z.out.2.1.below Bel.go,Z.out.2.2.below Bel.go⟩
     have FG:Hid (Below wb.heap.size wb (w27)):=Lib.hid (G.out.trans (Below.mono (B:=w27.heap.size) Bel.go G.out.size))
     obtain ⟨wz,hwz⟩:∃ wz,wz=(w27):=⟨_,rfl⟩
     rw [← hwz] at FA FR FP FZ FG hHeld ⊢
     clear hwz Z H4 G
     (have nA:wb.heap.size≤w25.heap.size:=(by omega);have nR:wb.heap.size≤wb.heap.size:=(by omega);have n1:g1≠w25.heap.size:=(by omega);have n2:g1≠wb.heap.size:=(by omega);have n3:w25.heap.size≠wb.heap.size:=(by omega);have a0:=(FA.out.cell 0).trans rfl;have a1:=FA.out.frozen 0;obtain ⟨q0,q1,q2,q3,q4,q5⟩:=hHeld;have K4:=Lib.hid FR.out;have r0:=(K4.out.cell 0).trans rfl;have r1:=(K4.out.cell 1).trans rfl;have r2:=(K4.out.cell 2).trans rfl;have r3:=(K4.out.cell 3).trans rfl;have r4:=(K4.out.cell 4).trans rfl;have r5:=(K4.out.cell 5).trans rfl;have s0:=K4.out.frozen 0;have s1:=K4.out.frozen 1;have s2:=K4.out.frozen 2;have s3:=K4.out.frozen 3;have s4:=K4.out.frozen 4;have s5:=K4.out.frozen 5;refine wpAnyH_ready (rs:=[6]) (by kernel_rfl) (by simp) ?_;refine AllReadyH.cons rfl (fun K hK=>?_) AllReadyH.nil;go_simp;refine hK.out _ _ ?_ (fun _=>?_);(focus (refine ⟨?_,?_,?_,?_,?_,?_⟩<;>(repeat (rw [World.cell?_setCell_other _ _ _ _ (by intro e;injection e with e _;omega)]))<;>assumption));clear hK K;rename_i hHeld;refine wpAnyH_ready (rs:=[7]) (by kernel_rfl) (by simp) ?_;refine AllReadyH.cons rfl (fun K hK=>?_) AllReadyH.nil;go_simp;refine hK.out _ _ ?_ (fun _=>?_);(focus (refine ⟨?_,?_,?_,?_,?_,?_⟩<;>(repeat (rw [World.cell?_setCell_other _ _ _ _ (by intro e;injection e with e _;omega)]))<;>assumption));clear hK K;refine wpAnyH_done (by kernel_rfl) ?_ _;go_wp2;go_meet;exact stz_end FA.out FR.out FP.out FZ.out.1.1 FZ.out.1.2 FZ.out.2.1 FZ.out.2.2 FG.out nA nR n3 hq2 hl4)
   ·
    go_simp
    refine hK.out _ _ ?_ (fun _=>?_)
    ·(try dsimp only);go_keep
    clear hHeld hK K;rename_i hHeld
    refine wpAnyH_ready (rs:=[1]) (by kernel_rfl) (by simp) ?_
    refine AllReadyH.cons rfl (fun K hK=>?_) AllReadyH.nil
    go_simp
    refine (part_q hI _ _ _ f _ ((HP.out.below hI G.out).below hI Bel.go) h9.cp.fit.smp (fun _=>h9.q) (by omega)).mono ?_
    rintro e w28 ⟨A4,l4,c4,rfl,h4,hb4⟩
    have hl4:l4≤10:=by have:=h4.length;omega
    have hbn:Below wb.heap.size wb w28:=(Below.trans Bel.go (hb4.mono (by simp<;>omega)))
    have KR:Hid (Blk w28 (wb.heap.size) 34 rz6):=Lib.hid ((show Blk ((((wb).alloc (.cells rz6 34)).alloc (.cells #[.slice none 0 0] 25)).drew) (wb.heap.size) 34 rz6 by have x:=(Blk.new (wb) 34 rz6).alloc (.cells #[.slice none 0 0] 25);(try simp only [World.size_alloc] at x);exact x).below hb4 (by simp;try omega))
    have ltR:=KR.out.lt
    have KA:Hid (Blk w28 (wb.heap.size+1) 25 #[.slice none 0 0]):=Lib.hid ((show Blk ((((wb).alloc (.cells rz6 34)).alloc (.cells #[.slice none 0 0] 25)).drew) (wb.heap.size+1) 25 #[.slice none 0 0] by have x:=Blk.new ((wb).alloc (.cells rz6 34)) 25 #[.slice none 0 0];(try simp only [World.size_alloc] at x);exact x).below hb4 (by simp;try omega))
    have ltA:=KA.out.lt
    have H4:=Lib.hid h4
    replace G:=Lib.hid (G.out.trans (hbn.mono G.out.size))
    have sz18:=hbn.size
    obtain ⟨hcx,hfx⟩:=bcellS hb4;refine hK.out _ _ ?_ (fun _=>?_);(focus (((try dsimp only);repeat' apply And.intro)<;>(rw [hcx _ (by go_simp)];go_simp)));clear hHeld hK K hcx hfx;rename_i hHeld
    clear hb4 hbn h4
    refine wpAnyH_ready (rs:=[3]) (by kernel_rfl) (by simp) ?_
    refine AllReadyH.cons rfl (fun K hK=>?_) AllReadyH.nil
    go_simp
    refine (rcopy_any (r:=r) ((T.out.move G.out).r.hz.below Bel.go) ((T.out.move G.out).r.hq.below Bel.go) ((T.out.move G.out).hz.below Bel.go) ((T.out.move G.out).hq.below Bel.go) ha hb).mono ?_
    rintro e w29 ⟨⟨n5,A5,l5,c5,B5,m5,d5,n6,A6,l6,c6,B6,m6,d6,rfl,z1,z2,z3,z4⟩,hb4⟩
    have hbn:Below w28.heap.size w28 w29:=(Below.trans Bel.go (hb4.mono (by simp<;>omega)))
    replace KA:=Lib.hid (KA.out.below hbn KA.out.lt)
    replace KR:=Lib.hid (KR.out.below hbn KR.out.lt)
    replace H4:=Lib.hid (H4.out.below ikN hbn)
    have Z:=Lib.hid (And.intro (And.intro z1 z2) (And.intro z3 z4))
    replace G:=Lib.hid (G.out.trans (hbn.mono G.out.size))
    have sz19:=hbn.size
    obtain ⟨hcx,hfx⟩:=bcellS hb4;refine hK.out _ _ ?_ (fun _=>?_);(focus (((try dsimp only);repeat' apply And.intro)<;>(rw [hcx _ (by go_simp)];go_simp)));clear hHeld hK K hcx hfx;rename_i hHeld
    clear hb4 hbn z1 z2 z3 z4
    have FA:Hid (Blk (w29) (wb.heap.size+1) 25 #[.slice none 0 0]):=Lib.hid (by simpa using KA.out)
    have FR:Hid (Blk (w29) (wb.heap.size) 34 rz6):=Lib.hid (by simpa using KR.out)
    have FP:Hid (PolyN (w29) A4 l4 c4 (qpart f)):=Lib.hid (H4.out.below ikN Bel.go)
    have FZ:Hid ((IntN (w29) n5 A5 l5 c5 (nfr r).1.z∧NatN (w29) B5 m5 d5 (nfr r).1.q)∧(IntN (w29) n6 A6 l6 c6 (nfr r).2.z∧NatN (w29) B6 m6 d6 (nfr r).2.q)):=Lib.hid ⟨⟨Z.out.1.1.below Bel.go,Z.out.1.2.below Bel.go⟩,Z.out.2.1.below Bel.go,Z.out.2.2.below Bel.go⟩
    have FG:Hid (Below wb.heap.size wb (w29)):=Lib.hid (G.out.trans (Below.mono (B:=w29.heap.size) Bel.go G.out.size))
    obtain ⟨wz,hwz⟩:∃ wz,wz=(w29):=⟨_,rfl⟩
    rw [← hwz] at FA FR FP FZ FG hHeld ⊢
    clear hwz Z H4 G
    (have nA:wb.heap.size≤wb.heap.size+1:=(by omega);have nR:wb.heap.size≤wb.heap.size:=(by omega);have n1:g1≠wb.heap.size+1:=(by omega);have n2:g1≠wb.heap.size:=(by omega);have n3:wb.heap.size+1≠wb.heap.size:=(by omega);have a0:=(FA.out.cell 0).trans rfl;have a1:=FA.out.frozen 0;obtain ⟨q0,q1,q2,q3,q4,q5⟩:=hHeld;have K4:=Lib.hid FR.out;have r0:=(K4.out.cell 0).trans rfl;have r1:=(K4.out.cell 1).trans rfl;have r2:=(K4.out.cell 2).trans rfl;have r3:=(K4.out.cell 3).trans rfl;have r4:=(K4.out.cell 4).trans rfl;have r5:=(K4.out.cell 5).trans rfl;have s0:=K4.out.frozen 0;have s1:=K4.out.frozen 1;have s2:=K4.out.frozen 2;have s3:=K4.out.frozen 3;have s4:=K4.out.frozen 4;have s5:=K4.out.frozen 5;refine wpAnyH_ready (rs:=[6]) (by kernel_rfl) (by simp) ?_;refine AllReadyH.cons rfl (fun K hK=>?_) AllReadyH.nil;go_simp;refine hK.out _ _ ?_ (fun _=>?_);(focus (refine ⟨?_,?_,?_,?_,?_,?_⟩<;>(repeat (rw [World.cell?_setCell_other _ _ _ _ (by intro e;injection e with e _;omega)]))<;>assumption));clear hK K;rename_i hHeld;refine wpAnyH_ready (rs:=[7]) (by kernel_rfl) (by simp) ?_;refine AllReadyH.cons rfl (fun K hK=>?_) AllReadyH.nil;go_simp;refine hK.out _ _ ?_ (fun _=>?_);(focus (refine ⟨?_,?_,?_,?_,?_,?_⟩<;>(repeat (rw [World.cell?_setCell_other _ _ _ _ (by intro e;injection e with e _;omega)]))<;>assumption));clear hK K;refine wpAnyH_done (by kernel_rfl) ?_ _;go_wp2;go_meet;exact stz_end FA.out FR.out FP.out FZ.out.1.1 FZ.out.1.2 FZ.out.2.1 FZ.out.2.2 FG.out nA nR n3 hq2 hl4)
 case rest =>
  obtain ⟨gP,gR,Ap,lp,cp,n,A,l,c,B,m,d,n',A',l',c',B',m',d',rfl,rfl,h1,h2,h3,h4,h5,h6,h7⟩:=hcut
  have FX:=Lib.hid (And.intro h1 (And.intro h2 (And.intro h3 (And.intro h4 (And.intro (show w.heap.size≤gP by omega) (And.intro (show w.heap.size≤gR by omega) (Hb.out.trans (h7.mono hsb))))))))
  clear h1 h2 h3 h4 h5 h6 h7 T HP Hb
  go_wp2
  go_ret
  obtain ⟨h1,h2,h3,h4,h5,h6,h7⟩:=FX.out
  exact ⟨⟨gP,gR,Ap,lp,cp,n,A,l,c,B,m,d,n',A',l',c',B',m',d',rfl,h1,h2,h3,h4,h5,h6⟩,h7⟩
end Go.Proofs.YtobcbjcnjpgipaaGreat
namespace Go.Proofs.YtobcbjcnjpgipaaGreat
open Go Go.RowKit
theorem below_putObj {B l:Nat} {w W:World} {o':Obj} (h:Below B w W) (hl:B≤l):Below B w (W.putObj l o') :=
 ⟨h.os,h.tape,h.output,by simpa using h.size,fun k hk=>(World.putObj_heap_other (by omega)).trans (h.block k hk)⟩
theorem PolyY.nrt {N B:Nat} {W W':World} {A:Option Addr} {l c:Nat} {p:List Int} (hp:PolyY (fun _=>False) N W A l c p) (h:NRt B W W') (hN:N≤B):PolyY (fun _=>False) N W' A l c p:=by
 refine ⟨⟨hp.n.length,hp.n.cap,?_⟩,hp.off⟩
 rcases hp.n.elems with h0 | ⟨b,o,hA,hlt,he⟩
 ·exact .inl h0
 ·rcases hp.off with h0 | ⟨b',o',hA',_,hb⟩
  ·exact .inl h0
  ·rw [hA] at hA'
   injection hA' with e
   injection e with e1 e2 e3
   subst e1 e2
   have hk:=h.bel.block b (by omega)
   refine .inr ⟨b,o,hA,Nat.lt_of_lt_of_le hlt h.bel.size,fun j hj=>?_⟩
   obtain ⟨neg,Aj,lj,cj,f1,f2,f3⟩:=he j hj
   exact ⟨neg,Aj,lj,cj,(World.cell?_of_block (w:=W) hk).trans f1,(World.cell?_of_block (w:=W) hk).trans f2,f3.nrt h⟩
theorem xn_none (W:World):XN (fun _=>False) W:=fun _ h=>h.elim
def lastI (Q:List Int) (r:Fq×Fq) (xs:List RV):Fq×Fq:=if xs.length=0 then r else nfr (stp Q (nfr r) (xs.length-1))
structure StJ (w:World) (N b4 b5 b6 b8 b9:Nat) (Af:Option Addr) (lf cf:Nat) (F:List Int) (r:Fq×Fq) (xs:List RV) (W:World):Prop where
 len:xs.length<12
 h4:Blk W b4 4 #[.bool false]
 h5:Blk W b5 25 #[.slice Af lf cf]
 hp:PolyY (fun _=>False) N W Af lf cf F
 h6:∃ n A l c B m d n' A' l' c' B' m' d',RBk W b6 n A l c B m d n' A' l' c' B' m' d' r
 h8:Blk W b8 3 #[.int .i64 (xs.length:Int)]
 h9:∃ n A l c B m d n' A' l' c' B' m' d',RBk W b9 n A l c B m d n' A' l' c' B' m' d' (lastI (qpart F) r xs)
 bel:Below w.heap.size w W
section
variable {w W W':World} {N b4 b5 b6 b8 b9:Nat} {Af:Option Addr} {lf cf:Nat} {F:List Int} {r:Fq×Fq} {xs:List RV}
theorem StJ.kpx (h:StJ w N b4 b5 b6 b8 b9 Af lf cf F r xs W) (hk:KpX (fun _=>False) W W') (hb:Below w.heap.size w W'):StJ w N b4 b5 b6 b8 b9 Af lf cf F r xs W':=by
 obtain ⟨n,A,l,c,B,m,d,n',A',l',c',B',m',d',k6⟩:=h.h6
 obtain ⟨n2,A2,l2,c2,B2,m2,d2,n3,A3,l3,c3,B3,m3,d3,k9⟩:=h.h9
 exact ⟨h.len,h.h4.kpx hk id,h.h5.kpx hk id,h.hp.kpx hk (xn_none _),⟨_,_,_,_,_,_,_,_,_,_,_,_,_,_,k6.kpx hk (xn_none _) id⟩,h.h8.kpx hk id,⟨_,_,_,_,_,_,_,_,_,_,_,_,_,_,k9.kpx hk (xn_none _) id⟩,hb⟩
theorem StJ.putObj {l:Nat} {o o':Obj} (h:StJ w N b4 b5 b6 b8 b9 Af lf cf F r xs W) (hl:W.heap[l]?=some o) (hc:o.isCells=false) (hw:w.heap.size≤l):StJ w N b4 b5 b6 b8 b9 Af lf cf F r xs (W.putObj l o') :=
 h.kpx (KpX.putObj _ hl hc) (below_putObj h.bel hw)
theorem StJ.below (h:StJ w N b4 b5 b6 b8 b9 Af lf cf F r xs W) (hb:Below W.heap.size W W'):StJ w N b4 b5 b6 b8 b9 Af lf cf F r xs W' :=
 h.kpx (KpX.below hb) (h.bel.trans (hb.mono h.bel.size))
theorem RBk.nrt {B0 g:Nat} {n:Bool} {A:Option Addr} {l c:Nat} {B:Option Addr} {m d:Nat} {n':Bool} {A':Option Addr} {l' c':Nat} {B':Option Addr} {m' d':Nat} {s:Fq×Fq} (h:RBk W g n A l c B m d n' A' l' c' B' m' d' s) (hn:NRt B0 W W') (hg:g<B0):RBk W' g n A l c B m d n' A' l' c' B' m' d' s :=
 ⟨h.k.below hn.bel hg,h.hz.nrt hn,h.hq.nrt hn,h.hz'.nrt hn,h.hq'.nrt hn⟩
theorem StJ.nrt {B0:Nat} (h:StJ w N b4 b5 b6 b8 b9 Af lf cf F r xs W) (hn:NRt B0 W W') (hN:N≤B0) (h4:b4<N) (h5:b5<N) (h6:b6<N) (h8:b8<N) (h9:b9<N) (hw:w.heap.size≤N):StJ w N b4 b5 b6 b8 b9 Af lf cf F r xs W':=by
 obtain ⟨n,A,l,c,B,m,d,n',A',l',c',B',m',d',k6⟩:=h.h6
 obtain ⟨n2,A2,l2,c2,B2,m2,d2,n3,A3,l3,c3,B3,m3,d3,k9⟩:=h.h9
 exact ⟨h.len,h.h4.below hn.bel (by omega),h.h5.below hn.bel (by omega),h.hp.nrt hn hN,⟨_,_,_,_,_,_,_,_,_,_,_,_,_,_,k6.nrt hn (by omega)⟩,h.h8.below hn.bel (by omega),⟨_,_,_,_,_,_,_,_,_,_,_,_,_,_,k9.nrt hn (by omega)⟩,h.bel.trans (hn.bel.mono (by omega))⟩
end
def IxS (w:World) (N b4:Nat) (c:Code) (_:List RV) (W:World):Prop:=c=.ret∧Blk W b4 4 #[.bool true]∧Below w.heap.size w W∧N≤W.heap.size
theorem RV.ok_putObj {x:RV} {W:World} {l:Nat} {o o':Obj} (h:x.ok W) (hl:W.heap[l]?=some o) (hc:o.isCells=false):x.ok (W.putObj l o') :=
 ⟨h.1.kpx (KpX.putObj (fun _=>False) hl hc) (xn_none _),h.2.1.kpx (KpX.putObj (fun _=>False) hl hc) (xn_none _),h.2.2.1.kpx (KpX.putObj (fun _=>False) hl hc) (xn_none _),h.2.2.2.kpx (KpX.putObj (fun _=>False) hl hc) (xn_none _)⟩
theorem RV.ok_below {x:RV} {W W':World} (h:x.ok W) (hb:Below W.heap.size W W'):x.ok W':=⟨h.1.below hb,h.2.1.below hb,h.2.2.1.below hb,h.2.2.2.below hb⟩
theorem v_zero {a:Fq} (hq:0<a.q):a.v=0↔a.z=0:=by
 unfold Fq.v
 have hq':(a.q:Rat)≠0:=by
  intro h
  have:a.q=0:=by exact_mod_cast h
  omega
 constructor
 ·intro h
  have h1:(a.z:Rat)=0:=by grind
  exact_mod_cast h1
 ·intro h
  rw [h]
  grind
theorem wid_zero {f:List Int} {x:Pt} {j:Nat} {s:Fq×Fq} (h9:P9 f) (h0:plen f≠0) (h:HSt f x j s) (hj:j≤NN+2500):(wid (nfr s)).z=0↔ext s=true:=by
 obtain ⟨hn,e1,e2⟩:=h.nf
 obtain ⟨fa,fb⟩:=hn.fqb h9 h0 hj
 rw [← v_zero (wid_sz fa fb).p,wid_v fa.p fb.p,e1,e2]
 unfold ext
 rw [beq_iff_eq,fcmp_zero h.d.1.p h.d.2.p]
 constructor
 ·intro h;grind
 ·intro h;grind
def XS3 (b4 b8 b9:Nat) (k:Nat):Prop:=k=b4∨k=b8∨k=b9
theorem xn_three {w:World} {b4 b8 b9:Nat} {v4:Bool} {z:Int} {n:Bool} {A:Option Addr} {l c:Nat} {B:Option Addr} {m d:Nat} {n':Bool} {A':Option Addr} {l' c':Nat} {B':Option Addr} {m' d':Nat} {s:Fq×Fq} (h4:Blk w b4 4 #[.bool v4]) (h8:Blk w b8 3 #[.int .i64 z]) (h9:RBk w b9 n A l c B m d n' A' l' c' B' m' d' s):XN (XS3 b4 b8 b9) w:=by
 rintro k (rfl | rfl | rfl)
 ·exact ⟨⟨_,h4,rfl⟩,blk_ndb h4 fun j v hv=>by
   match j,hv with
   | 0,hv=>simp at hv;subst hv;exact noDigit_bool _
   | j+1,hv=>simp at hv⟩
 ·exact ⟨⟨_,h8,rfl⟩,blk_ndb h8 fun j v hv=>by
   match j,hv with
   | 0,hv=>simp at hv;subst hv;intro k e;cases e
   | j+1,hv=>simp at hv⟩
 ·exact ⟨⟨_,h9.k,rfl⟩,h9.ndb⟩
theorem polyx_three {w:World} {b4 b8 b9:Nat} {v4:Bool} {z:Int} {n:Bool} {A:Option Addr} {l c:Nat} {B:Option Addr} {m d:Nat} {n':Bool} {A':Option Addr} {l' c':Nat} {B':Option Addr} {m' d':Nat} {s:Fq×Fq} {Ap:Option Addr} {lp cp:Nat} {p:List Int} (h4:Blk w b4 4 #[.bool v4]) (h8:Blk w b8 3 #[.int .i64 z]) (h9:RBk w b9 n A l c B m d n' A' l' c' B' m' d' s) (hp:PolyN w Ap lp cp p) (h2:2≤p.length):PolyX (XS3 b4 b8 b9) w Ap lp cp p:=by
 have hl:2≤lp:=by rw [← hp.length];exact h2
 obtain ⟨b1,o1,e1,x1⟩:=poly_off hp hl h4 one_shape
 obtain ⟨b2,o2,e2,x2⟩:=poly_off hp hl h8 one_shape
 obtain ⟨b3,o3,e3,x3⟩:=poly_off hp hl h9.k rt_shape
 rw [e1] at e2 e3
 injection e2 with e2;injection e2 with e2 _ _;subst e2
 injection e3 with e3;injection e3 with e3 _ _;subst e3
 exact ⟨hp,.inr ⟨b1,o1,e1,by rintro (h | h | h);exact x1 h;exact x2 h;exact x3 h⟩⟩
theorem RBk.frs2 {w w':World} {g g':Nat} {n:Bool} {A:Option Addr} {l c:Nat} {B:Option Addr} {m d:Nat} {n':Bool} {A':Option Addr} {l' c':Nat} {B':Option Addr} {m' d':Nat} {s:Fq×Fq} (h:RBk w g n A l c B m d n' A' l' c' B' m' d' s) (hf:FrS g' g' w w') (nd:NdB w g') (hg:g≠g'):RBk w' g n A l c B m d n' A' l' c' B' m' d' s :=
 ⟨(hf.same g h.k.lt hg hg).trans h.k,h.hz.frs hf nd nd,h.hq.frs hf nd nd,h.hz'.frs hf nd nd,h.hq'.frs hf nd nd⟩
theorem Blk.frs2 {w w':World} {g g' t:Nat} {cs:Array Value} (h:Blk w g t cs) (hf:FrS g' g' w w') (hg:g≠g'):Blk w' g t cs:=(hf.same g h.lt hg hg).trans h
theorem int_nd {w:World} {b8:Nat} {z:Int} (h8:Blk w b8 3 #[.int .i64 z]):NdB w b8:=blk_ndb h8 fun j v hv=>by
 match j,hv with
 | 0,hv=>simp at hv;subst hv;intro k e;cases e
 | j+1,hv=>simp at hv
theorem stj_next {w W wz:World} {N b4 b5 b6 b8 b9:Nat} {Af:Option Addr} {lf cf:Nat} {F:List Int} {r:Fq×Fq} {pre:List RV} {y:RV} {n7:Bool} {A7:Option Addr} {l7 c7:Nat} {B7:Option Addr} {m7 d7:Nat} {n8:Bool} {A8:Option Addr} {l8 c8:Nat} {B8:Option Addr} {m8 d8:Nat} {s9:Fq×Fq}
 (hJ:StJ w N b4 b5 b6 b8 b9 Af lf cf F r pre wz) (hb:Below W.heap.size W wz) (KL:RBk wz b9 n7 A7 l7 c7 B7 m7 d7 n8 A8 l8 c8 B8 m8 d8 s9) (hy:y.ok wz) (h45:b4<b5) (h56:b5<b6) (h68:b6<b8) (h89:b8<b9) (h9N:b9<N) (hNW:N+2≤W.heap.size) (hw4:w.heap.size≤b4) (hl2:2≤F.length) (hlast:y.s=lastI (qpart F) r (pre ++ [y])) :
 ∃ W':World,W'=(pu6 wz b9 (.bool y.n) (.slice y.A y.l y.c) (.slice y.B y.m y.d) (.bool y.n') (.slice y.A' y.l' y.c') (.slice y.B' y.m' y.d')).setCell ⟨b8,0,none⟩ (.int .i64 ((pre.length:Int)+1)) ∧
   W'.heap[N]?=W.heap[N]?∧W'.heap[N+1]?=W.heap[N+1]?∧KpX (XS3 b4 b8 b9) W W'∧(pre.length+1<12→StJ w N b4 b5 b6 b8 b9 Af lf cf F r (pre ++ [y]) W')∧Blk W' b4 4 #[.bool false]∧Below w.heap.size w W'∧XN (XS3 b4 b8 b9) W'∧Blk W' b8 3 #[.int .i64 ((pre.length:Int)+1)]∧(RBk W' b9 y.n y.A y.l y.c y.B y.m y.d y.n' y.A' y.l' y.c' y.B' y.m' y.d' y.s):=by
 obtain ⟨n5,A5,l5,c5,B5,m5,d5,n6,A6,l6,c6,B6,m6,d6,k6⟩:=hJ.h6
 have hf1:=pu6_frs wz b9 (.bool y.n) (.slice y.A y.l y.c) (.slice y.B y.m y.d) (.bool y.n') (.slice y.A' y.l' y.c') (.slice y.B' y.m' y.d')
 have K1:=KL.put (t:=y.s) hy.1 hy.2.1 hy.2.2.1 hy.2.2.2
 have h8:=hJ.h8
 obtain ⟨W1,hW1⟩:∃ W1,W1=pu6 wz b9 (.bool y.n) (.slice y.A y.l y.c) (.slice y.B y.m y.d) (.bool y.n') (.slice y.A' y.l' y.c') (.slice y.B' y.m' y.d'):=⟨_,rfl⟩
 rw [← hW1] at hf1 K1 ⊢
 have nd9:=KL.ndb
 have b8':=h8.frs2 hf1 (by omega)
 have hf2:FrS b8 b8 W1 (W1.setCell ⟨b8,0,none⟩ (.int .i64 ((pre.length:Int)+1))):=frs_set (FrS.refl b8 b8 W1) 0 _
 have nd8:=int_nd b8'
 have b8n:Blk (W1.setCell ⟨b8,0,none⟩ (.int .i64 ((pre.length:Int)+1))) b8 3 #[.int .i64 ((pre.length:Int)+1)]:=b8'.set_ 0 _
 have hlf:2≤lf:=by rw [← hJ.hp.n.length];exact hl2
 obtain ⟨q1,o1,e1,x1⟩:=poly_off hJ.hp.n hlf KL.k rt_shape
 obtain ⟨q2,o2,e2,x2⟩:=poly_off hJ.hp.n hlf h8 one_shape
 rw [e1] at e2
 injection e2 with e2
 injection e2 with e2 e3 _
 subst e2 e3
 have P1:=(PolyG.mk hJ.hp.n (.inr ⟨q1,o1,e1,x1,x1⟩)).frs hf1 nd9 nd9
 have P2:=(PolyG.mk P1 (.inr ⟨q1,o1,e1,x2,x2⟩)).frs hf2 nd8 nd8
 have B4:=(hJ.h4.frs2 hf1 (by omega)).frs2 hf2 (by omega)
 have B5:=(hJ.h5.frs2 hf1 (by omega)).frs2 hf2 (by omega)
 have K6:=(k6.frs2 hf1 nd9 (by omega)).frs2 hf2 nd8 (by omega)
 have K9:=K1.frs2 hf2 nd8 (by omega)
 have hbs:=hb.size
 have hsame:∀ k,k<W.heap.size→k≠b8→k≠b9→(W1.setCell ⟨b8,0,none⟩ (.int .i64 ((pre.length:Int)+1))).heap[k]?=W.heap[k]?:=fun k hk h1 h2 =>
  ((hf2.same k (by have:=hf1.size;omega) h1 h1).trans (hf1.same k (by omega) h2 h2)).trans (hb.block k hk)
 have bw1:=hf1.mono hJ.bel (by omega) (by omega) hJ.bel.size
 have bw2:=hf2.mono bw1 (by omega) (by omega) bw1.size
 have xn:=xn_three B4 b8n K9
 refine ⟨_,rfl,hsame N (by omega) (by omega) (by omega),hsame (N+1) (by omega) (by omega) (by omega),⟨hf2.os.trans (hf1.os.trans hb.os),hf2.tape.trans (hf1.tape.trans hb.tape),hf2.output.trans (hf1.output.trans hb.output),Nat.le_trans hbs (Nat.le_trans hf1.size hf2.size),fun k o hk ho _=>(hsame k (Array.getElem?_eq_some_iff.1 ho).1 (fun e=>hk (.inr (.inl e))) (fun e=>hk (.inr (.inr e)))).trans ho,fun _=>xn⟩,fun hl=>?_,B4,bw2,xn,b8n,K9⟩
 have el:(pre ++ [y]).length=pre.length+1:=by rw [List.length_append];rfl
 exact ⟨by rw [el];exact hl,B4,B5,⟨P2,hJ.hp.off⟩,⟨_,_,_,_,_,_,_,_,_,_,_,_,_,_,K6⟩,by rw [el];exact b8n,⟨_,_,_,_,_,_,_,_,_,_,_,_,_,_,by rw [← hlast];exact K9⟩,bw2⟩
theorem stj_ret {w W W':World} {N b4 b8 b9:Nat} {z:Int} {pre:List RV} {n7:Bool} {A7:Option Addr} {l7 c7:Nat} {B7:Option Addr} {m7 d7:Nat} {n8:Bool} {A8:Option Addr} {l8 c8:Nat} {B8:Option Addr} {m8 d8:Nat} {s9:Fq×Fq}
 (KX:KpX (XS3 b4 b8 b9) W W') (B4:Blk W' b4 4 #[.bool false]) (H8:Blk W' b8 3 #[.int .i64 z]) (K9:RBk W' b9 n7 A7 l7 c7 B7 m7 d7 n8 A8 l8 c8 B8 m8 d8 s9) (xn:XN (XS3 b4 b8 b9) W') (BW:Below w.heap.size w W') (e1:W'.heap[N]?=W.heap[N]?) (e2:W'.heap[N+1]?=W.heap[N+1]?) (h48:b4≠b8) (h49:b4≠b9) (h4N:b4<N) (hNW:N+2≤W.heap.size) (hw4:w.heap.size≤b4) :
 (W'.setCell ⟨b4,0,none⟩ (.bool true)).heap[N]?=W.heap[N]?∧(W'.setCell ⟨b4,0,none⟩ (.bool true)).heap[N+1]?=W.heap[N+1]?∧KpX (XS3 b4 b8 b9) W (W'.setCell ⟨b4,0,none⟩ (.bool true))∧IxS w N b4 .ret pre (W'.setCell ⟨b4,0,none⟩ (.bool true)):=by
 have hf:FrS b4 b4 W' (W'.setCell ⟨b4,0,none⟩ (.bool true)):=frs_set (FrS.refl b4 b4 W') 0 _
 have hl4:=B4.lt
 have hN':=KX.size
 have B4':Blk (W'.setCell ⟨b4,0,none⟩ (.bool true)) b4 4 #[.bool true]:=B4.set_ 0 _
 have H8':=H8.frs2 hf (fun e=>h48 e.symm)
 have K9':=K9.frs2 hf (xn b4 (.inl rfl)).2 (fun e=>h49 e.symm)
 refine ⟨(hf.same N (by omega) (by omega) (by omega)).trans e1,(hf.same (N+1) (by omega) (by omega) (by omega)).trans e2,KX.trans ⟨hf.os,hf.tape,hf.output,hf.size,fun k o hk ho _=>(hf.same k (Array.getElem?_eq_some_iff.1 ho).1 (fun e=>hk (.inl e)) (fun e=>hk (.inl e))).trans ho,fun _=>xn_three B4' H8' K9'⟩,rfl,B4',hf.mono BW hw4 hw4 BW.size,by have:=hf.size;omega⟩
end Go.Proofs.YtobcbjcnjpgipaaGreat
namespace Go.Proofs.YtobcbjcnjpgipaaGreat
open Go.RowKit
end Go.Proofs.YtobcbjcnjpgipaaGreat
namespace Go.Proofs.YtobcbjcnjpgipaaGreat
open Go.RowKit
structure G6 (g:List Int):Prop where
 len:g.length≤6
 b:∀ j,(g.getD j 0).natAbs≤BB
theorem G6.fit {g:List Int} (h:G6 g):FitP g:=fun j=>Nat.lt_of_le_of_lt (h.b j) (by rw [show BB=BB^1 from (Nat.pow_one _).symm,← Nat.pow_mul,Nat.one_mul];exact Nat.pow_lt_pow_right (by rw [BB_eq];decide) (by rw [FW_eq];decide))
end Go.Proofs.YtobcbjcnjpgipaaGreat
namespace Go.Proofs.YtobcbjcnjpgipaaGreat
open Go.RowKit
end Go.Proofs.YtobcbjcnjpgipaaGreat
namespace Go.Proofs.YtobcbjcnjpgipaaGreat
open Go Go.RowKit
section
variable {f:List Int}
end
theorem Vals.getv {w:World} {g o:Nat} {rs:List (Fq×Fq)} (h:Vals w g o rs) {k:Nat} (hk:k<rs.length) :
 ∃ n A l c B m d n' A' l' c' B' m' d',w.cell? ⟨g,o+k*6,none⟩=some (.bool n)∧w.cell? ⟨g,o+k*6+1,none⟩=some (.slice A l c)∧w.cell? ⟨g,o+k*6+2,none⟩=some (.slice B m d)∧w.cell? ⟨g,o+k*6+3,none⟩=some (.bool n')∧w.cell? ⟨g,o+k*6+4,none⟩=some (.slice A' l' c')∧w.cell? ⟨g,o+k*6+5,none⟩=some (.slice B' m' d') ∧
   IntN w n A l c (rs.getD k r00).1.z∧NatN w B m d (rs.getD k r00).1.q∧IntN w n' A' l' c' (rs.getD k r00).2.z∧NatN w B' m' d' (rs.getD k r00).2.q:=by
 have e:rs[k]?=some (rs.getD k r00):=by rw [List.getD_eq_getElem?_getD,List.getElem?_eq_getElem hk];rfl
 obtain ⟨vs,⟨n,A,l,c,B,m,d,n',A',l',c',B',m',d',hv,h1,h2,h3,h4⟩,hc⟩:=h k _ e
 subst hv
 exact ⟨n,A,l,c,B,m,d,n',A',l',c',B',m',d',hc 0 _ rfl,hc 1 _ rfl,hc 2 _ rfl,hc 3 _ rfl,hc 4 _ rfl,hc 5 _ rfl,h1,h2,h3,h4⟩
end Go.Proofs.YtobcbjcnjpgipaaGreat
namespace Go.Proofs.YtobcbjcnjpgipaaGreat
open Go Go.RowKit
theorem w2_atR (w:World):I64At (w.alloc (.cells #[.int .i64 (-2),.int .i64 0,.int .i64 1] 2)) (some ⟨w.heap.size,0,none⟩) 3 3 w2:=by
 refine ⟨rfl,by omega,.inr ⟨w.heap.size,0,rfl,by simp,fun j hj=>?_⟩⟩
 match j,hj with
 | 0,_=>simp [w2]
 | 1,_=>simp [w2]
 | 2,_=>simp [w2]
theorem w2_trimR:ptrim w2=w2:=by decide
def SqE (e:Ending) (w:World):Prop:=∃ Ap lp cp n A l c B m d n' A' l' c' B' m' d',e=.returned (.tuple #[.slice Ap lp cp,.agg #[.bool n,.slice A l c,.slice B m d,.bool n',.slice A' l' c',.slice B' m' d']])∧PolyN w Ap lp cp w2∧IntN w n A l c 1∧NatN w B m d 1∧IntN w n' A' l' c' 2∧NatN w B' m' d' 1
theorem root_poly {w w':World} {g t:Nat} {A:Option Addr} {l c:Nat} {p:List Int} (hp:PolyN w A l c p) (hl:2≤p.length) (hk:Blk w g t rz6) (hf:FrS g g w w'):PolyN w' A l c p:=by
 refine PolyG.frs (g:=g) (g':=g) ⟨hp,?_⟩ hf (rz6_ndb hk) (rz6_ndb hk)
 have hlen:=hp.length
 rcases hp.elems with h0 | ⟨b,o,hA,hlt,he⟩
 ·exact .inl h0
 ·refine .inr ⟨b,o,hA,?_⟩
  have hne:b≠g:=fun e=>by
   subst e
   obtain ⟨_,_,_,_,f1,_,_⟩:=he 0 (by omega)
   obtain ⟨_,_,_,_,f2,_,_⟩:=he 1 (by omega)
   rw [hk.cell] at f1 f2
   match o,f1,f2 with
   | 0,_,f2=>simp at f2
   | 1,f1,_=>simp at f1
   | 2,f1,_=>simp at f1
   | 3,_,f2=>simp at f2
   | 4,f1,_=>simp at f1
   | 5,f1,_=>simp at f1
   | o+6,f1,_=>simp at f1
  exact ⟨hne,hne⟩
set_option maxRecDepth 100000 in
set_option maxHeartbeats 4000000 in
theorem sqrt2_any (w:World):Calls Tryz.prog 24 #[] w fun e w'=>SqE e w'∧Below w.heap.size w w':=by
 have o1:=below_new w rtObj
 have K3:Blk (w.alloc rtObj) w.heap.size 34 rz6:=Blk.new _ _ _
 have jb:=below_new (w.alloc rtObj) (.cells #[.int .i64 (-2),.int .i64 0,.int .i64 1] 2)
 have hat:=w2_atR (w.alloc rtObj)
 have Hb:=Lib.hid (o1.trans (jb.mono o1.size))
 have K4:=Lib.hid (K3.below jb K3.lt)
 obtain ⟨g3,hg3⟩:∃ g,g=w.heap.size:=⟨_,rfl⟩
 rw [← hg3] at K4
 have Hg:=Lib.hid (show w.heap.size≤g3 by omega)
 have HG3:=Lib.hid hg3
 clear o1 jb K3 hg3
 go_enter Tryz.func24,Tryz.ntmps24
 go_wp2_with fail
 refine (pof_any _ _ _ _ _ (by first | exact hat | simpa using hat) (by intro c hc;simp [w2] at hc;rcases hc with rfl | rfl | rfl<;>(unfold I64;omega)) (by omega)).mono ?_
 rintro e w1 ⟨A1,l1,c1,rfl,h1,hb1⟩
 rw [w2_trimR] at h1
 have HP:=Lib.hid h1
 replace K4:=Lib.hid (K4.out.below hb1 K4.out.lt)
 replace Hb:=Lib.hid (Hb.out.trans (hb1.mono Hb.out.size))
 clear hb1 h1 hat
 go_wp2_with fail
 refine (rof_any 1 _ (by unfold I64;omega)).mono ?_
 rintro e w2' ⟨⟨n2,A2,l2,c2,B2,m2,d2,rfl,h2,k2⟩,hb2⟩
 have H2:=Lib.hid (And.intro h2 k2)
 replace HP:=Lib.hid (HP.out.below ikN hb2)
 replace K4:=Lib.hid (K4.out.below hb2 K4.out.lt)
 replace Hb:=Lib.hid (Hb.out.trans (hb2.mono Hb.out.size))
 clear hb2 h2 k2
 go_wp2_with fail
 refine (rof_any 2 _ (by unfold I64;omega)).mono ?_
 rintro e w3 ⟨⟨n3,A3,l3,c3,B3,m3,d3,rfl,h3,k3⟩,hb3⟩
 replace H2:=Lib.hid (And.intro (H2.out.1.below hb3) (H2.out.2.below hb3))
 replace HP:=Lib.hid (HP.out.below ikN hb3)
 replace K4:=Lib.hid (K4.out.below hb3 K4.out.lt)
 replace Hb:=Lib.hid (Hb.out.trans (hb3.mono Hb.out.size))
 have hf:=pu6_frs w3 g3 (.bool n2) (.slice A2 l2 c2) (.slice B2 m2 d2) (.bool n3) (.slice A3 l3 c3) (.slice B3 m3 d3)
 have nd:=rz6_ndb K4.out
 have hpg:PolyN (pu6 w3 g3 (.bool n2) (.slice A2 l2 c2) (.slice B2 m2 d2) (.bool n3) (.slice A3 l3 c3) (.slice B3 m3 d3)) A1 l1 c1 w2:=root_poly HP.out (by decide) K4.out hf
 have FX:=Lib.hid (And.intro (show SqE (.returned (.tuple #[.slice A1 l1 c1,.agg #[.bool n2,.slice A2 l2 c2,.slice B2 m2 d2,.bool n3,.slice A3 l3 c3,.slice B3 m3 d3]])) _ from ⟨_,_,_,_,_,_,_,_,_,_,_,_,_,_,_,_,_,rfl,hpg,H2.out.1.frs hf nd nd,H2.out.2.frs hf nd nd,h3.frs hf nd nd,k3.frs hf nd nd⟩) (hf.mono Hb.out Hg.out Hg.out Hb.out.size))
 rw [← HG3.out]
 have r0:=(K4.out.cell 0).trans rfl;have r1:=(K4.out.cell 1).trans rfl;have r2:=(K4.out.cell 2).trans rfl;have r3:=(K4.out.cell 3).trans rfl;have r4:=(K4.out.cell 4).trans rfl;have r5:=(K4.out.cell 5).trans rfl;have s0:=K4.out.frozen 0;have s1:=K4.out.frozen 1;have s2:=K4.out.frozen 2;have s3:=K4.out.frozen 3;have s4:=K4.out.frozen 4;have s5:=K4.out.frozen 5
 clear hb3 h3 k3 hf nd hpg K4 Hb H2 HP
 go_wp2
 refine bodyPost_ret (v:=.tuple #[.slice A1 l1 c1,.agg #[.bool n2,.slice A2 l2 c2,.slice B2 m2 d2,.bool n3,.slice A3 l3 c3,.slice B3 m3 d3]]) (by simp [results,Tryz.results24,go_sem,r0,r1,r2,r3,r4,r5]) rfl FX.out
theorem p9_one:FqB ⟨1,1⟩:=⟨Nat.one_pos,Nat.le_trans (by decide) zb_128,Nat.le_trans (by decide) zb_128⟩
theorem p9_two:FqB ⟨2,1⟩:=⟨Nat.one_pos,Nat.le_trans (by decide) zb_128,Nat.le_trans (by decide) zb_128⟩
theorem sq_count:fcount w2 ⟨1,1⟩ ⟨2,1⟩=1:=by
 unfold fcount ncount
 rw [if_pos (by decide)]
 unfold nint
 rw [← vat_eq (z:=1) (q:=1) Nat.one_pos,← vat_eq (z:=2) (q:=1) Nat.one_pos]
 decide +kernel
theorem sq_vld:vld 2 w2 ⟨1,1⟩ ⟨2,1⟩=true:=by
 unfold vld
 rw [if_neg (by decide),if_pos (by decide),if_neg (by decide +kernel),if_neg (by decide +kernel),sq_count]
 rfl
theorem sq_cmp:cmpV w2 (⟨1,1⟩,⟨2,1⟩) ⟨1,1⟩=1:=by
 unfold cmpV
 rw [sq_vld]
 show cmpr _ _ _=1
 unfold cmpr
 rw [if_neg (by decide),if_pos (by decide)]
set_option maxHeartbeats 1000000 in
theorem awake18_any (w:World):Calls Tryz.prog 6 #[] w fun e w'=>e=.returned (.bool true)∧Below w.heap.size w w':=by
 go_enter Tryz.func6,Tryz.ntmps6
 go_wp2_with fail
 refine (sqrt2_any _).mono ?_
 rintro e w1 ⟨⟨Ap,lp,cp,n,A,l,c,B,m,d,n',A',l',c',B',m',d',rfl,hp,hz,hq,hz',hq'⟩,hb1⟩
 have T0:=TBox.make hz hq hz' hq'
 have jb:=below_new w1 (tbox n A l c B m d n' A' l' c' B' m' d')
 have T:=Lib.hid T0
 have HP:=Lib.hid (hp.below ikN jb)
 have Hb:=Lib.hid (hb1.trans (jb.mono hb1.size))
 obtain ⟨wb,hwb⟩:∃ wb,wb=w1.alloc (tbox n A l c B m d n' A' l' c' B' m' d'):=⟨_,rfl⟩
 obtain ⟨g1,hg1⟩:∃ g,g=w1.heap.size:=⟨_,rfl⟩
 clear hb1 jb T0 hp hz hq hz' hq'
 go_wp2_with fail
 rw [← hwb,← hg1] at T
 rw [← hwb] at HP Hb ⊢
 rw [← hg1]
 have l1:=T.out.r.lt
 clear hwb hg1
 have x0:=T.out.r.c0;have x1:=T.out.r.c1;have x2:=T.out.r.c2;have x3:=T.out.c3;have x4:=T.out.c4;have x5:=T.out.c5
 refine wp_region_held_drew (S:=fun w'=>w'.cell? ⟨g1,0,none⟩=some (.bool n)∧w'.cell? ⟨g1,1,none⟩=some (.slice A l c)∧w'.cell? ⟨g1,2,none⟩=some (.slice B m d)∧w'.cell? ⟨g1,3,none⟩=some (.bool n')∧w'.cell? ⟨g1,4,none⟩=some (.slice A' l' c')∧w'.cell? ⟨g1,5,none⟩=some (.slice B' m' d')) (by kernel_rfl) (by (try dsimp only);go_keep) (fun hHeld=>?_)
 (refine tk (i:=0) (v:=?_) rfl rfl (Or.inl ⟨by rfl,?_⟩) ?_;rotate_left;(focus (intro w hSw;(try dsimp only at hSw);go_simp;(try with_reducible rfl)));(simp only [put_lit,List.set]))
 (refine tk (i:=1) (v:=?_) rfl rfl (Or.inl ⟨by rfl,?_⟩) ?_;rotate_left;(focus (intro w hSw;(try dsimp only at hSw);go_simp;(try with_reducible rfl)));(simp only [put_lit,List.set]))
 refine wpAnyH_ready (rs:=[2]) (by kernel_rfl) (by simp) ?_
 refine AllReadyH.cons rfl (fun K hK=>?_) AllReadyH.nil;go_simp
 refine (rof_any 1 _ (by unfold I64;omega)).mono ?_
 rintro e w4 ⟨⟨n4,A4,l4,c4,B4,m4,d4,rfl,h4,k4⟩,hb4⟩
 have G4:=Lib.hid ((Below.trans Bel.go (hb4.mono (by simp<;>omega))):Below wb.heap.size wb w4)
 have H4:=Lib.hid (And.intro h4 k4)
 obtain ⟨hcx,hfx⟩:=bcellS hb4
 refine hK.out _ _ ?_ (fun _=>?_)
 ·((try dsimp only);repeat' apply And.intro)<;>(rw [hcx _ (by go_simp)];go_simp)
 clear hHeld hK K hcx hfx;rename_i hHeld
 clear h4 k4 hb4
 refine wpAnyH_ready (rs:=[3]) (by kernel_rfl) (by simp) ?_
 refine AllReadyH.cons rfl (fun K hK=>?_) AllReadyH.nil;go_simp
 have T4:=T.out.move G4.out
 refine (rcmpr_any ikN (f:=w2) (r:=(⟨1,1⟩,⟨2,1⟩)) (a:=⟨1,1⟩) ((HP.out.below ikN G4.out).below ikN Bel.go) (by decide) p9_w2 (T4.r.hz.below Bel.go) (T4.r.hq.below Bel.go) (T4.hz.below Bel.go) (T4.hq.below Bel.go) (H4.out.1.below Bel.go) (H4.out.2.below Bel.go) p9_one p9_two p9_one).mono ?_
 rintro e w5 ⟨he,hb5⟩
 rw [sq_cmp,show vld 2 w2 (⟨1,1⟩:Fq) ⟨2,1⟩=true from sq_vld] at he
 have he2:e=.returned (.tuple #[.int .i64 1,.int .i64 0]):=he
 subst he2
 have G5:=Lib.hid (G4.out.trans (((Below.trans Bel.go (hb5.mono (by simp<;>omega))):Below w4.heap.size w4 w5).mono G4.out.size))
 obtain ⟨hcx,hfx⟩:=bcellS hb5
 refine hK.out _ _ ?_ (fun _=>?_)
 ·((try dsimp only);repeat' apply And.intro)<;>(rw [hcx _ (by go_simp)];go_simp)
 clear hHeld hK K hcx hfx;rename_i hHeld
 clear hb5 he T4
 (refine tk (i:=4) (v:=?_) rfl rfl (Or.inl ⟨by rfl,?_⟩) ?_;rotate_left;(focus (intro w hSw;(try dsimp only at hSw);go_simp;(try with_reducible rfl)));(simp only [put_lit,List.set]))
 (refine tk (i:=5) (v:=?_) rfl rfl (Or.inl ⟨by rfl,?_⟩) ?_;rotate_left;(focus (intro w hSw;(try dsimp only at hSw);go_simp;(try with_reducible rfl)));(simp only [put_lit,List.set]))
 (refine tk (i:=6) (v:=?_) rfl rfl (Or.inl ⟨by rfl,?_⟩) ?_;rotate_left;(focus (intro w hSw;(try dsimp only at hSw);go_simp;(try with_reducible rfl)));(simp only [put_lit,List.set]))
 (refine tk (i:=7) (v:=?_) rfl rfl (Or.inl ⟨by rfl,?_⟩) ?_;rotate_left;(focus (intro w hSw;(try dsimp only at hSw);go_simp;(try with_reducible rfl)));(simp only [put_lit,List.set]))
 (refine tk (i:=8) (v:=?_) rfl rfl (Or.inl ⟨by rfl,?_⟩) ?_;rotate_left;(focus (intro w hSw;(try dsimp only at hSw);go_simp;(try with_reducible rfl)));(simp only [put_lit,List.set]))
 refine wpAnyH_done (by kernel_rfl) ?_ _
 replace Hb:=Lib.hid (Hb.out.trans (G5.out.mono Hb.out.size))
 clear hHeld x0 x1 x2 x3 x4 x5 T HP G4 G5 H4
 go_wp2
 go_ret
 exact ⟨by first | rfl | simp,Hb.out⟩
def PickE (rs:List (Fq×Fq)) (k:Nat) (e:Ending) (w:World):Prop :=
 (rs.length=0∧e=.returned (.tuple #[.agg rz6,.bool false])) ∨
 (0<rs.length∧∃ n A l c B m d n' A' l' c' B' m' d',e=.returned (.tuple #[.agg #[.bool n,.slice A l c,.slice B m d,.bool n',.slice A' l' c',.slice B' m' d'],.bool true])∧IntN w n A l c (rs.getD (k % rs.length) r00).1.z∧NatN w B m d (rs.getD (k % rs.length) r00).1.q∧IntN w n' A' l' c' (rs.getD (k % rs.length) r00).2.z∧NatN w B' m' d' (rs.getD (k % rs.length) r00).2.q)
set_option maxRecDepth 100000 in
set_option maxHeartbeats 4000000 in
theorem pick_any {I:IntPred} (hI:IK I) {w:World} {Af:Option Addr} {lf cf:Nat} {f:List Int} {k:Nat} (hf:PolyP I w Af lf cf f) (hl:f.length≤10) (h9:P9 f) (hk:k≤255) :
 Calls Tryz.prog 8 #[.slice Af lf cf,.int .u8 (k:Int)] w fun e w'=>PickE (proots f) k e w'∧Below w.heap.size w w':=by
 have hlf:lf≤10:=by have:=hf.length;omega
 have o1:=below_new w rtObj
 have K3:Blk (w.alloc rtObj) w.heap.size 34 rz6:=Blk.new _ _ _
 have HP:=Lib.hid (hf.below hI o1)
 have Hb:=Lib.hid o1
 have K4:=Lib.hid K3
 have hn9:=proots_le9 h9.pq
 obtain ⟨RS,hRS⟩:∃ R,R=proots f:=⟨_,rfl⟩
 rw [← hRS] at hn9 ⊢
 have HRS:=Lib.hid hRS
 obtain ⟨g3,hg3⟩:∃ g,g=w.heap.size:=⟨_,rfl⟩
 have HG3:=Lib.hid hg3
 have Hg:=Lib.hid (show w.heap.size≤g3 by omega)
 rw [← hg3] at K4
 have i1:IntKind.i64.wrap (k:Int)=(k:Int):=IntWalk.i64_in _ (by omega)
 clear hf o1 K3 hRS hg3
 go_enter Tryz.func8,Tryz.ntmps8
 go_wp2_with fail
 refine (roots_any hI _ _ _ f _ HP.out h9.cp.fit.smp (fun _=>h9.q) (fun h=>SqF.of9 h9.pq h) (by omega)).mono ?_
 rintro e w1 ⟨⟨A1,l1,c1,rfl,h1⟩,hb1⟩
 rw [← HRS.out] at h1
 have hl1:l1=RS.length:=h1.length.symm
 have HR:=Lib.hid h1
 replace K4:=Lib.hid (K4.out.below hb1 K4.out.lt)
 replace Hb:=Lib.hid (Hb.out.trans (hb1.mono Hb.out.size))
 clear hb1 h1 HP
 by_cases h0:l1=0
 ·subst h0
  have FX:=Lib.hid hl1
  have nd:=rz6_ndb K4.out
  have hf:=pu6_frs w1 g3 (.bool false) (.slice none 0 0) (.slice none 0 0) (.bool false) (.slice none 0 0) (.slice none 0 0)
  have Hb2:=Lib.hid (hf.mono Hb.out Hg.out Hg.out Hb.out.size)
  rw [← HG3.out]
  have r0:=(K4.out.cell 0).trans rfl;have r1:=(K4.out.cell 1).trans rfl;have r2:=(K4.out.cell 2).trans rfl;have r3:=(K4.out.cell 3).trans rfl;have r4:=(K4.out.cell 4).trans rfl;have r5:=(K4.out.cell 5).trans rfl;have s0:=K4.out.frozen 0;have s1:=K4.out.frozen 1;have s2:=K4.out.frozen 2;have s3:=K4.out.frozen 3;have s4:=K4.out.frozen 4;have s5:=K4.out.frozen 5
  clear K4 Hb nd hf HR hl1
  go_wp2
  refine bodyPost_ret (v:=.tuple #[.agg rz6,.bool false]) (by simp [results,Tryz.results8,go_sem,r0,r1,r2,r3,r4,r5]) rfl ⟨.inl ⟨FX.out.symm,rfl⟩,Hb2.out⟩
 ·have g1:((l1:Int) == 0)=false:=by rw [beq_eq_false_iff_ne];omega
  have g2:(l1:Int)≠0:=by omega
  have hlt:k % RS.length<RS.length:=Nat.mod_lt _ (by omega)
  obtain ⟨j,hj⟩:∃ j,j=k % RS.length:=⟨_,rfl⟩
  have hjl:j<RS.length:=by rw [hj];exact hlt
  have em:Int.tmod (k:Int) (l1:Int)=(j:Int):=by rw [hj,hl1];exact Int.ofNat_tmod _ _
  have i2:IntKind.i64.wrap (j:Int)=(j:Int):=IntWalk.i64_in _ (by omega)
  have ja:(j:Int)<(l1:Int):=by omega
  obtain ⟨b,o,rfl,hb0,hv⟩:∃ b o,A1=some ⟨b,o,none⟩∧b<w1.heap.size∧Vals w1 b o RS:=by
   rcases HR.out.elems with ⟨h,_⟩ | h
   ·omega
   ·exact h
  obtain ⟨n,A,l,c,B,m,d,n',A',l',c',B',m',d',e0,e1,e2,e3,e4,e5,z1,z2,z3,z4⟩:=hv.getv hjl
  have hf:=pu6_frs w1 g3 (.bool n) (.slice A l c) (.slice B m d) (.bool n') (.slice A' l' c') (.slice B' m' d')
  have nd:=rz6_ndb K4.out
  have FX:=Lib.hid (show PickE RS k (.returned (.tuple #[.agg #[.bool n,.slice A l c,.slice B m d,.bool n',.slice A' l' c',.slice B' m' d'],.bool true])) (pu6 w1 g3 (.bool n) (.slice A l c) (.slice B m d) (.bool n') (.slice A' l' c') (.slice B' m' d')) from .inr ⟨by omega,_,_,_,_,_,_,_,_,_,_,_,_,_,_,rfl,by rw [← hj];exact z1.frs hf nd nd,by rw [← hj];exact z2.frs hf nd nd,by rw [← hj];exact z3.frs hf nd nd,by rw [← hj];exact z4.frs hf nd nd⟩)
  have Hb2:=Lib.hid (hf.mono Hb.out Hg.out Hg.out Hb.out.size)
  rw [← HG3.out]
  have r0:=(K4.out.cell 0).trans rfl;have r1:=(K4.out.cell 1).trans rfl;have r2:=(K4.out.cell 2).trans rfl;have r3:=(K4.out.cell 3).trans rfl;have r4:=(K4.out.cell 4).trans rfl;have r5:=(K4.out.cell 5).trans rfl;have s0:=K4.out.frozen 0;have s1:=K4.out.frozen 1;have s2:=K4.out.frozen 2;have s3:=K4.out.frozen 3;have s4:=K4.out.frozen 4;have s5:=K4.out.frozen 5
  clear K4 Hb nd hf HR hv z1 z2 z3 z4 hj hlt h0 hl1
  go_wp2_with fail
  refine bodyPost_ret (v:=.tuple #[.agg #[.bool n,.slice A l c,.slice B m d,.bool n',.slice A' l' c',.slice B' m' d'],.bool true]) (by simp [results,Tryz.results8,go_sem,r0,r1,r2,r3,r4,r5]) rfl ⟨FX.out,Hb2.out⟩
end Go.Proofs.YtobcbjcnjpgipaaGreat
namespace Go.Proofs.YtobcbjcnjpgipaaGreat
open Go.RowKit
set_option maxRecDepth 100000 in
set_option maxHeartbeats 8000000 in
theorem radd_any (n:Bool) (A:Option Addr) (l c:Nat) (B:Option Addr) (m d q:Nat) (z:Int) (n':Bool) (A':Option Addr) (l' c':Nat) (B':Option Addr) (m' d' q':Nat) (z':Int) (w:World) (hz:IntN w n A l c z) (hq:NatN w B m d q) (hz':IntN w n' A' l' c' z') (hq':NatN w B' m' d' q') (fz:Fit z) (fq:Fit (q:Int)) (h0:0<q) (fz':Fit z') (fq':Fit (q':Int)) (h0':0<q') :
 Calls Tryz.prog 12 #[.agg #[.bool n,.slice A l c,.slice B m d],.agg #[.bool n',.slice A' l' c',.slice B' m' d']] w fun e w'=>RatE ((z*(q':Int)+z'*(q:Int)).tdiv (Nat.gcd (z*(q':Int)+z'*(q:Int)).natAbs (q*q'))) (q*q' / Nat.gcd (z*(q':Int)+z'*(q:Int)).natAbs (q*q')) e w'∧Below w.heap.size w w':=by
 have sq:=fq.smnat
 have sq':=fq'.smnat
 obtain ⟨S1,hS1⟩:∃ S1,S1=z*(q':Int):=⟨_,rfl⟩
 obtain ⟨S2,hS2⟩:∃ S2,S2=z'*(q:Int):=⟨_,rfl⟩
 obtain ⟨DD,hDD⟩:∃ DD,DD=q*q':=⟨_,rfl⟩
 have ss1:SmI S1:=by rw [hS1];exact fz.sm2 fq'
 have ss2:SmI S2:=by rw [hS2];exact fz'.sm2 fq
 have ssum:Sm (S1.natAbs+S2.natAbs):=by
  have a1:=fz.mul fq'
  have a2:=fz'.mul fq
  rw [← hS1] at a1
  rw [← hS2] at a2
  refine sm_pow (k:=FW+FW+1) ?_ (by rw [FW_eq];decide)
  have a3:2*BB^(FW+FW)<BB^(FW+FW+1):=mulpow_lt (by omega)
  omega
 have sS:SmI (S1+S2):=Sm.mono ssum (by omega)
 have sqq:SmI ((q:Int)*(q':Int)):=fq.sm2 fq'
 have sD:SmI (DD:Int):=by rw [hDD,Int.natCast_mul];exact sqq
 have hD0:0<DD:=by rw [hDD];exact Nat.mul_pos h0 h0'
 rw [← hS1,← hS2,← hDD]
 have HS1:=Lib.hid hS1
 have HS2:=Lib.hid hS2
 have HDD:=Lib.hid hDD
 clear hS1 hS2 hDD
 have o1:=new_below w (rbox n A l c B m d)
 have o2:=new_below (w.alloc (rbox n A l c B m d)) (rbox n' A' l' c' B' m' d')
 have o3:=new_below ((w.alloc (rbox n A l c B m d)).alloc (rbox n' A' l' c' B' m' d')) (rbox false none 0 0 none 0 0)
 have b3:Below w.heap.size w (((w.alloc (rbox n A l c B m d)).alloc (rbox n' A' l' c' B' m' d')).alloc (rbox false none 0 0 none 0 0)):=(o1.alloc (by simp) _).alloc (by simp;omega) _
 have R1:=((RBox.make hz hq).move o2).move o3
 have R2:=(RBox.make (hz'.below o1) (hq'.below o1)).move o3
 have R4:=RBox.nil ((w.alloc (rbox n A l c B m d)).alloc (rbox n' A' l' c' B' m' d'))
 simp only [World.size_alloc] at R2 R4
 replace R1:=Lib.hid R1
 replace R2:=Lib.hid R2
 replace R4:=Lib.hid R4
 have Hb:=Lib.hid b3
 clear o1 o2 o3 b3 hz hq hz' hq'
 go_enter Tryz.func12,Tryz.ntmps12
 go_wp2_with fail
 refine (parts_any _ _ _ _ _ _ _ _ _ R1.out.hq.at_ sq (by omega)).mono ?_
 rintro e w1 ⟨rfl,hb1⟩
 replace R1:=Lib.hid (R1.out.move hb1)
 replace R2:=Lib.hid (R2.out.move hb1)
 replace R4:=Lib.hid (R4.out.move hb1)
 replace Hb:=Lib.hid (Hb.out.trans (hb1.mono Hb.out.size))
 have lt4:w.heap.size+1+1<w1.heap.size:=R4.out.lt
 have x0:=R2.out.c0
 have x1:=R2.out.c1
 have x2:=R2.out.c2
 have ltx:w.heap.size+1<w1.heap.size:=by omega
 have lty:w.heap.size+1<w1.heap.size+1:=by omega
 clear hb1
 go_wp2_with fail
 have k1:=new_below w1 (ibox n A l c)
 have k2:=new_below (w1.alloc (ibox n A l c)) (ibox false B m d)
 have kb:Below w1.heap.size w1 ((w1.alloc (ibox n A l c)).alloc (ibox false B m d)):=k1.alloc (by simp) _
 have i5:=(IBox.make R1.out.hz).move k2
 have hqP:IntN w1 false B m d (q:Int):=⟨by rw [Int.natAbs_natCast];exact R1.out.hq,by simp⟩
 have i6:=IBox.make (hqP.below k1)
 simp only [World.size_alloc] at i6
 replace R2:=Lib.hid (R2.out.move kb)
 replace R4:=Lib.hid (R4.out.move kb)
 replace Hb:=Lib.hid (Hb.out.trans (kb.mono Hb.out.size))
 have I5:=Lib.hid i5
 have I6:=Lib.hid i6
 clear k1 k2 kb i5 i6 hqP R1 x0 x1 x2
 refine (parts_any _ _ _ _ _ _ _ _ _ R2.out.hq.at_ sq' (by omega)).mono ?_
 rintro e w2 ⟨rfl,hb2⟩
 have hsz2:=hb2.size
 simp only [World.size_alloc] at hsz2
 replace I5:=Lib.hid (I5.out.move hb2)
 replace I6:=Lib.hid (I6.out.move hb2)
 replace R2:=Lib.hid (R2.out.move hb2)
 replace R4:=Lib.hid (R4.out.move hb2)
 replace Hb:=Lib.hid (Hb.out.trans (hb2.mono Hb.out.size))
 have k1:=new_below w2 (ibox n' A' l' c')
 have k2:=new_below (w2.alloc (ibox n' A' l' c')) (ibox false B' m' d')
 have kb:Below w2.heap.size w2 ((w2.alloc (ibox n' A' l' c')).alloc (ibox false B' m' d')):=k1.alloc (by simp) _
 have i7:=(IBox.make R2.out.hz).move k2
 have hqP:IntN w2 false B' m' d' (q':Int):=⟨by rw [Int.natAbs_natCast];exact R2.out.hq,by simp⟩
 have i8:=IBox.make (hqP.below k1)
 simp only [World.size_alloc] at i8
 replace I5:=Lib.hid (I5.out.move kb)
 replace I6:=Lib.hid (I6.out.move kb)
 replace R4:=Lib.hid (R4.out.move kb)
 replace Hb:=Lib.hid (Hb.out.trans (kb.mono Hb.out.size))
 have I7:=Lib.hid i7
 have I8:=Lib.hid i8
 clear k1 k2 kb i7 i8 hqP R2 hb2
 obtain ⟨wc,hwc⟩:∃ wc,wc=(w2.alloc (ibox n' A' l' c')).alloc (ibox false B' m' d'):=⟨_,rfl⟩
 have hszc:wc.heap.size=w2.heap.size+1+1:=by rw [hwc];simp
 go_wp2_with fail
 rw [← hwc] at I5 I6 I7 I8 R4 Hb ⊢
 clear hwc
 obtain ⟨g4,hg4⟩:∃ g,g=w.heap.size+1+1:=⟨_,rfl⟩
 obtain ⟨g5,hg5⟩:∃ g,g=w1.heap.size:=⟨_,rfl⟩
 obtain ⟨g6,hg6⟩:∃ g,g=w1.heap.size+1:=⟨_,rfl⟩
 obtain ⟨g7,hg7⟩:∃ g,g=w2.heap.size:=⟨_,rfl⟩
 obtain ⟨g8,hg8⟩:∃ g,g=w2.heap.size+1:=⟨_,rfl⟩
 rw [← hg4] at R4
 rw [← hg5] at I5
 rw [← hg6] at I6
 rw [← hg7] at I7
 rw [← hg8] at I8
 rw [← hg4,← hg6,← hg5,← hg8,← hg7]
 have l4:g4<wc.heap.size:=by omega
 have l4w:w.heap.size<g4:=by omega
 have l5:g5<wc.heap.size:=by omega
 have l6:g6<wc.heap.size:=by omega
 have l7:g7<wc.heap.size:=by omega
 have l8:g8<wc.heap.size:=by omega
 clear hg4 hg5 hg6 hg7 hg8 hszc hsz2 lt4 ltx lty
 have a0:=I5.out.c0
 have a1:=I5.out.c1
 have b0:=I6.out.c0
 have b1:=I6.out.c1
 have d0:=I7.out.c0
 have d1:=I7.out.c1
 have e0:=I8.out.c0
 have e1:=I8.out.c1
 refine wp_region_last (S:=fun w'=>w'.cell? ⟨g5,0,none⟩=some (.bool n)∧w'.cell? ⟨g5,1,none⟩=some (.slice A l c)∧w'.cell? ⟨g6,0,none⟩=some (.bool false)∧w'.cell? ⟨g6,1,none⟩=some (.slice B m d)∧w'.cell? ⟨g7,0,none⟩=some (.bool n')∧w'.cell? ⟨g7,1,none⟩=some (.slice A' l' c')∧w'.cell? ⟨g8,0,none⟩=some (.bool false)∧w'.cell? ⟨g8,1,none⟩=some (.slice B' m' d')) (by kernel_rfl) (by kernel_rfl) (by (try dsimp only);go_keep) (fun hHeld=>?_)
 simp only [List.pop_toArray,List.dropLast]
 (refine tk (i:=0) (v:=?_) rfl rfl (Or.inl ⟨by rfl,?_⟩) ?_;rotate_left;(focus (intro w hSw;(try dsimp only at hSw);go_simp;(try with_reducible rfl)));(simp only [put_lit,List.set]))
 (refine tk (i:=1) (v:=?_) rfl rfl (Or.inl ⟨by rfl,?_⟩) ?_;rotate_left;(focus (intro w hSw;(try dsimp only at hSw);go_simp;(try with_reducible rfl)));(simp only [put_lit,List.set]))
 (refine tk (i:=3) (v:=?_) rfl rfl (Or.inl ⟨by rfl,?_⟩) ?_;rotate_left;(focus (intro w hSw;(try dsimp only at hSw);go_simp;(try with_reducible rfl)));(simp only [put_lit,List.set]))
 (refine tk (i:=4) (v:=?_) rfl rfl (Or.inl ⟨by rfl,?_⟩) ?_;rotate_left;(focus (intro w hSw;(try dsimp only at hSw);go_simp;(try with_reducible rfl)));(simp only [put_lit,List.set]))
 (refine tk (i:=7) (v:=?_) rfl rfl (Or.inl ⟨by rfl,?_⟩) ?_;rotate_left;(focus (intro w hSw;(try dsimp only at hSw);go_simp;(try with_reducible rfl)));(simp only [put_lit,List.set]))
 (refine tk (i:=8) (v:=?_) rfl rfl (Or.inl ⟨by rfl,?_⟩) ?_;rotate_left;(focus (intro w hSw;(try dsimp only at hSw);go_simp;(try with_reducible rfl)));(simp only [put_lit,List.set]))
 refine wpAnyH_ready (rs:=[2]) (by kernel_rfl) (by simp) ?_
 refine AllReadyH.cons rfl (fun K hK=>?_) AllReadyH.nil;go_simp
 refine (imul_any _ _ _ _ _ _ _ _ _ _ _ ?_ ?_ fz.sm fq'.sm (fz.mulok _)).mono ?_
 ·exact I5.out.hz.at_.below Bel.go
 ·exact I8.out.hz.at_.below Bel.go
 rintro e w10 ⟨n10,A10,l10,c10,rfl,h10,hb10⟩
 rw [← HS1.out] at h10
 obtain ⟨hcx,hfx⟩:=bcellS hb10
 replace I6:=Lib.hid (I6.out.move (Below.trans Bel.go (hb10.mono (by simp<;>omega))))
 replace I7:=Lib.hid (I7.out.move (Below.trans Bel.go (hb10.mono (by simp<;>omega))))
 replace I8:=Lib.hid (I8.out.move (Below.trans Bel.go (hb10.mono (by simp<;>omega))))
 replace R4:=Lib.hid (R4.out.move (Below.trans Bel.go (hb10.mono (by simp<;>omega))))
 replace Hb:=Lib.hid (Hb.out.trans ((Below.trans Bel.go (hb10.mono (by simp<;>omega))).mono Hb.out.size))
 have H10:=Lib.hid h10
 refine hK.out _ _ ?_ (fun _=>?_)
 ·((try dsimp only);repeat' apply And.intro)<;>(rw [hcx _ (by go_simp)];go_simp)
 clear hHeld hK K hcx hfx;rename_i hHeld
 clear h10 hb10
 refine wpAnyH_ready (rs:=[5]) (by kernel_rfl) (by simp) ?_
 refine AllReadyH.cons rfl (fun K hK=>?_) AllReadyH.nil;go_simp
 refine (imul_any _ _ _ _ _ _ _ _ _ _ _ ?_ ?_ fz'.sm fq.sm (fz'.mulok _)).mono ?_
 ·exact I7.out.hz.at_.below Bel.go
 ·exact I6.out.hz.at_.below Bel.go
 rintro e w11 ⟨n11,A11,l11,c11,rfl,h11,hb11⟩
 rw [← HS2.out] at h11
 obtain ⟨hcx,hfx⟩:=bcellS hb11
 replace I6:=Lib.hid (I6.out.move (Below.trans Bel.go (hb11.mono (by simp<;>omega))))
 replace I8:=Lib.hid (I8.out.move (Below.trans Bel.go (hb11.mono (by simp<;>omega))))
 replace R4:=Lib.hid (R4.out.move (Below.trans Bel.go (hb11.mono (by simp<;>omega))))
 replace Hb:=Lib.hid (Hb.out.trans ((Below.trans Bel.go (hb11.mono (by simp<;>omega))).mono Hb.out.size))
 replace H10:=Lib.hid (H10.out.below (Below.trans Bel.go (hb11.mono (by simp<;>omega))))
 have H11:=Lib.hid h11
 refine hK.out _ _ ?_ (fun _=>?_)
 ·((try dsimp only);repeat' apply And.intro)<;>(rw [hcx _ (by go_simp)];go_simp)
 clear hHeld hK K hcx hfx;rename_i hHeld
 clear h11 hb11
 refine wpAnyH_ready (rs:=[6]) (by kernel_rfl) (by simp) ?_
 refine AllReadyH.cons rfl (fun K hK=>?_) AllReadyH.nil;go_simp
 refine (iadd_any _ _ _ _ S1 _ _ _ _ S2 _ (H10.out.at_.below Bel.go) (H11.out.at_.below Bel.go) ss1 ss2 ssum).mono ?_
 rintro e w12 ⟨n12,A12,l12,c12,rfl,h12,hb12⟩
 obtain ⟨hcx,hfx⟩:=bcellS hb12
 replace I6:=Lib.hid (I6.out.move (Below.trans Bel.go (hb12.mono (by simp<;>omega))))
 replace I8:=Lib.hid (I8.out.move (Below.trans Bel.go (hb12.mono (by simp<;>omega))))
 replace R4:=Lib.hid (R4.out.move (Below.trans Bel.go (hb12.mono (by simp<;>omega))))
 replace Hb:=Lib.hid (Hb.out.trans ((Below.trans Bel.go (hb12.mono (by simp<;>omega))).mono Hb.out.size))
 have H12:=Lib.hid h12
 refine hK.out _ _ ?_ (fun _=>?_)
 ·((try dsimp only);repeat' apply And.intro)<;>(rw [hcx _ (by go_simp)];go_simp)
 clear hHeld hK K hcx hfx;rename_i hHeld
 clear h12 hb12 H10 H11
 refine wpAnyH_ready (rs:=[9]) (by kernel_rfl) (by simp) ?_
 refine AllReadyH.cons rfl (fun K hK=>?_) AllReadyH.nil;go_simp
 refine (imul_any _ _ _ _ _ _ _ _ _ _ _ ?_ ?_ fq.sm fq'.sm (fq.mulok _)).mono ?_
 ·exact I6.out.hz.at_.below Bel.go
 ·exact I8.out.hz.at_.below Bel.go
 rintro e w13 ⟨n13,A13,l13,c13,rfl,h13,hb13⟩
 have e13:(q:Int)*(q':Int)=(DD:Int):=by rw [HDD.out,Int.natCast_mul]
 rw [e13] at h13
 obtain ⟨hcx,hfx⟩:=bcellS hb13
 replace R4:=Lib.hid (R4.out.move (Below.trans Bel.go (hb13.mono (by simp<;>omega))))
 replace Hb:=Lib.hid (Hb.out.trans ((Below.trans Bel.go (hb13.mono (by simp<;>omega))).mono Hb.out.size))
 replace H12:=Lib.hid (H12.out.below (Below.trans Bel.go (hb13.mono (by simp<;>omega))))
 have H13:=Lib.hid h13
 refine hK.out _ _ ?_ (fun _=>?_)
 ·((try dsimp only);repeat' apply And.intro)<;>(rw [hcx _ (by go_simp)];go_simp)
 clear hHeld hK K hcx hfx;rename_i hHeld
 clear h13 hb13 e13
 refine wpAnyH_ready (rs:=[10]) (by kernel_rfl) (by simp) ?_
 refine AllReadyH.cons rfl (fun K hK=>?_) AllReadyH.nil;go_simp
 refine (reduce_all _ _ _ _ (S1+S2) _ _ _ _ DD _ (H12.out.below Bel.go) (H13.out.below Bel.go) sS sD hD0).mono ?_
 rintro e w14 ⟨⟨n14,A14,l14,c14,B14,m14,d14,rfl,h14,k14⟩,hb14⟩
 obtain ⟨hcx,hfx⟩:=bcellS hb14
 have j4:=R4.out.move (Below.trans Bel.go (hb14.mono (by simp<;>omega)))
 have Jb2:=Lib.hid (Hb.out.trans ((Below.trans Bel.go (hb14.mono (by simp<;>omega))).mono Hb.out.size))
 refine hK.out _ _ ?_ (fun _=>?_)
 ·((try dsimp only);repeat' apply And.intro)<;>(rw [hcx _ (by go_simp)];go_simp)
 clear hHeld hK K hcx hfx;rename_i hHeld
 refine wpAnyH_done (by kernel_rfl) (lastQ_list rfl ?_) _
 have HP:=Lib.hid (j4.put h14 k14)
 have r0:=j4.c0
 have r1:=j4.c1
 have r2:=j4.c2
 have r3:=j4.f0
 have r4:=j4.f1
 have r5:=j4.f2
 clear hHeld j4 h14 k14 hb14 a0 a1 b0 b1 d0 d1 e0 e1
 go_wp2
 refine bodyPost_ret (v:=.agg #[.bool n14,.slice A14 l14 c14,.slice B14 m14 d14]) (by simp [results,Tryz.results12,go_sem,r0,r1,r2]) rfl ⟨⟨_,_,_,_,_,_,_,rfl,HP.out.hz,HP.out.hq⟩,?_⟩
 exact ((Jb2.out.setCell (p:=⟨g4,0,none⟩) (by simp;omega) _).setCell (p:=⟨g4,1,none⟩) (by simp;omega) _).setCell (p:=⟨g4,2,none⟩) (by simp;omega) _
end Go.Proofs.YtobcbjcnjpgipaaGreat
namespace Go.Proofs.YtobcbjcnjpgipaaGreat
open Go Go.RowKit
section
variable {P:Program} {ops:Array Oper} {Q:Exit→Act→World→Prop} {md:Region.Mode} {l n:Nat}
theorem oper_round {o:Oper} {a:Act} {w:World} {K:Act→World→Prop} (hd:∀ c,o.op≠.defer c) (h:Oper.wp P o a w K Q):o.wpIn (Fence.wide.inRound l) n P a w K Q:=by
 refine ⟨fun _ _=>trivial,?_⟩
 rw [Oper.semAt_eq _ _ _ hd]
 unfold Oper.wp at h
 generalize (execOp a.eval o).run P w=r at *
 cases r with
 | ok x w' =>
   cases x with
   | enter f args =>
     refine ⟨(fun h=>by cases h),CallsIn.inRound l ?_⟩
     refine callsIn_wide.2 ?_
     exact h.mono fun e w'' he=>by cases e<;>exact he
   | row row args=>exact ⟨(fun h=>by cases h),fun c cs _=>let ⟨v,w',r,s⟩:=h c cs;⟨v,w',r,stepsIn_wide.2 s⟩⟩
   | round=>exact h.elim
   | _=>exact h
 | halt x w'=>cases x<;>exact h
theorem wpAny_round (hd:∀ (i:Nat) (o:Oper),ops[i]?=some o→∀ c,o.op≠.defer c) (hL:LetsOut Q→False):∀ (fuel:Nat) (listed:Array Bool) (a:Act) (w:World),wpAny P md ops Q fuel listed a w→wpAnyIn (Fence.wide.inRound l) n P md ops Q fuel listed a w
 | 0,_,_,_,h=>h
 | fuel+1,listed,a,w,h=>by
   refine ⟨h.1,fun i hi=>?_⟩
   have hs:=h.2 i hi
   unfold wpOp at hs
   unfold wpOpIn
   cases ho:ops[i]? with
   | none=>rw [ho] at hs;exact wpAny_round hd hL fuel _ _ _ hs
   | some o =>
     rw [ho] at hs
     dsimp only at hs ⊢
     split
     ·rename_i hw
      rw [if_pos hw] at hs
      rcases hs with hs | ⟨_,hs⟩
      ·exact Oper.wpIn_mono (fun a' w' hh=>wpAny_round hd hL fuel _ _ _ hh) (oper_round (hd i o ho) hs)
      ·exact (hL hs).elim
     ·rename_i hw
      rw [if_neg hw] at hs
      exact ⟨fun _ _=>trivial,wpAny_round hd hL fuel _ _ _ hs⟩
theorem wpIn_round_held {S:World→Prop} {id:Nat} {a:Act} {w:World} (hm:P.follows .mixedOrders=true) (hd:∀ (i:Nat) (o:Oper),ops[i]?=some o→∀ c,o.op≠.defer c) (hL:LetsOut Q→False) (hS:S w.drew)
 (h:S w.drew→wpAnyH P .any ops Q S ops.size (Array.replicate ops.size false) a w.drew):(Code.region id ops true).wpIn (Fence.wide.inRound l) n P Q a w :=
 wpIn_region_any hm (wpAny_round hd hL _ _ _ _ (wpAny_of_held _ _ _ _ (h hS)))
def ndB (ops:Array Oper):Bool:=(List.range ops.size).all fun i=>match ops[i]? with | some o=>(match o.op with | .defer _=>false | _=>true) | none=>true
theorem ndB_of (h:ndB ops=true):∀ (i:Nat) (o:Oper),ops[i]?=some o→∀ c,o.op≠.defer c:=by
 intro i o ho c e
 have hi:i<ops.size:=(Array.getElem?_eq_some_iff.1 ho).1
 have:=List.all_eq_true.1 h i (List.mem_range.2 hi)
 rw [ho] at this
 dsimp only at this
 rw [e] at this
 cases this
theorem wpIn_round_heldB {S:World→Prop} {id:Nat} {a:Act} {w:World} (hm:P.follows .mixedOrders=true) (hd:ndB ops=true) (hL:LetsOut Q→False) (hS:S w.drew)
 (h:S w.drew→wpAnyH P .any ops Q S ops.size (Array.replicate ops.size false) a w.drew):(Code.region id ops true).wpIn (Fence.wide.inRound l) n P Q a w :=
 wpIn_round_held hm (ndB_of hd) hL hS h
theorem wpList_round (hL:LetsOut Q→False):∀ (L:List Oper) (_:∀ o∈L,∀ c,o.op≠.defer c) (a:Act) (w:World),wpList P ops Q L a w→wpListIn (Fence.wide.inRound l) n P ops Q L a w
 | [],_,_,_,h=>h
 | o :: L,hd,a,w,h=>by
   unfold wpList at h
   unfold wpListIn
   by_cases hw:Region.wanted o (yielded ops a.tmps)=true
   ·rw [if_pos hw] at h ⊢
    rcases h with h | ⟨_,h⟩
    ·exact Oper.wpIn_mono (fun a' w' hh=>wpList_round hL L (fun o ho=>hd o (List.mem_cons_of_mem _ ho)) a' w' hh) (oper_round (hd o (List.mem_cons_self ..)) h)
    ·exact (hL h).elim
   ·rw [if_neg hw] at h ⊢
    exact ⟨fun _ _=>trivial,wpList_round hL L (fun o ho=>hd o (List.mem_cons_of_mem _ ho)) _ _ h⟩
theorem wpIn_round_lit {id:Nat} {L:List Oper} {a:Act} {w:World} (hd:ndB L.toArray=true) (hL:LetsOut Q→False) (h:wpList P L.toArray Q L a w):(Code.region id L.toArray false).wpIn (Fence.wide.inRound l) n P Q a w :=
 wpIn_region_lit (wpList_round hL L (fun o ho=>by
  obtain ⟨i,hi,e⟩:=List.getElem_of_mem ho
  exact ndB_of hd i o (by rw [← e];simp [hi])) a w h)
end
end Go.Proofs.YtobcbjcnjpgipaaGreat
namespace Go.Proofs.YtobcbjcnjpgipaaGreat
open Go Go.RowKit
theorem steps2_feeds (X:Nat→Prop) (gR gP:Nat) (F:List Int) (x:Pt) (r:Fq×Fq) (w:World) {n:Bool} {A:Option Addr} {l0 c:Nat} {B:Option Addr} {m d:Nat} {n':Bool} {A':Option Addr} {l' c':Nat} {B':Option Addr} {m' d':Nat} {Ap:Option Addr} {lp cp:Nat}
 (h9:P9 F) (h0:plen F≠0) (hs:HSt F x (NN+1) r) (hR:RBk w gR n A l0 c B m d n' A' l' c' B' m' d' r) (hP:PolyX X w Ap lp cp (qpart F)) (hc:w.cell? ⟨gP,0,none⟩=some (.slice Ap lp cp)) (hlp:lp≤1000000) (hX:XN X w) (hgP:¬ X gP) :
 FeedsX Tryz.prog 31 #[.pointer (some ⟨gR,0,none⟩),.pointer (some ⟨gP,0,none⟩)] RV.val RV.ok (NxS (qpart F) r) NRt (KpX X) 12 (EnS (qpart F) r) w:=by
 intro l J Jx W hb hJ hJx hN hY hj
 exact steps2_any l X gR gP F x r W J Jx h9 h0 hs (hR.move hb) (hP.below hb) ((KpX.below hb).cell hgP hc) hlp (fun y hy=>h9.part.at (by rw [← h9.part_t,ptrim_length];have:=h9.part_l;have:=h9.len;omega) hy.z hy.q) ((KpX.below hb).nd hX) hgP hJ hJx hN hY hj
set_option maxRecDepth 100000 in
set_option maxHeartbeats 8000000 in
theorem steps_walk (A:Option Addr) (la ca:Nat) (cs:List Int) (k:Nat) (w:World) (h:I16At w A la ca cs) (hlm:la≤9223372036854775807) (hk:k≤255) :
 CallsIn Fence.wide 9 Tryz.prog 3 #[.slice A la ca,.int .u8 (k:Int)] w fun e w'=>e=.returned (.bool true)∧Below w.heap.size w w':=by
 have F9:P9 (ptrim (cs.take 7)):=short_p9 h (by omega)
 obtain ⟨_,lF,tF,_⟩:=short_bd h 7
 obtain ⟨F,hF⟩:∃ F,F=ptrim (cs.take 7):=⟨_,rfl⟩
 rw [← hF] at F9 lF tF
 have HFe:=Lib.hid hF.symm
 obtain ⟨W0,hW0⟩:∃ W0,W0=w.alloc (.cells #[.bool false] 4):=⟨_,rfl⟩
 have hb0:Below w.heap.size w W0:=by rw [hW0];exact below_new _ _
 have B0:Blk W0 w.heap.size 4 #[.bool false]:=by rw [hW0];exact Blk.new _ _ _
 have Hi:=Lib.hid (h.below hb0)
 have HB4:=Lib.hid B0
 have Hb:=Lib.hid hb0
 clear h hF hb0 B0
 refine callsIn_of_wp_marks Tryz.func3 rfl trivial ?_ rfl
 simp only [Tryz.ntmps3,List.size_toArray,List.length_cons,List.length_nil,Nat.reduceAdd,Nat.reduceSub,Array.replicate_succ,Array.replicate_zero,List.push_toArray,List.append_toArray,List.nil_append,List.cons_append]
 obtain ⟨b4,hb4⟩:∃ b,b=w.heap.size:=⟨_,rfl⟩
 gi_wp2_with fail
 rw [← hW0]
 have HE4:=Lib.hid hb4
 rw [← hb4] at HB4 ⊢
 clear hW0 hb4
 refine ⟨trivial,(callsIn_wide.2 (awake18_any _)).mono ?_⟩
 rintro e w1 ⟨rfl,hb1⟩
 replace Hi:=Lib.hid (Hi.out.below hb1)
 replace Hb:=Lib.hid (Hb.out.trans (hb1.mono Hb.out.size))
 replace HB4:=Lib.hid (HB4.out.below hb1 HB4.out.lt)
 clear hb1
 gi_wp2_with fail
 refine ⟨trivial,(callsIn_wide.2 (short_any _ _ _ 7 _ _ Hi.out (by omega) hlm)).mono ?_⟩
 rintro e w2 ⟨Af,lf,cf,rfl,h2f,hb2⟩
 rw [HFe.out] at h2f
 have hlf7:lf≤7:=by have:=h2f.length;omega
 obtain ⟨W2,hW2⟩:∃ W2,W2=w2.alloc (.cells #[.slice Af lf cf] 25):=⟨_,rfl⟩
 obtain ⟨b5,hb5⟩:∃ b,b=w2.heap.size:=⟨_,rfl⟩
 have hn2:Below w2.heap.size w2 W2:=by rw [hW2];exact below_new _ _
 have hb02:=hb2.trans (hn2.mono hb2.size)
 have HP:=Lib.hid (h2f.below ikN hn2)
 have HB5:=Lib.hid (show Blk W2 b5 25 #[.slice Af lf cf] by rw [hW2,hb5];exact Blk.new _ _ _)
 have h45:b4<b5:=by have:=(HB4.out.below hb2 HB4.out.lt).lt;omega
 replace Hb:=Lib.hid (Hb.out.trans (hb02.mono Hb.out.size))
 replace HB4:=Lib.hid (HB4.out.below hb02 HB4.out.lt)
 have x5:=(HB5.out.cell 0).trans rfl
 clear hb2 h2f Hi hn2 hb02
 gi_wp2_with fail
 rw [← hW2,← hb5]
 clear hW2 hb5
 refine ⟨trivial,(callsIn_wide.2 (pick_any ikN HP.out (by omega) F9 hk)).mono ?_⟩
 rintro e w3 ⟨hpk,hb3⟩
 replace HP:=Lib.hid (HP.out.below ikN hb3)
 replace Hb:=Lib.hid (Hb.out.trans (hb3.mono Hb.out.size))
 replace HB4:=Lib.hid (HB4.out.below hb3 HB4.out.lt)
 replace HB5:=Lib.hid (HB5.out.below hb3 HB5.out.lt)
 clear hb3 x5
 have hs3:=HB5.out.lt
 rcases hpk with ⟨_,rfl⟩ | ⟨hpos,n,A1,l1,c1,B,m,d,n',A2,l2,c2,B',m',d',rfl,z1,z2,z3,z4⟩
 ·have jb:=below_new w3 (.cells rz6 34)
  replace Hb:=Lib.hid (Hb.out.trans (jb.mono Hb.out.size))
  replace HB4:=Lib.hid (HB4.out.below jb HB4.out.lt)
  have x4:=(HB4.out.cell 0).trans rfl
  have y4:=HB4.out.frozen 0
  have HB:=Lib.hid (Hb.out.setCell (p:=⟨b4,0,none⟩) (Nat.le_of_eq HE4.out.symm) (.bool true))
  clear jb
  gi_wp2
  exact ⟨.bool true,by simp [results,Tryz.results3,go_sem,x4],rfl,HB.out⟩
 have hj:k % (proots F).length<(proots F).length:=Nat.mod_lt _ hpos
 have hF0:plen F≠0:=fun e=>by rw [proots_nil e] at hpos;cases hpos
 obtain ⟨x,hx⟩:=proots_hst F9 hF0 hj
 obtain ⟨r0,hr0⟩:∃ r,r=(proots F).getD (k % (proots F).length) r00:=⟨_,rfl⟩
 rw [← hr0] at z1 z2 z3 z4 hx
 have hq2:2≤(qpart F).length:=by
  have hq:=q_facts F9.q hF0
  have hz:=(hq.root x).2 hx.iso.1
  have h1:plen (qpart F)≠1:=fun e=>by
   rw [sgp_one e] at hz
   have hl:=plead_ne hq.q0
   rcases sg_cases (plead (qpart F)) with ⟨c,d⟩ | ⟨c,d⟩ | ⟨c,d⟩
   ·rw [d] at hz;cases hz
   ·exact hl c
   ·rw [d] at hz;cases hz
  have:=plen_le (qpart F)
  have:=hq.q0
  omega
 obtain ⟨W3,hW3⟩:∃ W,W=w3.alloc (tbox n A1 l1 c1 B m d n' A2 l2 c2 B' m' d'):=⟨_,rfl⟩
 obtain ⟨b6,hb6⟩:∃ b,b=w3.heap.size:=⟨_,rfl⟩
 have hn3:Below w3.heap.size w3 W3:=by rw [hW3];exact below_new _ _
 have x5:w3.cell? ⟨b5,0,none⟩=some (.slice Af lf cf):=HB5.out.cell 0
 have K6:=Lib.hid (show RBk W3 b6 n A1 l1 c1 B m d n' A2 l2 c2 B' m' d' r0 by rw [hW3,hb6];exact RBk.make (s:=r0) z1 z2 z3 z4)
 have h56:b5<b6:=by omega
 replace HP:=Lib.hid (HP.out.below ikN hn3)
 replace Hb:=Lib.hid (Hb.out.trans (hn3.mono Hb.out.size))
 replace HB4:=Lib.hid (HB4.out.below hn3 HB4.out.lt)
 replace HB5:=Lib.hid (HB5.out.below hn3 HB5.out.lt)
 have HX:=Lib.hid hx
 clear z1 z2 z3 z4 hr0 hj hpos hx hn3
 obtain ⟨W8,hW8⟩:∃ W,W=W3.alloc (.cells #[.int .i64 0] 3):=⟨_,rfl⟩
 obtain ⟨b8,hb8⟩:∃ b,b=W3.heap.size:=⟨_,rfl⟩
 have hn8:Below W3.heap.size W3 W8:=by rw [hW8];exact below_new _ _
 have HB8:=Lib.hid (show Blk W8 b8 3 #[.int .i64 0] by rw [hW8,hb8];exact Blk.new _ _ _)
 have h68:b6<b8:=by have:=K6.out.k.lt;omega
 replace K6:=Lib.hid (K6.out.move hn8)
 obtain ⟨W9,hW9⟩:∃ W,W=W8.alloc (tbox n A1 l1 c1 B m d n' A2 l2 c2 B' m' d'):=⟨_,rfl⟩
 obtain ⟨b9,hb9⟩:∃ b,b=W8.heap.size:=⟨_,rfl⟩
 have hn9:Below W8.heap.size W8 W9:=by rw [hW9];exact below_new _ _
 have K9:=Lib.hid (show RBk W9 b9 n A1 l1 c1 B m d n' A2 l2 c2 B' m' d' r0 by rw [hW9,hb9];exact RBk.make (s:=r0) K6.out.hz K6.out.hq K6.out.hz' K6.out.hq')
 have h89:b8<b9:=by have:=HB8.out.lt;omega
 replace K6:=Lib.hid (K6.out.move hn9)
 replace HB8:=Lib.hid (HB8.out.below hn9 HB8.out.lt)
 have hn:=hn8.trans (hn9.mono hn8.size)
 replace HP:=Lib.hid (HP.out.below ikN hn)
 replace Hb:=Lib.hid (Hb.out.trans (hn.mono Hb.out.size))
 replace HB4:=Lib.hid (HB4.out.below hn HB4.out.lt)
 replace HB5:=Lib.hid (HB5.out.below hn HB5.out.lt)
 have e8:w3.heap.size+1=b8:=by rw [hb8,hW3];simp
 have e9:w3.heap.size+1+1=b9:=by rw [hb9,hW8,hW3];simp
 have l9:=K9.out.k.lt
 clear hn hn8 hn9
 have BO:=Lib.hid (And.intro h45 (And.intro h56 (And.intro h68 h89)))
 have EE:=Lib.hid (And.intro hW3 (And.intro hW8 (And.intro hW9 (And.intro e9 (And.intro e8 hb6)))))
 clear hW3 hW8 hW9 hb6 hb8 hb9 e8 e9
 have k1:b5<w3.heap.size+1:=by omega
 have k2:b5<w3.heap.size+1+1:=by omega
 clear h56 h68 h89 h45 l9
 gi_wp2_with fail
 rw [← EE.out.1,← EE.out.2.1,← EE.out.2.2.1,EE.out.2.2.2.1,EE.out.2.2.2.2.1,← EE.out.2.2.2.2.2]
 clear EE x5 hs3 k1 k2
 obtain ⟨fa,fb⟩:=HX.out.fqb F9 hF0 (by omega)
 have hv:=HX.out.vld F9 hF0
 refine ⟨trivial,(callsIn_wide.2 (steps_any ikN HP.out (by omega) F9 K6.out.hz K6.out.hq K6.out.hz' K6.out.hq' fa fb hv hq2)).mono ?_⟩
 rintro e w10 ⟨⟨gP,gR,Ap,lp,cp,n3,A3,l3,c3,B3,m3,d3,n4,A4,l4,c4,B4,m4,d4,rfl,hc,hP,hlp,hR,hgP,hgR⟩,hb10⟩
 obtain ⟨q1,q2,q3,q4⟩:=BO.out
 have l9:=K9.out.k.lt
 have hs10:=hb10.size
 replace K9:=Lib.hid (K9.out.move hb10)
 replace K6:=Lib.hid (K6.out.move hb10)
 replace HP:=Lib.hid (HP.out.below ikN hb10)
 replace Hb:=Lib.hid (Hb.out.trans (hb10.mono Hb.out.size))
 replace HB4:=Lib.hid (HB4.out.below hb10 HB4.out.lt)
 replace HB5:=Lib.hid (HB5.out.below hb10 HB5.out.lt)
 replace HB8:=Lib.hid (HB8.out.below hb10 HB8.out.lt)
 have hXN:=xn_three HB4.out HB8.out K9.out
 have hPX:=polyx_three HB4.out HB8.out K9.out hP hq2
 have hngP:¬ XS3 b4 b8 b9 gP:=by rintro (h | h | h)<;>omega
 have hsr:=HX.out.nf.1
 have FE:=Lib.hid (steps2_feeds (XS3 b4 b8 b9) gR gP F x (nfr r0) w10 F9 hF0 hsr hR hPX hc (by omega) hXN hngP)
 have hgl:=hR.k.lt
 clear hb10 hP hXN hPX hc hR hngP fa fb hv q1 q2 q3 q4 hgP hgR hs10 l9
 gi_wp2_with fail
 obtain ⟨q1,q2,q3,q4⟩:=BO.out
 have lb9:=K9.out.k.lt
 have hwN:=Hb.out.size
 have hst0:StJ w w10.heap.size b4 b5 b6 b8 b9 Af lf cf F r0 [] w10:=⟨by decide,HB4.out,HB5.out,(PolyX.mk (X:=fun _=>False) HP.out (by
  rcases HP.out.elems with h | ⟨b,o,hA,_,_⟩
  ·exact .inl h
  ·exact .inr ⟨b,o,hA,id⟩)).y,⟨_,_,_,_,_,_,_,_,_,_,_,_,_,_,K6.out⟩,HB8.out,⟨_,_,_,_,_,_,_,_,_,_,_,_,_,_,K9.out⟩,Hb.out⟩
 refine wpIn_fedX rfl (enters_of Tryz.func31 (by kernel_rfl) rfl) FE.out rfl
  (fun _ _ _ h k=>h.trans k) (fun _ _ _ _ h hc=>KpX.putObj _ h hc) (fun _ _ _ h=>h.bel) (fun W o=>KpX.below ((Below.refl _ _).alloc (Nat.le_refl _) o))
  (fun y=>tbox y.n y.A y.l y.c y.B y.m y.d y.n' y.A' y.l' y.c' y.B' y.m' y.d') (fun y W o h=>RV.ok_below h ((Below.refl _ _).alloc (Nat.le_refl _) o))
  (fun y W l o o' h hl hc=>RV.ok_putObj h hl hc)
  (StJ w w10.heap.size b4 b5 b6 b8 b9 Af lf cf F r0) (IxS w w10.heap.size b4)
  (fun s W h=>h.len)
  (fun s W l o o' h hl hc hle=>h.putObj hl hc (by omega))
  (fun c s W l o o' h hl hc hle=>⟨h.1,h.2.1.kpx (KpX.putObj (fun _=>False) hl hc) id,below_putObj h.2.2.1 (by omega),by simpa using h.2.2.2⟩)
  (fun s W o h=>h.below ((Below.refl _ _).alloc (Nat.le_refl _) o))
  (fun s A B hb h=>h.nrt hb (by omega) (by omega) (by omega) (by omega) (by omega) (by omega) (by omega))
  (fun c s A B hb h=>⟨h.1,h.2.1.below hb.bel (by omega),h.2.2.1.trans (hb.bel.mono (by omega)),Nat.le_trans h.2.2.2 hb.bel.size⟩)
  hst0 (fun y g=>{ tmps:=#[.slice A la ca,.int .u8 (k:Int),undef,undef,.pointer (some ⟨b4,0,none⟩),.pointer (some ⟨b5,0,none⟩),.pointer (some ⟨b6,0,none⟩),.bool true,.pointer (some ⟨b8,0,none⟩),.pointer (some ⟨b9,0,none⟩),.pointer (some ⟨g,0,none⟩),.bool true,.bool false,.slice A la ca,.slice Af lf cf,.tuple #[.agg #[.bool n,.slice A1 l1 c1,.slice B m d,.bool n',.slice A2 l2 c2,.slice B' m' d'],.bool true],.slice Af lf cf,.int .u8 (k:Int),.tuple #[.agg #[.bool n,.slice A1 l1 c1,.slice B m d,.bool n',.slice A2 l2 c2,.slice B' m' d'],.bool true],.agg #[.bool n,.slice A1 l1 c1,.slice B m d,.bool n',.slice A2 l2 c2,.slice B' m' d'],.bool true,.bool true,.bool false,.agg #[.bool n,.slice A1 l1 c1,.slice B m d,.bool n',.slice A2 l2 c2,.slice B' m' d'],.slice Af lf cf,.agg #[.bool n,.slice A1 l1 c1,.slice B m d,.bool n',.slice A2 l2 c2,.slice B' m' d'],.func (.func 31) #[] #[.pointer (some ⟨gR,0,none⟩),.pointer (some ⟨gP,0,none⟩)],y.val,undef,undef,undef,undef,undef,undef,undef,undef,undef,undef,undef,undef,undef,undef,undef,undef,undef,undef,undef,undef,undef,undef,undef,undef,undef,undef,undef,undef,undef,undef,undef,undef,undef,undef,undef,undef,undef,undef,undef,undef,undef,undef,undef,undef,undef,undef,undef,undef,undef,undef,undef,undef,undef,undef,undef,undef,undef],defers:=[] }) ?assign1 ?body1 ?done1 ?stop1
 case assign1 =>
  intro l m y W K hK
  dsimp only [RV.val]
  gi_wp2_with (rw [Oper.semAt_eq _ _ _ (fun c h=>by cases h)];go_simp;try go_bits)
  exact hK
 case body1 =>
  rintro l m pre y g W hI ⟨hys,hne⟩ hok hg hWg
  have KG:=Lib.hid (show RBk W g y.n y.A y.l y.c y.B y.m y.d y.n' y.A' y.l' y.c' y.B' y.m' y.d' y.s from ⟨hWg,hok.1,hok.2.1,hok.2.2.1,hok.2.2.2⟩)
  obtain ⟨n5,A5,l5,c5,B5,m5,d5,n6,A6,l6,c6,B6,m6,d6,k6⟩:=hI.h6
  obtain ⟨n7,A7,l7,c7,B7,m7,d7,n8,A8,l8,c8,B8,m8,d8,k9⟩:=hI.h9
  have KS:=Lib.hid k6
  have KL:=Lib.hid k9
  have HI:=Lib.hid hI
  have HYS:=Lib.hid hys
  have HNE:=Lib.hid hne
  obtain ⟨c,hc⟩:∃ c,c=pre.length:=⟨_,rfl⟩
  have HC:=Lib.hid hc
  have x8:W.cell? ⟨b8,0,none⟩=some (.int .i64 (c:Int)):=by rw [hc];exact hI.h8.cell 0
  have hcl:c<12:=by rw [hc];exact hI.len
  have hgN:w10.heap.size+2≤W.heap.size:=by have:=KG.out.k.lt;omega
  have hw4:w.heap.size≤b4:=Nat.le_of_eq HE4.out.symm
  have hF2:2≤F.length:=by
   have e:=congrArg List.length F9.part_t
   rw [ptrim_length] at e
   have:=F9.part_l
   have:=plen_le F
   omega
  clear hI hys hne hok hWg k6 k9 hc hst0
  by_cases hc0:c=0
  ·have bc:((c:Int) == 0)=true:=by rw [hc0];rfl
   have z0:=KG.out.tb.r.c0;have z1:=KG.out.tb.r.c1;have z2:=KG.out.tb.r.c2;have z3:=KG.out.tb.c3;have z4:=KG.out.tb.c4;have z5:=KG.out.tb.c5
   have y0:=KS.out.tb.r.c0;have y1:=KS.out.tb.r.c1;have y2:=KS.out.tb.r.c2;have y3:=KS.out.tb.c3;have y4:=KS.out.tb.c4;have y5:=KS.out.tb.c5
   obtain ⟨hs1,u1,u2⟩:=HX.out.nf
   obtain ⟨hs2,u3,u4⟩:=hs1.nf
   have ey:y.s=nfr (nfr r0):=by have h:=HYS.out;rw [← HC.out,hc0] at h;exact h
   have ey0:y.s=nfr (stp (qpart F) (nfr r0) 0):=ey
   rw [← ey] at hs2 u3 u4
   obtain ⟨fy1,fy2⟩:=hs2.fqb F9 hF0 (by omega)
   obtain ⟨fr1,fr2⟩:=HX.out.fqb F9 hF0 (by omega)
   have cm1:fcmp y.s.1 r0.1=0:=(fcmp_zero fy1.p fr1.p).2 (u3.trans u1)
   have cm2:fcmp y.s.2 r0.2=0:=(fcmp_zero fy2.p fr2.p).2 (u4.trans u2)
   have CM1:=Lib.hid cm1
   have CM2:=Lib.hid cm2
   have p1:=fy1.p
   have p2:=fy2.p
   have p3:=fr1.p
   have p4:=fr2.p
   have HS2:=Lib.hid hs2
   have UU:=Lib.hid (And.intro (u3.trans u1) (u4.trans u2))
   have HLA:=Lib.hid (show y.s=lastI (qpart F) r0 (pre ++ [y]) by unfold lastI;rw [if_neg (by simp),List.length_append,← HC.out,hc0];exact ey0)
   clear hs1 hs2 u1 u2 u3 u4 ey ey0 cm1 cm2
   gi_wp2_with (rw [Oper.semAt_eq _ _ _ (fun c h=>by cases h)];go_simp;try go_bits)
   refine ⟨trivial,(fun h=>by cases h),(CallsIn.inRound l (callsIn_wide.2 (rcmp_any _ _ _ _ _ _ _ _ _ _ _ _ _ _ _ _ _ _ _ KG.out.hz.at_ KG.out.hq.at_ KS.out.hz.at_ KS.out.hq.at_ (by omega) (by omega) fy1.fz fy1.fq fr1.fz fr1.fq))).mono ?_⟩
   rintro e w11 ⟨rfl,hb11⟩
   rw [show cmpz (y.s.1.z*(r0.1.q:Int)) (r0.1.z*(y.s.1.q:Int))=0 from CM1.out]
   replace KG:=Lib.hid (KG.out.move hb11)
   replace KS:=Lib.hid (KS.out.move hb11)
   replace KL:=Lib.hid (KL.out.move hb11)
   have HJ:=Lib.hid (HI.out.below hb11)
   have HB:=Lib.hid hb11
   have x8:=((hb11.block b8 (HI.out.h8.lt)))
   clear x8 hb11 z0 z1 z2 z3 z4 z5 y0 y1 y2 y3 y4 y5
   have z0:=KG.out.tb.r.c0;have z1:=KG.out.tb.r.c1;have z2:=KG.out.tb.r.c2;have z3:=KG.out.tb.c3;have z4:=KG.out.tb.c4;have z5:=KG.out.tb.c5
   have y0:=KS.out.tb.r.c0;have y1:=KS.out.tb.r.c1;have y2:=KS.out.tb.r.c2;have y3:=KS.out.tb.c3;have y4:=KS.out.tb.c4;have y5:=KS.out.tb.c5
   gi_wp2_with (rw [Oper.semAt_eq _ _ _ (fun c h=>by cases h)];go_simp;try go_bits)
   refine ⟨trivial,(fun h=>by cases h),(CallsIn.inRound l (callsIn_wide.2 (rcmp_any _ _ _ _ _ _ _ _ _ _ _ _ _ _ _ _ _ _ _ KG.out.hz'.at_ KG.out.hq'.at_ KS.out.hz'.at_ KS.out.hq'.at_ (by omega) (by omega) fy2.fz fy2.fq fr2.fz fr2.fq))).mono ?_⟩
   rintro e w12 ⟨rfl,hb12⟩
   rw [show cmpz (y.s.2.z*(r0.2.q:Int)) (r0.2.z*(y.s.2.q:Int))=0 from CM2.out]
   replace KG:=Lib.hid (KG.out.move hb12)
   replace KS:=Lib.hid (KS.out.move hb12)
   replace KL:=Lib.hid (KL.out.move hb12)
   replace HJ:=Lib.hid (HJ.out.below hb12)
   replace HB:=Lib.hid (HB.out.trans (hb12.mono HB.out.size))
   have x8:w12.cell? ⟨b8,0,none⟩=some (.int .i64 (c:Int)):=by rw [HC.out];exact HJ.out.h8.cell 0
   have x5:w12.cell? ⟨b5,0,none⟩=some (.slice Af lf cf):=HJ.out.h5.cell 0
   clear hb12 z0 z1 z2 z3 z4 z5 y0 y1 y2 y3 y4 y5
   gi_wp2_with (rw [Oper.semAt_eq _ _ _ (fun c h=>by cases h)];go_simp;try go_bits)
   obtain ⟨wk,hwk⟩:∃ wk,wk=w12:=⟨_,rfl⟩
   rw [← hwk] at x8 x5 KG KS KL HJ HB ⊢
   have hlI:lastI (qpart F) r0 pre=r0:=by unfold lastI;rw [if_pos (by rw [← HC.out];exact hc0)]
   rw [hlI] at KL
   have hbs:=HB.out.size
   clear hwk hlI
   have z0:=KG.out.tb.r.c0;have z1:=KG.out.tb.r.c1;have z2:=KG.out.tb.r.c2;have z3:=KG.out.tb.c3;have z4:=KG.out.tb.c4;have z5:=KG.out.tb.c5
   have y0:=KL.out.tb.r.c0;have y1:=KL.out.tb.r.c1;have y2:=KL.out.tb.r.c2;have y3:=KL.out.tb.c3;have y4:=KL.out.tb.c4;have y5:=KL.out.tb.c5
   have lg:=KG.out.k.lt
   have lk9:=KL.out.k.lt
   have lk8:=HJ.out.h8.lt
   have lk5:=HJ.out.h5.lt
   have HPk:=Lib.hid HJ.out.hp.n
   have HWT:=Lib.hid (HX.out.within F9 hF0 HS2.out (by rw [UU.out.1];exact Rat.le_refl) (by rw [UU.out.2];exact Rat.le_refl))
   have cc:decide ((0:Int)<(c:Int))=false:=decide_eq_false (by omega)
   refine wpIn_round_heldB (S:=fun w'=>(w'.cell? ⟨b5,0,none⟩=some (.slice Af lf cf)∧w'.cell? ⟨b8,0,none⟩=some (.int .i64 (c:Int)))∧(w'.cell? ⟨g,0,none⟩=some (.bool y.n)∧w'.cell? ⟨g,1,none⟩=some (.slice y.A y.l y.c)∧w'.cell? ⟨g,2,none⟩=some (.slice y.B y.m y.d)∧w'.cell? ⟨g,3,none⟩=some (.bool y.n')∧w'.cell? ⟨g,4,none⟩=some (.slice y.A' y.l' y.c')∧w'.cell? ⟨g,5,none⟩=some (.slice y.B' y.m' y.d'))∧w'.cell? ⟨b9,0,none⟩=some (.bool n7)∧w'.cell? ⟨b9,1,none⟩=some (.slice A7 l7 c7)∧w'.cell? ⟨b9,2,none⟩=some (.slice B7 m7 d7)∧w'.cell? ⟨b9,3,none⟩=some (.bool n8)∧w'.cell? ⟨b9,4,none⟩=some (.slice A8 l8 c8)∧w'.cell? ⟨b9,5,none⟩=some (.slice B8 m8 d8)) (by kernel_rfl) (by kernel_rfl) (fun ⟨_,_,h0⟩=>h0) (by (try dsimp only);go_keep) (fun hHeld=>?_)
   (refine tk (i:=0) (v:=?_) rfl rfl (Or.inl ⟨by rfl,?_⟩) ?_;rotate_left;(focus (intro w hSw;(try dsimp only at hSw);go_simp;(try with_reducible rfl)));(simp only [put_lit,List.set]))
   (refine tk (i:=1) (v:=?_) rfl rfl (Or.inl ⟨by rfl,?_⟩) ?_;rotate_left;(focus (intro w hSw;(try dsimp only at hSw);go_simp;(try with_reducible rfl)));(simp only [put_lit,List.set]))
   (refine tk (i:=2) (v:=?_) rfl rfl (Or.inl ⟨by rfl,?_⟩) ?_;rotate_left;(focus (intro w hSw;(try dsimp only at hSw);go_simp;(try with_reducible rfl)));(simp only [put_lit,List.set]))
   (refine wpAnyH_ready (rs:=[3]) (by kernel_rfl) (by simp) ?_;refine AllReadyH.cons rfl (fun K hK=>?_) AllReadyH.nil;go_simp)
   refine (within_any ikN (r:=y.s) (s:=r0) (HPk.out.below ikN Bel.go) (by omega) F9 (KG.out.hz.below Bel.go) (KG.out.hq.below Bel.go) (KG.out.hz'.below Bel.go) (KG.out.hq'.below Bel.go) (KL.out.hz.below Bel.go) (KL.out.hq.below Bel.go) (KL.out.hz'.below Bel.go) (KL.out.hq'.below Bel.go) fy1 fy2 fr1 fr2 HWT.out).mono ?_
   rintro e w13 ⟨rfl,hb13⟩
   have G13:=Lib.hid ((Below.trans Bel.go (hb13.mono (by simp<;>omega))):Below wk.heap.size wk w13)
   obtain ⟨hcx,hfx⟩:=bcellS hb13;refine hK.out _ _ ?_ (fun _=>?_);(focus (((try dsimp only);repeat' apply And.intro)<;>(rw [hcx _ (by go_simp)];go_simp)));clear hHeld hK K hcx hfx;rename_i hHeld;clear hb13
   (refine tk (i:=4) (v:=?_) rfl rfl (Or.inl ⟨by rfl,?_⟩) ?_;rotate_left;(focus (intro w hSw;(try dsimp only at hSw);go_simp;(try with_reducible rfl)));(simp only [put_lit,List.set]))
   (refine tk (i:=5) (v:=?_) rfl rfl (Or.inl ⟨by rfl,?_⟩) ?_;rotate_left;(focus (intro w hSw;(try dsimp only at hSw);go_simp;(try with_reducible rfl)));(simp only [put_lit,List.set]))
   (refine tk (i:=6) (v:=?_) rfl rfl (Or.inl ⟨by rfl,?_⟩) ?_;rotate_left;(focus (intro w hSw;(try dsimp only at hSw);go_simp;(try with_reducible rfl)));(simp only [put_lit,List.set]))
   (refine tk (i:=7) (v:=?_) rfl rfl (Or.inl ⟨by rfl,?_⟩) ?_;rotate_left;(focus (intro w hSw;(try dsimp only at hSw);go_simp;(try with_reducible rfl)));(simp only [put_lit,List.set]))
   (refine tk (i:=8) (v:=?_) rfl rfl (Or.inl ⟨by rfl,?_⟩) ?_;rotate_left;(focus (intro w hSw;(try dsimp only at hSw);go_simp;(try with_reducible rfl)));(simp only [put_lit,List.set]))
   (refine take_at (i:=9) (oi:=_) (v:=undef) rfl rfl (by kernel_rfl) (by kernel_rfl) (by kernel_rfl) (fun _ _ _ h=>h) (Or.inr ⟨by rfl,rfl⟩) (by assumption) ?_;(simp only [put_lit,List.set]))
   (refine take_at (i:=10) (oi:=_) (v:=undef) rfl rfl (by kernel_rfl) (by kernel_rfl) (by kernel_rfl) (fun _ _ _ h=>h) (Or.inr ⟨by rfl,rfl⟩) (by assumption) ?_;(simp only [put_lit,List.set]))
   (refine take_at (i:=11) (oi:=_) (v:=undef) rfl rfl (by kernel_rfl) (by kernel_rfl) (by kernel_rfl) (fun _ _ _ h=>h) (Or.inr ⟨by rfl,rfl⟩) (by assumption) ?_;(simp only [put_lit,List.set]))
   (refine take_at (i:=12) (oi:=_) (v:=undef) rfl rfl (by kernel_rfl) (by kernel_rfl) (by kernel_rfl) (fun _ _ _ h=>h) (Or.inr ⟨by rfl,rfl⟩) (by assumption) ?_;(simp only [put_lit,List.set]))
   (refine take_at (i:=13) (oi:=_) (v:=undef) rfl rfl (by kernel_rfl) (by kernel_rfl) (by kernel_rfl) (fun _ _ _ h=>h) (Or.inr ⟨by rfl,rfl⟩) (by assumption) ?_;(simp only [put_lit,List.set]))
   (refine take_at (i:=14) (oi:=_) (v:=undef) rfl rfl (by kernel_rfl) (by kernel_rfl) (by kernel_rfl) (fun _ _ _ h=>h) (Or.inr ⟨by rfl,rfl⟩) (by assumption) ?_;(simp only [put_lit,List.set]))
   (refine take_at (i:=15) (oi:=_) (v:=undef) rfl rfl (by kernel_rfl) (by kernel_rfl) (by kernel_rfl) (fun _ _ _ h=>h) (Or.inr ⟨by rfl,rfl⟩) (by assumption) ?_;(simp only [put_lit,List.set]))
   (refine take_at (i:=16) (oi:=_) (v:=undef) rfl rfl (by kernel_rfl) (by kernel_rfl) (by kernel_rfl) (fun _ _ _ h=>h) (Or.inr ⟨by rfl,rfl⟩) (by assumption) ?_;(simp only [put_lit,List.set]))
   (refine take_at (i:=17) (oi:=_) (v:=undef) rfl rfl (by kernel_rfl) (by kernel_rfl) (by kernel_rfl) (fun _ _ _ h=>h) (Or.inr ⟨by rfl,rfl⟩) (by assumption) ?_;(simp only [put_lit,List.set]))
   (refine take_at (i:=18) (oi:=_) (v:=undef) rfl rfl (by kernel_rfl) (by kernel_rfl) (by kernel_rfl) (fun _ _ _ h=>h) (Or.inr ⟨by rfl,rfl⟩) (by assumption) ?_;(simp only [put_lit,List.set]))
   (refine take_at (i:=19) (oi:=_) (v:=undef) rfl rfl (by kernel_rfl) (by kernel_rfl) (by kernel_rfl) (fun _ _ _ h=>h) (Or.inr ⟨by rfl,rfl⟩) (by assumption) ?_;(simp only [put_lit,List.set]))
   (refine take_at (i:=20) (oi:=_) (v:=undef) rfl rfl (by kernel_rfl) (by kernel_rfl) (by kernel_rfl) (fun _ _ _ h=>h) (Or.inr ⟨by rfl,rfl⟩) (by assumption) ?_;(simp only [put_lit,List.set]))
   (refine take_at (i:=21) (oi:=_) (v:=undef) rfl rfl (by kernel_rfl) (by kernel_rfl) (by kernel_rfl) (fun _ _ _ h=>h) (Or.inr ⟨by rfl,rfl⟩) (by assumption) ?_;(simp only [put_lit,List.set]))
   (refine take_at (i:=22) (oi:=_) (v:=undef) rfl rfl (by kernel_rfl) (by kernel_rfl) (by kernel_rfl) (fun _ _ _ h=>h) (Or.inr ⟨by rfl,rfl⟩) (by assumption) ?_;(simp only [put_lit,List.set]))
   (refine take_at (i:=23) (oi:=_) (v:=undef) rfl rfl (by kernel_rfl) (by kernel_rfl) (by kernel_rfl) (fun _ _ _ h=>h) (Or.inr ⟨by rfl,rfl⟩) (by assumption) ?_;(simp only [put_lit,List.set]))
   (refine tk (i:=24) (v:=?_) rfl rfl (Or.inl ⟨by rfl,?_⟩) ?_;rotate_left;(focus (intro w hSw;(try dsimp only at hSw);go_simp;(try with_reducible rfl)));(simp only [put_lit,List.set]))
   (refine tk (i:=25) (v:=?_) rfl rfl (Or.inl ⟨by rfl,?_⟩) ?_;rotate_left;(focus (intro w hSw;(try dsimp only at hSw);go_simp;(try with_reducible rfl)));(simp only [put_lit,List.set]))
   refine wpAnyH_done (by kernel_rfl) ?_ _
   replace KG:=Lib.hid (KG.out.move G13.out);replace KL:=Lib.hid (KL.out.move G13.out);replace HJ:=Lib.hid (HJ.out.below G13.out);replace HB:=Lib.hid (HB.out.trans (G13.out.mono HB.out.size));clear hHeld z0 z1 z2 z3 z4 z5 y0 y1 y2 y3 y4 y5 lg lk9 lk8 lk5 HPk
   clear x8 x5 hc0 bc cc;obtain ⟨W',hW',e1,e2,KX,nx,B4',BW,xn,B8',K9'⟩:=stj_next HJ.out HB.out KL.out ⟨KG.out.hz,KG.out.hq,KG.out.hz',KG.out.hq'⟩ q1 q2 q3 q4 lb9 hgN hw4 hF2 HLA.out;unfold pu6 at hW';rw [← HC.out] at hW' nx B8';have z0:=KG.out.tb.r.c0;have z1:=KG.out.tb.r.c1;have z2:=KG.out.tb.r.c2;have z3:=KG.out.tb.c3;have z4:=KG.out.tb.c4;have z5:=KG.out.tb.c5;have s0:=KL.out.k.frozen 0;have s1:=KL.out.k.frozen 1;have s2:=KL.out.k.frozen 2;have s3:=KL.out.k.frozen 3;have s4:=KL.out.k.frozen 4;have s5:=KL.out.k.frozen 5;have y0:=KL.out.tb.r.c0;have y1:=KL.out.tb.r.c1;have y2:=KL.out.tb.r.c2;have y3:=KL.out.tb.c3;have y4:=KL.out.tb.c4;have y5:=KL.out.tb.c5;have x8:=(HJ.out.h8.cell 0).trans rfl;rw [← HC.out] at x8;have s8:=HJ.out.h8.frozen 0;have i1:IntKind.i64.wrap ((c:Int)+1)=(c:Int)+1:=IntWalk.i64_in _ (by omega);have n1:b9≠b8:=(by omega);have n2:b8≠b9:=(by omega);gi_step;gi_step;refine wpIn_cond_false rfl ?_;gi_step;gi_step;gi_step;gi_step;(refine wpIn_round_lit (by kernel_rfl) (fun ⟨_,_,h0⟩=>h0) ?_;go_wp2_with fail);gi_step;(refine wpIn_round_lit (by kernel_rfl) (fun ⟨_,_,h0⟩=>h0) ?_;go_wp2_with fail);rw [← hW'];clear hW' z0 z1 z2 z3 z4 z5 s0 s1 s2 s3 s4 s5 y0 y1 y2 y3 y4 y5 x8 s8;have x8:=(B8'.cell 0).trans rfl;have x4:=(B4'.cell 0).trans rfl;have s4:=B4'.frozen 0;have HQ:=Lib.hid (stj_ret (pre:=pre ++ [y]) KX B4' B8' K9' xn BW e1 e2 (by omega) (by omega) (by omega) hgN hw4);have HE:=Lib.hid (And.intro e1 (And.intro e2 (And.intro KX nx)));clear e1 e2 KX nx K9' xn BW B8' B4';by_cases hc12:c+1=12;(focus (have i2:((c:Int)+1 == 12)=true:=beq_iff_eq.2 (by omega));(clear hc12);gi_step;(refine wpIn_round_lit (by kernel_rfl) (fun ⟨_,_,h0⟩=>h0) ?_;go_wp2_with fail);(refine wpIn_cond_true rfl ?_);gi_step;(refine wpIn_round_lit (by kernel_rfl) (fun ⟨_,_,h0⟩=>h0) ?_;go_wp2_with fail);(refine wpIn_ret ?_);exact HQ.out);(have i2:((c:Int)+1 == 12)=false:=beq_eq_false_iff_ne.2 (by omega));(have hc13:c+1<12:=Nat.lt_of_le_of_ne hcl hc12);(clear hc12);gi_step;(refine wpIn_round_lit (by kernel_rfl) (fun ⟨_,_,h0⟩=>h0) ?_;go_wp2_with fail);(refine wpIn_cond_false rfl ?_);gi_step;exact ⟨HE.out.1,HE.out.2.1,HE.out.2.2.1,HE.out.2.2.2 hc13⟩
  ·have bc:((c:Int) == 0)=false:=beq_eq_false_iff_ne.2 (by omega)
   obtain ⟨k,hk⟩:∃ k,k=c-1:=⟨_,rfl⟩
   have hck:c=k+1:=by omega
   have ey:y.s=nfr (hlf (qpart F) (stp (qpart F) (nfr r0) k)):=by have h:=HYS.out;rw [← HC.out,hck] at h;exact h
   have hlI:lastI (qpart F) r0 pre=nfr (stp (qpart F) (nfr r0) k):=by unfold lastI;rw [if_neg (by rw [← HC.out];exact hc0),← HC.out,hk]
   rw [hlI] at KL
   obtain ⟨t,ht⟩:∃ t,t=stp (qpart F) (nfr r0) k:=⟨_,rfl⟩
   have hst:=HX.out.nf.1.stp F9 hF0 k
   have hxt:=HNE.out k (by rw [← HC.out];omega)
   rw [← ht] at ey hst hxt KL
   obtain ⟨hh,hf2⟩:=hst.half F9 hF0
   obtain ⟨hn1,u1,u2⟩:=hst.nf
   obtain ⟨hn2,u3,u4⟩:=hh.nf
   rw [← ey] at hn2 u3 u4
   obtain ⟨fy1,fy2⟩:=hn2.fqb F9 hF0 (by omega)
   obtain ⟨ft1,ft2⟩:=hn1.fqb F9 hF0 (by omega)
   have wt:=wid_sz ft1 ft2
   have wy:=wid_sz fy1 fy2
   have wyy:=wy.add wy
   have hcmp:fcmp ((wid y.s).add (wid y.s)) (wid (nfr t))≤0:=cmp_le wyy.p wt.p (by
    rw [Fq.add_v wy.p wy.p,wid_v fy1.p fy2.p,wid_v ft1.p ft2.p,u1,u2,u3,u4]
    have:=hf2.w
    grind)
   obtain ⟨C,hC⟩:∃ C,C=fcmp ((wid y.s).add (wid y.s)) (wid (nfr t)):=⟨_,rfl⟩
   rw [← hC] at hcmp
   have b2:decide (0<C)=false:=decide_eq_false (by omega)
   have HCC:=Lib.hid hC
   have hwne:(wid (nfr t)).z≠0:=fun h=>by rw [(wid_zero F9 hF0 hst (by omega)).1 h] at hxt;cases hxt
   have b3:(sg (wid (nfr t)).z == 0)=false:=beq_eq_false_iff_ne.2 (sg_ne hwne)
   have HWT:=Lib.hid (hn1.within F9 hF0 hn2 (by rw [u1,u3];exact hf2.lo) (by rw [u2,u4];exact hf2.hi))
   have hlast:y.s=lastI (qpart F) r0 (pre ++ [y]):=by
    unfold lastI
    rw [if_neg (by simp),List.length_append,← HC.out,hck,show k+1+[y].length-1=k+1 from by simp,ey,ht]
    rfl
   have HLA:=Lib.hid hlast
   have ccz:(0:Int)<(c:Int):=by omega
   have ccn:0<c:=by omega
   have ccd:decide ((0:Int)<(c:Int))=true:=decide_eq_true ccz
   clear hk hck ey hlI ht hst hxt hh hf2 hn1 hn2 u1 u2 u3 u4 hC hcmp hwne hlast
   have HJ:=HI
   have HB:=Lib.hid (Below.refl W.heap.size W)
   have HPk:=Lib.hid HI.out.hp.n
   have x5:W.cell? ⟨b5,0,none⟩=some (.slice Af lf cf):=HI.out.h5.cell 0
   gi_step
   gi_step
   gi_step
   (refine wpIn_round_lit (by kernel_rfl) (fun ⟨_,_,h0⟩=>h0) ?_;go_wp2_with fail)
   refine wpIn_cond_false rfl ?_
   gi_step
   gi_step
   gi_step
   gi_step
   gi_step
   have z0:=KG.out.tb.r.c0;have z1:=KG.out.tb.r.c1;have z2:=KG.out.tb.r.c2;have z3:=KG.out.tb.c3;have z4:=KG.out.tb.c4;have z5:=KG.out.tb.c5
   have y0:=KL.out.tb.r.c0;have y1:=KL.out.tb.r.c1;have y2:=KL.out.tb.r.c2;have y3:=KL.out.tb.c3;have y4:=KL.out.tb.c4;have y5:=KL.out.tb.c5
   have lg:=KG.out.k.lt
   have lk9:=KL.out.k.lt
   have lk8:=HI.out.h8.lt
   have lk5:=HI.out.h5.lt
   refine wpIn_round_heldB (S:=fun w'=>(w'.cell? ⟨b5,0,none⟩=some (.slice Af lf cf)∧w'.cell? ⟨b8,0,none⟩=some (.int .i64 (c:Int)))∧(w'.cell? ⟨g,0,none⟩=some (.bool y.n)∧w'.cell? ⟨g,1,none⟩=some (.slice y.A y.l y.c)∧w'.cell? ⟨g,2,none⟩=some (.slice y.B y.m y.d)∧w'.cell? ⟨g,3,none⟩=some (.bool y.n')∧w'.cell? ⟨g,4,none⟩=some (.slice y.A' y.l' y.c')∧w'.cell? ⟨g,5,none⟩=some (.slice y.B' y.m' y.d'))∧w'.cell? ⟨b9,0,none⟩=some (.bool n7)∧w'.cell? ⟨b9,1,none⟩=some (.slice A7 l7 c7)∧w'.cell? ⟨b9,2,none⟩=some (.slice B7 m7 d7)∧w'.cell? ⟨b9,3,none⟩=some (.bool n8)∧w'.cell? ⟨b9,4,none⟩=some (.slice A8 l8 c8)∧w'.cell? ⟨b9,5,none⟩=some (.slice B8 m8 d8)) (by kernel_rfl) (by kernel_rfl) (fun ⟨_,_,h0⟩=>h0) (by (try dsimp only);go_keep) (fun hHeld=>?_)
   have G0:=Lib.hid (Below.refl W.heap.size W)
   (refine tk (i:=0) (v:=?_) rfl rfl (Or.inl ⟨by rfl,?_⟩) ?_;rotate_left;(focus (intro w hSw;(try dsimp only at hSw);go_simp;(try with_reducible rfl)));(simp only [put_lit,List.set]))
   (refine tk (i:=1) (v:=?_) rfl rfl (Or.inl ⟨by rfl,?_⟩) ?_;rotate_left;(focus (intro w hSw;(try dsimp only at hSw);go_simp;(try with_reducible rfl)));(simp only [put_lit,List.set]))
   (refine tk (i:=2) (v:=?_) rfl rfl (Or.inl ⟨by rfl,?_⟩) ?_;rotate_left;(focus (intro w hSw;(try dsimp only at hSw);go_simp;(try with_reducible rfl)));(simp only [put_lit,List.set]))
   (refine wpAnyH_ready (rs:=[3]) (by kernel_rfl) (by simp) ?_;refine AllReadyH.cons rfl (fun K hK=>?_) AllReadyH.nil;go_simp)
   refine (within_any ikN (r:=y.s) (s:=nfr t) (HPk.out.below ikN Bel.go) (by omega) F9 (KG.out.hz.below Bel.go) (KG.out.hq.below Bel.go) (KG.out.hz'.below Bel.go) (KG.out.hq'.below Bel.go) (KL.out.hz.below Bel.go) (KL.out.hq.below Bel.go) (KL.out.hz'.below Bel.go) (KL.out.hq'.below Bel.go) fy1 fy2 ft1 ft2 HWT.out).mono ?_
   rintro e w7 ⟨rfl,hb7⟩
   have G7:=Lib.hid (G0.out.trans (((Below.trans Bel.go (hb7.mono (by simp<;>omega))):Below W.heap.size W w7).mono G0.out.size))
   obtain ⟨hcx,hfx⟩:=bcellS hb7;refine hK.out _ _ ?_ (fun _=>?_);(focus (((try dsimp only);repeat' apply And.intro)<;>(rw [hcx _ (by go_simp)];go_simp)));clear hHeld hK K hcx hfx;rename_i hHeld;clear hb7
   (refine tk (i:=4) (v:=?_) rfl rfl (Or.inl ⟨by rfl,?_⟩) ?_;rotate_left;(focus (intro w hSw;(try dsimp only at hSw);go_simp;(try with_reducible rfl)));(simp only [put_lit,List.set]))
   (refine tk (i:=5) (v:=?_) rfl rfl (Or.inl ⟨by rfl,?_⟩) ?_;rotate_left;(focus (intro w hSw;(try dsimp only at hSw);go_simp;(try with_reducible rfl)));(simp only [put_lit,List.set]))
   (refine tk (i:=6) (v:=?_) rfl rfl (Or.inl ⟨by rfl,?_⟩) ?_;rotate_left;(focus (intro w hSw;(try dsimp only at hSw);go_simp;(try with_reducible rfl)));(simp only [put_lit,List.set]))
   (refine tk (i:=7) (v:=?_) rfl rfl (Or.inl ⟨by rfl,?_⟩) ?_;rotate_left;(focus (intro w hSw;(try dsimp only at hSw);go_simp;(try with_reducible rfl)));(simp only [put_lit,List.set]))
   (refine tk (i:=8) (v:=?_) rfl rfl (Or.inl ⟨by rfl,?_⟩) ?_;rotate_left;(focus (intro w hSw;(try dsimp only at hSw);go_simp;(try with_reducible rfl)));(simp only [put_lit,List.set]))
   (refine tk (i:=9) (v:=?_) rfl rfl (Or.inl ⟨by rfl,?_⟩) ?_;rotate_left;(focus (intro w hSw;(try dsimp only at hSw);go_simp;(try with_reducible rfl)));(simp only [put_lit,List.set]))
   (refine tk (i:=11) (v:=?_) rfl rfl (Or.inl ⟨by rfl,?_⟩) ?_;rotate_left;(focus (intro w hSw;(try dsimp only at hSw);go_simp;(try with_reducible rfl)));(simp only [put_lit,List.set]))
   (refine tk (i:=14) (v:=?_) rfl rfl (Or.inl ⟨by rfl,?_⟩) ?_;rotate_left;(focus (intro w hSw;(try dsimp only at hSw);go_simp;(try with_reducible rfl)));(simp only [put_lit,List.set]))
   (refine wpAnyH_ready (rs:=[10]) (by kernel_rfl) (by simp) ?_;refine AllReadyH.cons rfl (fun K hK=>?_) AllReadyH.nil;go_simp)
   refine (width_any (r:=y.s) ((KG.out.hz.below G7.out).below Bel.go) ((KG.out.hq.below G7.out).below Bel.go) ((KG.out.hz'.below G7.out).below Bel.go) ((KG.out.hq'.below G7.out).below Bel.go) fy1 fy2).mono ?_
   rintro e w8 ⟨⟨n18,A18,l18,c18,B18,m18,d18,rfl,h8,k8⟩,hb8⟩
   have G8:=Lib.hid (G7.out.trans (((Below.trans Bel.go (hb8.mono (by simp<;>omega))):Below w7.heap.size w7 w8).mono G7.out.size))
   have H8:=Lib.hid (show IntN w8 n18 A18 l18 c18 (wid y.s).z∧NatN w8 B18 m18 d18 (wid y.s).q from ⟨h8,k8⟩)
   clear h8 k8
   obtain ⟨hcx,hfx⟩:=bcellS hb8;refine hK.out _ _ ?_ (fun _=>?_);(focus (((try dsimp only);repeat' apply And.intro)<;>(rw [hcx _ (by go_simp)];go_simp)));clear hHeld hK K hcx hfx;rename_i hHeld;clear hb8
   (refine wpAnyH_ready (rs:=[12]) (by kernel_rfl) (by simp) ?_;refine AllReadyH.cons rfl (fun K hK=>?_) AllReadyH.nil;go_simp)
   refine (width_any (r:=y.s) ((KG.out.hz.below G8.out).below Bel.go) ((KG.out.hq.below G8.out).below Bel.go) ((KG.out.hz'.below G8.out).below Bel.go) ((KG.out.hq'.below G8.out).below Bel.go) fy1 fy2).mono ?_
   rintro e w9 ⟨⟨n19,A19,l19,c19,B19,m19,d19,rfl,h9,k9⟩,hb9⟩
   have G9:=Lib.hid (G8.out.trans (((Below.trans Bel.go (hb9.mono (by simp<;>omega))):Below w8.heap.size w8 w9).mono G8.out.size))
   have Hb89:=((Below.trans Bel.go (hb9.mono (by simp<;>omega))):Below w8.heap.size w8 w9)
   replace H8:=Lib.hid (And.intro (H8.out.1.below Hb89) (H8.out.2.below Hb89))
   have H9:=Lib.hid (show IntN w9 n19 A19 l19 c19 (wid y.s).z∧NatN w9 B19 m19 d19 (wid y.s).q from ⟨h9,k9⟩)
   clear h9 k9 Hb89
   obtain ⟨hcx,hfx⟩:=bcellS hb9;refine hK.out _ _ ?_ (fun _=>?_);(focus (((try dsimp only);repeat' apply And.intro)<;>(rw [hcx _ (by go_simp)];go_simp)));clear hHeld hK K hcx hfx;rename_i hHeld;clear hb9
   (refine wpAnyH_ready (rs:=[13]) (by kernel_rfl) (by simp) ?_;refine AllReadyH.cons rfl (fun K hK=>?_) AllReadyH.nil;go_simp)
   refine (radd_any _ _ _ _ _ _ _ _ _ _ _ _ _ _ _ _ _ _ _ (H8.out.1.below Bel.go) (H8.out.2.below Bel.go) (H9.out.1.below Bel.go) (H9.out.2.below Bel.go) (wy.fz wk_lt) (wy.fq wk_lt) wy.p (wy.fz wk_lt) (wy.fq wk_lt) wy.p).mono ?_
   rintro e w10' ⟨⟨n20,A20,l20,c20,B20,m20,d20,rfl,h10,k10⟩,hb10⟩
   have G10:=Lib.hid (G9.out.trans (((Below.trans Bel.go (hb10.mono (by simp<;>omega))):Below w9.heap.size w9 w10').mono G9.out.size))
   have H10:=Lib.hid (show IntN w10' n20 A20 l20 c20 ((wid y.s).add (wid y.s)).z∧NatN w10' B20 m20 d20 ((wid y.s).add (wid y.s)).q from ⟨h10,k10⟩)
   clear h10 k10 H8 H9
   obtain ⟨hcx,hfx⟩:=bcellS hb10;refine hK.out _ _ ?_ (fun _=>?_);(focus (((try dsimp only);repeat' apply And.intro)<;>(rw [hcx _ (by go_simp)];go_simp)));clear hHeld hK K hcx hfx;rename_i hHeld;clear hb10
   (refine wpAnyH_ready (rs:=[15]) (by kernel_rfl) (by simp) ?_;refine AllReadyH.cons rfl (fun K hK=>?_) AllReadyH.nil;go_simp)
   refine (width_any (r:=nfr t) ((KL.out.hz.below G10.out).below Bel.go) ((KL.out.hq.below G10.out).below Bel.go) ((KL.out.hz'.below G10.out).below Bel.go) ((KL.out.hq'.below G10.out).below Bel.go) ft1 ft2).mono ?_
   rintro e w11 ⟨⟨n21,A21,l21,c21,B21,m21,d21,rfl,h11,k11⟩,hb11⟩
   have G11:=Lib.hid (G10.out.trans (((Below.trans Bel.go (hb11.mono (by simp<;>omega))):Below w10'.heap.size w10' w11).mono G10.out.size))
   have Hb11:=((Below.trans Bel.go (hb11.mono (by simp<;>omega))):Below w10'.heap.size w10' w11)
   replace H10:=Lib.hid (And.intro (H10.out.1.below Hb11) (H10.out.2.below Hb11))
   have H11:=Lib.hid (show IntN w11 n21 A21 l21 c21 (wid (nfr t)).z∧NatN w11 B21 m21 d21 (wid (nfr t)).q from ⟨h11,k11⟩)
   clear h11 k11 Hb11
   obtain ⟨hcx,hfx⟩:=bcellS hb11;refine hK.out _ _ ?_ (fun _=>?_);(focus (((try dsimp only);repeat' apply And.intro)<;>(rw [hcx _ (by go_simp)];go_simp)));clear hHeld hK K hcx hfx;rename_i hHeld;clear hb11
   (refine wpAnyH_ready (rs:=[16]) (by kernel_rfl) (by simp) ?_;refine AllReadyH.cons rfl (fun K hK=>?_) AllReadyH.nil;go_simp)
   have p1:=wyy.p
   have p2:=wt.p
   refine (rcmp_any _ _ _ _ _ _ _ _ _ _ _ _ _ _ _ _ _ _ _ (H10.out.1.at_.below Bel.go) (H10.out.2.at_.below Bel.go) (H11.out.1.at_.below Bel.go) (H11.out.2.at_.below Bel.go) (by omega) (by omega) (wyy.fz wk2_lt) (wyy.fq wk2_lt) (wt.fz wk_lt) (wt.fq wk_lt)).mono ?_
   rintro e w12 ⟨rfl,hb12⟩
   rw [show cmpz (((wid y.s).add (wid y.s)).z*((wid (nfr t)).q:Int)) ((wid (nfr t)).z*(((wid y.s).add (wid y.s)).q:Int))=C from HCC.out.symm]
   have G12:=Lib.hid (G11.out.trans (((Below.trans Bel.go (hb12.mono (by simp<;>omega))):Below w11.heap.size w11 w12).mono G11.out.size))
   clear p1 H10 H11
   obtain ⟨hcx,hfx⟩:=bcellS hb12;refine hK.out _ _ ?_ (fun _=>?_);(focus (((try dsimp only);repeat' apply And.intro)<;>(rw [hcx _ (by go_simp)];go_simp)));clear hHeld hK K hcx hfx;rename_i hHeld;clear hb12
   (refine tk (i:=17) (v:=?_) rfl rfl (Or.inl ⟨by rfl,?_⟩) ?_;rotate_left;(focus (intro w hSw;(try dsimp only at hSw);go_simp;(try with_reducible rfl)));(simp only [put_lit,List.set]))
   (refine tk (i:=18) (v:=?_) rfl rfl (Or.inl ⟨by rfl,?_⟩) ?_;rotate_left;(focus (intro w hSw;(try dsimp only at hSw);go_simp;(try with_reducible rfl)));(simp only [put_lit,List.set]))
   (refine tk (i:=19) (v:=?_) rfl rfl (Or.inl ⟨by rfl,?_⟩) ?_;rotate_left;(focus (intro w hSw;(try dsimp only at hSw);go_simp;(try with_reducible rfl)));(simp only [put_lit,List.set]))
   (refine wpAnyH_ready (rs:=[20]) (by kernel_rfl) (by simp) ?_;refine AllReadyH.cons rfl (fun K hK=>?_) AllReadyH.nil;go_simp)
   refine (width_any (r:=nfr t) ((KL.out.hz.below G12.out).below Bel.go) ((KL.out.hq.below G12.out).below Bel.go) ((KL.out.hz'.below G12.out).below Bel.go) ((KL.out.hq'.below G12.out).below Bel.go) ft1 ft2).mono ?_
   rintro e w13 ⟨⟨n22,A22,l22,c22,B22,m22,d22,rfl,h11,k11⟩,hb13⟩
   have G13:=Lib.hid (G12.out.trans (((Below.trans Bel.go (hb13.mono (by simp<;>omega))):Below w12.heap.size w12 w13).mono G12.out.size))
   have H11:=Lib.hid (show IntN w13 n22 A22 l22 c22 (wid (nfr t)).z∧NatN w13 B22 m22 d22 (wid (nfr t)).q from ⟨h11,k11⟩)
   clear h11 k11
   obtain ⟨hcx,hfx⟩:=bcellS hb13;refine hK.out _ _ ?_ (fun _=>?_);(focus (((try dsimp only);repeat' apply And.intro)<;>(rw [hcx _ (by go_simp)];go_simp)));clear hHeld hK K hcx hfx;rename_i hHeld;clear hb13
   (refine wpAnyH_ready (rs:=[21]) (by kernel_rfl) (by simp) ?_;refine AllReadyH.cons rfl (fun K hK=>?_) AllReadyH.nil;go_simp)
   refine (rsign_any _ _ _ _ _ _ _ _ _ _ (H11.out.1.at_.below Bel.go) (H11.out.2.at_.below Bel.go) (wt.fq wk_lt).smn (wt.fz wk_lt).sm (by omega)).mono ?_
   rintro e w14 ⟨rfl,hb14⟩
   have G14:=Lib.hid (G13.out.trans (((Below.trans Bel.go (hb14.mono (by simp<;>omega))):Below w13.heap.size w13 w14).mono G13.out.size))
   clear H11 p2
   obtain ⟨hcx,hfx⟩:=bcellS hb14;refine hK.out _ _ ?_ (fun _=>?_);(focus (((try dsimp only);repeat' apply And.intro)<;>(rw [hcx _ (by go_simp)];go_simp)));clear hHeld hK K hcx hfx;rename_i hHeld;clear hb14
   (refine tk (i:=22) (v:=?_) rfl rfl (Or.inl ⟨by rfl,?_⟩) ?_;rotate_left;(focus (intro w hSw;(try dsimp only at hSw);go_simp;(try with_reducible rfl)));(simp only [put_lit,List.set]))
   (refine tk (i:=23) (v:=?_) rfl rfl (Or.inl ⟨by rfl,?_⟩) ?_;rotate_left;(focus (intro w hSw;(try dsimp only at hSw);go_simp;(try with_reducible rfl)));(simp only [put_lit,List.set]))
   (refine tk (i:=24) (v:=?_) rfl rfl (Or.inl ⟨by rfl,?_⟩) ?_;rotate_left;(focus (intro w hSw;(try dsimp only at hSw);go_simp;(try with_reducible rfl)));(simp only [put_lit,List.set]))
   (refine tk (i:=25) (v:=?_) rfl rfl (Or.inl ⟨by rfl,?_⟩) ?_;rotate_left;(focus (intro w hSw;(try dsimp only at hSw);go_simp;(try with_reducible rfl)));(simp only [put_lit,List.set]))
   refine wpAnyH_done (by kernel_rfl) ?_ _
   replace KG:=Lib.hid (KG.out.move G14.out);replace KL:=Lib.hid (KL.out.move G14.out);replace HJ:=Lib.hid (HJ.out.below G14.out);replace HB:=Lib.hid (HB.out.trans (G14.out.mono HB.out.size));clear hHeld z0 z1 z2 z3 z4 z5 y0 y1 y2 y3 y4 y5 lg lk9 lk8 lk5 HPk
   clear x8 x5 hc0 bc ccz ccn ccd;obtain ⟨W',hW',e1,e2,KX,nx,B4',BW,xn,B8',K9'⟩:=stj_next HJ.out HB.out KL.out ⟨KG.out.hz,KG.out.hq,KG.out.hz',KG.out.hq'⟩ q1 q2 q3 q4 lb9 hgN hw4 hF2 HLA.out;unfold pu6 at hW';rw [← HC.out] at hW' nx B8';have z0:=KG.out.tb.r.c0;have z1:=KG.out.tb.r.c1;have z2:=KG.out.tb.r.c2;have z3:=KG.out.tb.c3;have z4:=KG.out.tb.c4;have z5:=KG.out.tb.c5;have s0:=KL.out.k.frozen 0;have s1:=KL.out.k.frozen 1;have s2:=KL.out.k.frozen 2;have s3:=KL.out.k.frozen 3;have s4:=KL.out.k.frozen 4;have s5:=KL.out.k.frozen 5;have y0:=KL.out.tb.r.c0;have y1:=KL.out.tb.r.c1;have y2:=KL.out.tb.r.c2;have y3:=KL.out.tb.c3;have y4:=KL.out.tb.c4;have y5:=KL.out.tb.c5;have x8:=(HJ.out.h8.cell 0).trans rfl;rw [← HC.out] at x8;have s8:=HJ.out.h8.frozen 0;have i1:IntKind.i64.wrap ((c:Int)+1)=(c:Int)+1:=IntWalk.i64_in _ (by omega);have n1:b9≠b8:=(by omega);have n2:b8≠b9:=(by omega);gi_step;gi_step;refine wpIn_cond_false rfl ?_;gi_step;gi_step;gi_step;gi_step;(refine wpIn_round_lit (by kernel_rfl) (fun ⟨_,_,h0⟩=>h0) ?_;go_wp2_with fail);gi_step;(refine wpIn_round_lit (by kernel_rfl) (fun ⟨_,_,h0⟩=>h0) ?_;go_wp2_with fail);rw [← hW'];clear hW' z0 z1 z2 z3 z4 z5 s0 s1 s2 s3 s4 s5 y0 y1 y2 y3 y4 y5 x8 s8;have x8:=(B8'.cell 0).trans rfl;have x4:=(B4'.cell 0).trans rfl;have s4:=B4'.frozen 0;have HQ:=Lib.hid (stj_ret (pre:=pre ++ [y]) KX B4' B8' K9' xn BW e1 e2 (by omega) (by omega) (by omega) hgN hw4);have HE:=Lib.hid (And.intro e1 (And.intro e2 (And.intro KX nx)));clear e1 e2 KX nx K9' xn BW B8' B4';by_cases hc12:c+1=12;(focus (have i2:((c:Int)+1 == 12)=true:=beq_iff_eq.2 (by omega));(clear hc12);gi_step;(refine wpIn_round_lit (by kernel_rfl) (fun ⟨_,_,h0⟩=>h0) ?_;go_wp2_with fail);(refine wpIn_cond_true rfl ?_);gi_step;(refine wpIn_round_lit (by kernel_rfl) (fun ⟨_,_,h0⟩=>h0) ?_;go_wp2_with fail);(refine wpIn_ret ?_);exact HQ.out);(have i2:((c:Int)+1 == 12)=false:=beq_eq_false_iff_ne.2 (by omega));(have hc13:c+1<12:=Nat.lt_of_le_of_ne hcl hc12);(clear hc12);gi_step;(refine wpIn_round_lit (by kernel_rfl) (fun ⟨_,_,h0⟩=>h0) ?_;go_wp2_with fail);(refine wpIn_cond_false rfl ?_);gi_step;exact ⟨HE.out.1,HE.out.2.1,HE.out.2.2.1,HE.out.2.2.2 hc13⟩
 case done1 =>
  rintro D xs W hD ⟨hpos,hext⟩ hst hWD
  obtain ⟨n5,A5,l5,c5,B5,m5,d5,n6,A6,l6,c6,B6,m6,d6,k9⟩:=hst.h9
  obtain ⟨t,ht⟩:∃ t,t=stp (qpart F) (nfr r0) (xs.length-1):=⟨_,rfl⟩
  have hs:=HX.out.nf.1.stp F9 hF0 (xs.length-1)
  rw [← ht] at hs hext
  have hjb:NN+1+0+(xs.length-1)≤NN+2500:=by have:=hst.len;omega
  have hwz:=(wid_zero F9 hF0 hs hjb).2 hext
  obtain ⟨fa,fb⟩:=hs.nf.1.fqb F9 hF0 hjb
  have hlI:lastI (qpart F) r0 xs=nfr t:=by unfold lastI;rw [if_neg (by omega),← ht]
  rw [hlI] at k9
  have wsz:=wid_sz fa fb
  obtain ⟨c,hc⟩:∃ c,c=xs.length:=⟨_,rfl⟩
  have h8:=hst.h8
  rw [← hc] at h8 hpos
  have x8:W.cell? ⟨b8,0,none⟩=some (.int .i64 (c:Int)):=h8.cell 0
  have c0:(0:Int)<(c:Int):=by omega
  have KK:=Lib.hid k9
  have H4:=Lib.hid hst.h4
  have HBW:=Lib.hid hst.bel
  have HWD:=Lib.hid hWD
  have hDl:D<W.heap.size:=(Array.getElem?_eq_some_iff.1 hWD).1
  have HWZ:=Lib.hid hwz
  have y0:=k9.tb.r.c0;have y1:=k9.tb.r.c1;have y2:=k9.tb.r.c2;have y3:=k9.tb.c3;have y4:=k9.tb.c4;have y5:=k9.tb.c5
  clear hst k9 hext hs hwz hlI h8 hWD ht hc
  gi_wp2_with fail
  refine ⟨trivial,(callsIn_wide.2 (width_any (r:=nfr t) KK.out.hz KK.out.hq KK.out.hz' KK.out.hq' fa fb)).mono ?_⟩
  rintro e w11 ⟨⟨n8,A8,l8,c8,B8,m8,d8,rfl,h8,k8⟩,hb11⟩
  replace HWD:=Lib.hid ((hb11.block D hDl).trans HWD.out)
  replace H4:=Lib.hid (H4.out.below hb11 H4.out.lt)
  replace HBW:=Lib.hid (HBW.out.trans (hb11.mono HBW.out.size))
  have hDl1:D<w11.heap.size:=Nat.lt_of_lt_of_le hDl hb11.size
  have H8:=Lib.hid (show IntN w11 n8 A8 l8 c8 (wid (nfr t)).z∧NatN w11 B8 m8 d8 (wid (nfr t)).q from ⟨h8,k8⟩)
  clear h8 k8 hb11 KK x8 y0 y1 y2 y3 y4 y5
  gi_wp2_with fail
  refine ⟨trivial,(callsIn_wide.2 (rsign_any _ _ _ _ _ _ _ _ _ _ H8.out.1.at_ H8.out.2.at_ (wsz.fq wk_lt).smn (wsz.fz wk_lt).sm (by have:=wsz.p;omega))).mono ?_⟩
  rintro e w12 ⟨rfl,hb12⟩
  rw [HWZ.out,show sg 0=0 from rfl]
  replace HWD:=Lib.hid ((hb12.block D hDl1).trans HWD.out)
  replace H4:=Lib.hid (H4.out.below hb12 H4.out.lt)
  replace HBW:=Lib.hid (HBW.out.trans (hb12.mono HBW.out.size))
  have x4:w12.cell? ⟨b4,0,none⟩=some (.bool false):=H4.out.cell 0
  have f4:=H4.out.frozen 0
  clear hb12 H8
  gi_wp2
  have hD2:(w12.setCell ⟨b4,0,none⟩ (.bool true)).heap[D]?=some (.deferred (some [])):=(Below.heap_setCell w12 ⟨b4,0,none⟩ (.bool true) D (by simp;omega)).trans HWD.out
  refine ⟨by simp,.inl ⟨_,_,rfl,run_takeDeferred hD2,?_⟩⟩
  have h5:=((H4.out.set_ 0 (.bool true)).kpx (KpX.putObj (fun _=>False) (o':=.deferred none) hD2 rfl) id).cell 0
  have h5:World.cell? _ ⟨b4,0,none⟩=some (.bool true):=h5
  exact ⟨.bool true,by simp [results,Tryz.results3,go_sem,h5],rfl,below_putObj (HBW.out.setCell (p:=⟨b4,0,none⟩) (Nat.le_of_eq HE4.out.symm) _) (by omega)⟩
 case stop1 =>
  rintro D c pre W hD ⟨rfl,h4,hb,hN⟩ hWD
  have x4:=(h4.cell 0).trans rfl
  have HBW:=Lib.hid hb
  gi_wp2
  refine ⟨by simp,.inl ⟨_,_,rfl,run_takeDeferred hWD,?_⟩⟩
  have h5:=(h4.kpx (KpX.putObj (fun _=>False) (o':=.deferred none) hWD rfl) id).cell 0
  have h5:World.cell? _ ⟨b4,0,none⟩=some (.bool true):=h5
  exact ⟨.bool true,by simp [results,Tryz.results3,go_sem,h5],rfl,below_putObj HBW.out (by omega)⟩
theorem law_steps (A:Option Addr) (la ca:Nat) (cs:List Int) (k:Nat) (w:World) (h:I16At w A la ca cs) (hlm:la≤9223372036854775807) (hk:k≤255) :
 Calls Tryz.prog 3 #[.slice A la ca,.int .u8 (k:Int)] w fun e w'=>e=.returned (.bool true)∧Below w.heap.size w w' :=
 callsIn_wide.1 (steps_walk A la ca cs k w h hlm hk)
end Go.Proofs.YtobcbjcnjpgipaaGreat
namespace Go.Proofs.YtobcbjcnjpgipaaGreat
open Go.ChangeShapes Go.WideShapes Go.ChangeAt Go.RowKit
set_option maxRecDepth 100000 in
theorem steps_lifted (os:Os) (started:os.Started) (H:Type) (enc:TypeId×Value→H) :
 ReturnsInHanded {} Tryz.checked os 3 .any (Rows.refineStepsSpec.pre6 enc Tryz.prog Tryz.f3 Rows.refineStepsRow.domain false) (Rows.refineStepsSpec.post enc Tryz.prog Tryz.f3 false true false false):=by
 refine returnsInHanded_of_change (C:=Tryz.checked) Tryz.own started (by kernel_rfl) Tryz.func3
  (ChangeSpec.witness6 (enc:=enc) (C:=Tryz.checked) false ⟨#[],#[.slice none 0 0,.int .u8 0],[]⟩ 8 (by kernel_rfl) (by kernel_rfl) (by kernel_rfl) (by kernel_rfl)) ?_
 intro W base args ds gs before hval0 hW hcnd _
 exact lifted_s16u8 _ Tryz.f3 Tryz.params3 rfl enc _ rfl (fun _ _=>rfl) (fun A la ca p n w h1 hl hn=>by obtain ⟨k,rfl⟩:=Int.eq_ofNat_of_zero_le hn.1;exact law_steps A la ca p k w h1 hl (by omega)) W args ds gs before hval0 hW
theorem refineSteps_holds:Rows.RefineStepsSaid :=
 OpenClaim.holds_of_wide 3 Tryz.f3 rfl rfl rfl rfl rfl rfl rfl ⟨rfl,rfl,rfl,rfl,rfl⟩ rfl rfl rfl rfl rfl (by kernel_rfl) Tryz.func3 (by kernel_rfl)
  (of_decide_eq_true (by kernel_rfl)) (by unfold Func.isWrapper;first | (rw [if_pos (by decide +kernel)];kernel_rfl) | (rw [if_neg (by decide +kernel)];exact ⟨rfl,rfl⟩))
  (fun os started H enc _=>steps_lifted os started H enc)
#print axioms refineSteps_holds
end Go.Proofs.YtobcbjcnjpgipaaGreat
