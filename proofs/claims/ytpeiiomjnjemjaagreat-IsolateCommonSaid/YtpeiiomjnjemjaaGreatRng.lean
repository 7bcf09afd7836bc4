/- A law for a range over a function whose elements lie in memory: the iterator vouches for what it hands on. At the widest fence. -/
import Derived.RangeFuncNested
import Derived.RangeFuncBound
import Derived.RangeFuncCalls
import Derived.RangeFuncLeaves
import Derived.Test.YtpeiiomjnjemjaaGreatNatS
namespace Go.Proofs.YtpeiiomjnjemjaaGreat
open Go.RowKit
def SlO:Obj->Prop
 | .cells cs _ _=>0<cs.size/\∀ j,j<cs.size->∃ A l c,cs[j]?=some (.slice A l c)
 | _=>False
structure Keep (g:Nat) (W W':World):Prop where
 os:W'.os=W.os
 tape:W'.tape=W.tape
 output:W'.output=W.output
 size:W.heap.size<=W'.heap.size
 same:∀ (k:Nat) (o:Obj),¬ SlO o->W.heap[k]?=some o->o.isCells=true->W'.heap[k]?=some o
 box:(∃ A l c,Blk W g 26 #[.slice A l c])->∃ A l c,Blk W' g 26 #[.slice A l c]
theorem Keep.refl (g:Nat) (W:World):Keep g W W:=⟨rfl,rfl,rfl,Nat.le_refl _,fun _ _ _ h _=>h,fun h=>h⟩
theorem Keep.trans {g:Nat} {A B C:World} (h:Keep g A B) (k:Keep g B C):Keep g A C :=
 ⟨k.os.trans h.os,k.tape.trans h.tape,k.output.trans h.output,Nat.le_trans h.size k.size,fun i o hi ho hc=>k.same i o hi (h.same i o hi ho hc) hc,fun hb=>k.box (h.box hb)⟩
theorem Keep.putObj (g:Nat) {W:World} {l:Nat} {o:Obj} {o':Obj} (hl:W.heap[l]?=some o) (hc:o.isCells=false):Keep g W (W.putObj l o') :=
 ⟨rfl,rfl,rfl,by simp,fun k x _ hk hx=>by
   rw[World.putObj_heap_other (fun e=>by rw[e,hl] at hk;cases hk;rw[hc] at hx;cases hx)];exact hk,fun ⟨A,m,c,hb⟩=>⟨A,m,c,by
   unfold Blk at *
   rw[World.putObj_heap_other (fun e=>by rw[e,hl] at hb;cases hb;cases hc)];exact hb⟩⟩
theorem Keep.below (g:Nat) {A B:World} (h:Below A.heap.size A B):Keep g A B :=
 ⟨h.os,h.tape,h.output,h.size,fun k _ _ hk _=>(h.block k (Array.getElem?_eq_some_iff.1 hk).1).trans hk,fun ⟨A',l,c,hb⟩=>⟨A',l,c,hb.below h hb.lt⟩⟩
structure Near (B:Nat) (A C:World):Prop where
 bel:Below B A C
 slo:∀ (k:Nat) (o:Obj),SlO o->A.heap[k]?=some o->C.heap[k]?=some o
theorem Near.of {B:Nat} {A C:World} (hb:Below A.heap.size A C) (hB:B<=A.heap.size):Near B A C :=
 ⟨hb.mono hB,fun k _ _ h=>(hb.block k (Array.getElem?_eq_some_iff.1 h).1).trans h⟩
section
variable {g:Nat} {W W':World} {A0:Option Addr} {l0 c0:Nat}
theorem Keep.at_ (h:Keep g W W') (_hg:Blk W g 26 #[.slice A0 l0 c0]) {k o:Nat} {v:Value} (hv:W.cell? ⟨k,o,none⟩=some v) (hn:∀ A l c,v≠.slice A l c):W'.heap[k]?=W.heap[k]?:=by
 obtain ⟨x,hx,hc⟩:∃ x,W.heap[k]?=some x/\x.isCells=true:=by
  unfold World.cell? at hv
  cases e:W.heap[k]? with
  | none=>simp[e] at hv
  | some x=>cases x<;>simp_all [Obj.isCells]
 have hs:¬ SlO x:=by
  intro hs
  cases x with
  | cells cs t fr =>
    have e:W.cell? ⟨k,o,none⟩=cs[o]?:=cell_of_row W k o cs t fr hx
    rw[e] at hv
    have hlt:o<cs.size:=by
     rcases Nat.lt_or_ge o cs.size with h' | h'
     ·exact h'
     ·rw[Array.getElem?_eq_none h'] at hv;cases hv
    obtain ⟨A,l,c,h3⟩:=hs.2 o hlt
    rw[h3] at hv
    cases hv
    exact hn _ _ _ rfl
  | _=>exact hs
 rw[h.same k x hs hx hc,hx]
theorem Keep.cell (h:Keep g W W') (hg:Blk W g 26 #[.slice A0 l0 c0]) {k o o':Nat} {v:Value} (hv:W.cell? ⟨k,o,none⟩=some v) (hn:∀ A l c,v≠.slice A l c):W'.cell? ⟨k,o',none⟩=W.cell? ⟨k,o',none⟩ :=
 World.cell?_of_block (w:=W) (h.at_ hg hv hn)
theorem DigAt.keep {A:Option Addr} {len cap:Nat} {ds:List Nat} (hd:DigAt W A len cap ds) (h:Keep g W W') (hg:Blk W g 26 #[.slice A0 l0 c0]):DigAt W' A len cap ds:=by
 refine ⟨hd.length,hd.cap,hd.wd,?_⟩
 rcases hd.cells with e | ⟨b,off,hA,hlt,hc⟩
 ·exact .inl e
 ·rcases Nat.eq_zero_or_pos len with e | e
  ·exact .inl e
  ·exact .inr ⟨b,off,hA,Nat.lt_of_lt_of_le hlt h.size,fun j hj=>(h.cell hg (hc 0 e) (fun _ _ _ x=>by cases x)).trans (hc j hj)⟩
theorem NatN.keep {A:Option Addr} {len cap n:Nat} (hd:NatN W A len cap n) (h:Keep g W W') (hg:Blk W g 26 #[.slice A0 l0 c0]):NatN W' A len cap n:=⟨hd.digits.keep h hg⟩
theorem IntN.keep {neg:Bool} {A:Option Addr} {len cap:Nat} {z:Int} (hd:IntN W neg A len cap z) (h:Keep g W W') (hg:Blk W g 26 #[.slice A0 l0 c0]):IntN W' neg A len cap z:=⟨hd.nat.keep h hg,hd.sign⟩
end
def fedPost {α:Type} (B g:Nat) (I:List α->World->Prop) (Ix:Nat->List α->World->Prop) (xs:List α) (W:World):Exit->Act->World->Prop
 | .normal,_,W'=>W'.heap[B]?=W.heap[B]?/\W'.heap[B+1]?=W.heap[B+1]?/\Keep g W W'/\I xs W'
 | .exit id,_,W'=>W'.heap[B]?=W.heap[B]?/\W'.heap[B+1]?=W.heap[B+1]?/\Keep g W W'/\Ix id xs W'
 | _,_,_=>False
def Feeds {α:Type} (P:Program) (gf:Nat) (lb:Array Value) (enc:α->Value) (Pre:α->World->Prop) (g N:Nat) (S Sp:List α->Prop) (w:World):Prop :=
 ∀ (l:Nat) (J Jx:List α->World->Prop) (W:World),Below w.heap.size w W ->
   (∀ s A B,Near W.heap.size A B->J s A->J s B)->(∀ s A B,Near W.heap.size A B->Jx s A->Jx s B) ->
   (∀ m pre x W1,J pre W1->Pre x W1->pre.length<N->W.heap.size<=W1.heap.size->YieldAt Fence.wide m P l #[enc x] W1 fun e W' =>
     (e=.returned (.bool true)/\J (pre ++ [x]) W'/\Keep g W1 W')∨(e=.returned (.bool false)/\Jx (pre ++ [x]) W'/\Keep g W1 W')) ->
   J [] W ->
   Calls P gf (#[.func (.yield l) #[] #[]] ++ lb) W fun e W'=>(∃ v,e=.returned v)/\((∃ xs,S xs/\J xs W'/\∀ x∈xs,Pre x W')∨(∃ pre,Sp pre/\Jx pre W'/\∀ x∈pre,Pre x W'))
theorem wpIn_fed {α:Type} {P:Program} {n:Nat} {g0:Operand} {ps:Array Tmp} {assign body:Code} {Q:Exit->Act->World->Prop} {a:Act} {w:World} {gf:Nat} {lb:Array Value}
  (hg:a.eval g0=.func (.func gf) #[] lb) (eg:∀ args w,(callFunc gf args).run P w=.ok (.enter gf args) w)
  {enc:α->Value} {Pre:α->World->Prop} {g N:Nat} {S Sp:List α->Prop} (hseq:Feeds P gf lb enc Pre g N S Sp w) (hps:ps.size=1)
  (hPre:∀ x W l o o',Pre x W->W.heap[l]?=some o->o.isCells=false->Pre x (W.putObj l o'))
  (I:List α->World->Prop) (Ix:Nat->List α->World->Prop)
  (hIp:∀ s W l o o',I s W->W.heap[l]?=some o->o.isCells=false->w.heap.size<=l->I s (W.putObj l o'))
  (hXp:∀ c s W l o o',Ix c s W->W.heap[l]?=some o->o.isCells=false->w.heap.size<=l->Ix c s (W.putObj l o'))
  (hIa:∀ s W o,I s W->I s (W.alloc o))
  (hIb:∀ s A B,Near (w.heap.size+2) A B->I s A->I s B) (hXb:∀ c s A B,Near (w.heap.size+2) A B->Ix c s A->Ix c s B)
  (h0:I [] w) (a₁:α->Act)
  (hassign:∀ (l m:Nat) (x:α) (W:World) (K:Act->World->Prop),K (a₁ x) W ->
    assign.wpIn (Fence.wide.inRound l) m P (Exit.then K (fun _ _ _=>False)) { tmps:=(ps.zip #[enc x]).foldl (fun t (p,v)=>t.setIfInBounds p v) a.tmps,defers:=[] } W)
  (hbody:∀ (l m:Nat) (pre:List α) (x:α) (W:World),I pre W->Pre x W->pre.length<N->w.heap.size+2<=W.heap.size->body.wpIn (Fence.wide.inRound l) m P (fedPost w.heap.size g I Ix (pre ++ [x]) W) (a₁ x) W)
  (hdone:∀ (D:Nat) (xs:List α) (W:World),w.heap.size<=D->S xs->I xs W->(∀ x∈xs,Pre x W)->W.heap[D]?=some (.deferred (some []))->Q .normal { a with defers:={ target:=.collected D,args:=#[] } :: a.defers } W)
  (hstop:∀ (D c:Nat) (pre:List α) (W:World),w.heap.size<=D->Sp pre->Ix c pre W->(∀ x∈pre,Pre x W)->W.heap[D]?=some (.deferred (some []))->(Code.exit c).wpIn Fence.wide n P Q { a with defers:={ target:=.collected D,args:=#[] } :: a.defers } W) :
  (Code.rangeFunc g0 ps assign body).wpIn Fence.wide n P Q a w:=by
 refine wpIn_rangeFunc fun fn hfn=>?_
 let rec0:LoopState->Option Code->Loop:=fun st pe=>{ state:=st,pending:=pe,fn,tmps:=a.tmps,params:=ps,assign,body,defers:=w.heap.size }
 have hw:w.heap.size<w.heap.size+1:=Nat.lt_succ_self _
 have hL:∀ o,((w.alloc (.deferred (some []))).alloc o).heap[w.heap.size+1]?=some o:=fun o=>by
  have:=World.alloc_heap_new (w.alloc (.deferred (some []))) o
  rwa [World.size_alloc] at this
 have hD:∀ o,((w.alloc (.deferred (some []))).alloc o).heap[w.heap.size]?=some (.deferred (some [])):=fun o =>
  (Below.heap_alloc _ _ _ (by simp)).trans (World.alloc_heap_new w _)
 have hsz:((w.alloc (.deferred (some []))).alloc (.loop (rec0 .ready none))).heap.size=w.heap.size+2:=by simp
 obtain ⟨W0,hW0⟩:∃ W,W=(w.alloc (.deferred (some []))).alloc (.loop (rec0 .ready none)):=⟨_,rfl⟩
 have hL0:W0.heap[w.heap.size+1]?=some (.loop (rec0 .ready none)):=by rw[hW0];exact hL _
 have hD0:W0.heap[w.heap.size]?=some (.deferred (some [])):=by rw[hW0];exact hD _
 have hI0:I [] W0:=by rw[hW0];exact hIa _ _ _ (hIa _ _ _ h0)
 have hb0:Below w.heap.size w W0:=by rw[hW0];exact ((Below.refl _ w).alloc (Nat.le_refl _) _).alloc (by simp) _
 rw[<- hW0] at hsz
 -- one turn of the record
 have turn:∀ (W:World) (r r':Loop),W.heap[w.heap.size+1]?=some (.loop r)->W.heap[w.heap.size]?=some (.deferred (some [])) ->
   (W.putObj (w.heap.size+1) (.loop r')).heap[w.heap.size+1]?=some (.loop r')/\(W.putObj (w.heap.size+1) (.loop r')).heap[w.heap.size]?=some (.deferred (some []))/\Keep g W (W.putObj (w.heap.size+1) (.loop r')) :=
  fun W r r' h1 h2=>⟨World.putObj_heap_same (Array.getElem?_eq_some_iff.1 h1).1,(World.putObj_heap_other (by omega)).trans h2,Keep.putObj g h1 rfl⟩
 refine ⟨w.heap.size+1,[{ target:=.collected w.heap.size,args:=#[] }],W0,{ target:=.fn (.func gf) lb,args:=#[.func (.yield (w.heap.size+1)) #[] #[]] },W0,gf,#[.func (.yield (w.heap.size+1)) #[] #[]] ++ lb,W0,?_,?_,?_,?_,?_,?_⟩
 ·rw[hW0];exact run_enterLoop_outer _ _ _ _ _
 ·simp only[resolve,hg]
  simp[go_sem]
 ·intro f' _;trivial
 ·simp[invoke,go_sem,eg]
 ·intro h;cases h
 ·refine (callsIn_wide.2 (hseq (w.heap.size+1)
   (fun pre W=>I pre W/\W.heap[w.heap.size+1]?=some (.loop (rec0 .ready none))/\W.heap[w.heap.size]?=some (.deferred (some [])))
   (fun pre W=>∃ c,Ix c pre W/\W.heap[w.heap.size+1]?=some (.loop (rec0 .done (some (.exit c))))/\W.heap[w.heap.size]?=some (.deferred (some [])))
   W0 hb0 ?_ ?_ ?_ ⟨hI0,hL0,hD0⟩)).mono ?_
  ·rintro s A B hb ⟨h1,h2,h3⟩
   rw[hsz] at hb
   exact ⟨hIb s A B hb h1,(hb.bel.block _ (by omega)).trans h2,(hb.bel.block _ (by omega)).trans h3⟩
  ·rintro s A B hb ⟨c,h1,h2,h3⟩
   rw[hsz] at hb
   exact ⟨c,hXb c s A B hb h1,(hb.bel.block _ (by omega)).trans h2,(hb.bel.block _ (by omega)).trans h3⟩
  ·rintro m pre x W1 ⟨h1,h2,h3⟩ hp hN hs
   rw[hsz] at hs
   obtain ⟨t1,t2,t3⟩:=turn W1 _ { rec0 .ready none with state:=.busy } h2 h3
   refine ⟨fn,_,assign,body,run_yield h2 (by show 1=_;exact hps.symm),roundIn_of_wpIn trivial (hassign _ m x W1 _ ⟨_,run_beginRound h2 rfl,?_⟩)⟩
   have hlen:=(Array.getElem?_eq_some_iff.1 h2).1
   refine wpIn_mono (hbody _ m pre x _ (hIp _ _ _ _ _ h1 h2 rfl (by omega)) (hPre _ _ _ _ _ hp h2 rfl) hN (by simpa using hs)) ?_
   rintro e a3 W3 hq
   cases e with
   | normal =>
     obtain ⟨q1,q2,q3,q4⟩:=hq
     have k1:=q2.trans t1
     have k2:=q1.trans t2
     obtain ⟨u1,u2,u3⟩:=turn W3 _ (rec0 .ready none) k1 k2
     exact ⟨_,_,run_endRound (P:=P) none k1,.inl ⟨rfl,⟨hIp _ _ _ _ _ q4 k1 rfl (by omega),u1,u2⟩,(t3.trans q3).trans u3⟩⟩
   | exit c =>
     obtain ⟨q1,q2,q3,q4⟩:=hq
     have k1:=q2.trans t1
     have k2:=q1.trans t2
     obtain ⟨u1,u2,u3⟩:=turn W3 _ (rec0 .done (some (.exit c))) k1 k2
     exact ⟨_,_,run_endRound (P:=P) (some (.exit c)) k1,.inr ⟨rfl,⟨c,hXp _ _ _ _ _ _ q4 k1 rfl (by omega),u1,u2⟩,(t3.trans q3).trans u3⟩⟩
   | ret=>exact hq.elim
   | goto t=>exact hq.elim
   | panic ch=>exact hq.elim
   | outgrown=>exact hq.elim
  ·rintro e W2 ⟨⟨v,rfl⟩,(⟨xs,hS,⟨h1,h2,h3⟩,hP⟩ | ⟨pre,hSp,⟨c,h1,h2,h3⟩,hP⟩)⟩
   ·obtain ⟨u1,u2,u3⟩:=turn W2 _ { rec0 .ready none with state:=.exhausted } h2 h3
    exact ⟨none,_,run_endLoop (P:=P) h2 (by simp[rec0]),hdone _ xs _ (Nat.le_refl _) hS (hIp _ _ _ _ _ h1 h2 rfl (by omega)) (fun x hx=>hPre _ _ _ _ _ (hP x hx) h2 rfl) u2⟩
   ·obtain ⟨u1,u2,u3⟩:=turn W2 _ { rec0 .done (some (.exit c)) with state:=.exhausted } h2 h3
    exact ⟨some (.exit c),_,run_endLoop (P:=P) h2 (by simp[rec0]),hstop _ c pre _ (Nat.le_refl _) hSp (hXp _ _ _ _ _ _ h1 h2 rfl (by omega)) (fun x hx=>hPre _ _ _ _ _ (hP x hx) h2 rfl) u2⟩
end Go.Proofs.YtpeiiomjnjemjaaGreat
