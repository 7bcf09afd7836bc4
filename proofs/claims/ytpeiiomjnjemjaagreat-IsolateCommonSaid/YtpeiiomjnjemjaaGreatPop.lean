/- A region that draws its order and whose last operation waits for all others: the others in whatever order, then the last one. -/
import Derived.Deep.RegionHeld3
namespace Go.Proofs.YtpeiiomjnjemjaaGreat
open Go
section
variable {P:Program} {ops:Array Oper} {Q:Exit->Act->World->Prop} {md:Region.Mode}
def lastB (md:Region.Mode) (ops:Array Oper):Bool :=
 decide (0<ops.size) &&
 ((List.range (ops.size-1)).all fun i=>((ops[ops.size-1]?).map fun o=>o.after.any fun e=>Region.binds md e && e.on == i).getD false) &&
 ((List.range ops.size).all fun i=>((ops[i]?).map fun o=>(o.after.all fun e=>decide (e.on<i)) && o.guard.isNone).getD false)
structure LastWaits (md:Region.Mode) (ops:Array Oper) (L:Nat):Prop where
 size:ops.size=L+1
 last:∀ i,i<L->∃ o:Oper,ops[L]?=some o/\∃ e∈o.after,Region.binds md e=true/\e.on=i
 back:∀ (i:Nat) (o:Oper),ops[i]?=some o->(∀ e∈o.after,e.on<i)/\o.guard=none
theorem lastB_spec (h:lastB md ops=true):LastWaits md ops (ops.size-1):=by
 unfold lastB at h
 simp only[Bool.and_eq_true,decide_eq_true_eq] at h
 obtain ⟨⟨h1,h2⟩,h3⟩:=h
 refine ⟨by omega,fun i hi=>?_,fun i o ho=>?_⟩
 ·have h4:=List.all_eq_true.1 h2 i (List.mem_range.2 hi)
  cases hl:ops[ops.size-1]? with
  | none=>rw[hl] at h4;simp at h4
  | some o =>
    rw[hl] at h4
    simp only[Option.map_some,Option.getD_some] at h4
    obtain ⟨e,he,hb⟩:=Array.any_eq_true'.1 h4
    simp only[Bool.and_eq_true,beq_iff_eq] at hb
    exact ⟨o,rfl,e,he,hb.1,hb.2⟩
 ·have hlt:i<ops.size:=(Array.getElem?_eq_some_iff.1 ho).1
  have h4:=List.all_eq_true.1 h3 i (List.mem_range.2 hlt)
  rw[ho] at h4
  simp only[Option.map_some,Option.getD_some,Bool.and_eq_true] at h4
  refine ⟨fun e he=>?_,by simpa using h4.2⟩
  have:=Array.all_eq_true'.1 h4.1 e he
  simpa using this
theorem pop_get {L j:Nat} (hs:ops.size=L+1) (hj:j<L):ops.pop[j]?=ops[j]?:=by
 rw[Array.getElem?_pop];simp[hs];omega
theorem listed_pop {listed:Array Bool} {L j:Nat} (hs:listed.size=L+1) (d:Bool) (hj:j<L):listed.pop.getD j d=listed.getD j d:=by
 simp only[Array.getD_eq_getD_getElem?,Array.getElem?_pop]
 rw[if_pos (by omega)]
theorem ready_pop {L:Nat} (hw:LastWaits md ops L) {listed:Array Bool} (hs:listed.size=L+1) {i:Nat} (hi:i<L) :
  i∈Region.ready md ops.pop listed.pop↔i∈Region.ready md ops listed:=by
 rw[mem_ready,mem_ready,listed_pop hs _ hi,pop_get hw.size hi]
 constructor
 ·rintro ⟨h1,o,ho,h2⟩
  refine ⟨h1,o,ho,fun e he hb=>?_⟩
  have:=(hw.back i o ho).1 e he
  rw[<- listed_pop hs _ (by omega)]
  exact h2 e he hb
 ·rintro ⟨h1,o,ho,h2⟩
  refine ⟨h1,o,ho,fun e he hb=>?_⟩
  have:=(hw.back i o ho).1 e he
  rw[listed_pop hs _ (by omega)]
  exact h2 e he hb
theorem ready_pop_lt {L:Nat} (hw:LastWaits md ops L) {listed:Array Bool} {i:Nat} (h:i∈Region.ready md ops.pop listed):i<L:=by
 obtain ⟨_,o,ho,_⟩:=mem_ready.1 h
 have:=(Array.getElem?_eq_some_iff.1 ho).1
 rw[Array.size_pop,hw.size] at this
 omega
theorem last_ready {L:Nat} (hw:LastWaits md ops L) {listed:Array Bool} (hs:listed.size=L+1) (hL:listed.getD L true=false) (h:∀ i,i<L->i ∉ Region.ready md ops listed) :
  (∀ i,i<L->listed.getD i false=true)/\L∈Region.ready md ops listed:=by
 have hall:∀ i,i<L->listed.getD i false=true:=by
  intro i
  induction i using Nat.strongRecOn with
  | _ i ih =>
    intro hi
    have hn:=h i hi
    have hlt:i<ops.size:=by rw[hw.size];omega
    have ho:ops[i]?=some ops[i]:=Array.getElem?_eq_getElem hlt
    cases hl:listed.getD i true with
    | true =>
      have hlt2:i<listed.size:=by omega
      simp[hlt2] at hl ⊢
      exact hl
    | false =>
      exfalso
      refine hn (mem_ready.2 ⟨hl,_,ho,fun e he _=>?_⟩)
      have:=(hw.back i _ ho).1 e he
      exact ih e.on this (by omega)
 refine ⟨hall,mem_ready.2 ⟨hL,?_⟩⟩
 have hlt:L<ops.size:=by rw[hw.size];omega
 have ho:ops[L]?=some ops[L]:=Array.getElem?_eq_getElem hlt
 refine ⟨_,ho,fun e he _=>?_⟩
 exact hall _ ((hw.back L _ ho).1 e he)
theorem last_only {L:Nat} (hw:LastWaits md ops L) {listed:Array Bool} (hL:L∈Region.ready md ops listed):∀ i,i<L->listed.getD i false=true:=by
 intro i hi
 obtain ⟨_,o,ho,h2⟩:=mem_ready.1 hL
 obtain ⟨o',ho',e,he,hb,hon⟩:=hw.last i hi
 rw[ho] at ho'
 injection ho' with ho'
 subst ho'
 rw[<- hon]
 exact h2 e he hb
theorem not_ready {L:Nat} {listed:Array Bool} (hs:listed.size=L+1) {i:Nat} (hi:i<L+1) (h:listed.getD i false=true):i ∉ Region.ready md ops listed:=by
 intro hr
 have:=(mem_ready.1 hr).1
 have hlt:i<listed.size:=by omega
 simp[hlt] at this h
 rw[h] at this
 cases this
def LastQ (P:Program) (ops:Array Oper) (L:Nat) (Q:Exit->Act->World->Prop):Exit->Act->World->Prop
 | .normal,a,w=>wpOp P ops Q L (fun a' w'=>Q .normal a' w') a w
 | e,a,w=>Q e a w
theorem wpOp_pop {L:Nat} (hw:LastWaits md ops L) {i:Nat} (hi:i<L) {K:Act->World->Prop} {a:Act} {w:World} (h:wpOp P ops.pop (LastQ P ops L Q) i K a w):wpOp P ops Q i K a w:=by
 have hlt:i<ops.size:=by rw[hw.size];omega
 have ho:ops[i]?=some ops[i]:=Array.getElem?_eq_getElem hlt
 have hg:=(hw.back i _ ho).2
 have hwant:∀ y,Region.wanted ops[i] y=true:=fun y=>by simp[Region.wanted,hg]
 unfold wpOp at *
 rw[pop_get hw.size hi,ho] at h
 rw[ho]
 simp only[hwant,if_true] at h ⊢
 refine h.imp (fun h=>?_) (fun h=>?_)
 ·unfold Oper.wp at *
  generalize (execOp a.eval ops[i]).run P w=r at *
  cases r with
  | ok n w' =>
    cases n<;>simp only[Oper.upon] at h ⊢<;>first
     | exact h
     | (refine Calls.mono h fun e w'' he=>?_
        cases e<;>exact he)
  | halt x w'=>cases x<;>simp only[Oper.upon] at h ⊢<;>exact h
 ·exact h
theorem set_last {listed:Array Bool} {L:Nat} (hs:listed.size=L+1) (h:∀ i,i<L->listed.getD i false=true):Region.ready md ops (listed.setIfInBounds L true)=[]:=by
 cases hr:Region.ready md ops (listed.setIfInBounds L true) with
 | nil=>rfl
 | cons i rest =>
   exfalso
   have hi:i∈Region.ready md ops (listed.setIfInBounds L true):=by rw[hr];exact List.mem_cons_self
   have h1:=(mem_ready.1 hi).1
   rcases Nat.lt_or_ge i (L+1) with hlt | hge
   ·by_cases hiL:i=L
    ·subst hiL
     simp[hs] at h1
    ·exact not_ready (by simp[hs]) hlt (getD_set_true (h i (by omega))) hi
   ·have hn:(listed.setIfInBounds L true)[i]?=none:=Array.getElem?_eq_none (by simp[hs];omega)
    rw[Array.getD_eq_getD_getElem?,hn] at h1
    simp at h1
theorem wpAny_of_pop {L:Nat} (hw:LastWaits md ops L):∀ (fuel:Nat) (listed:Array Bool) (a:Act) (w:World),listed.size=L+1->listed.getD L true=false ->
  wpAny P md ops.pop (LastQ P ops L Q) fuel listed.pop a w->wpAny P md ops Q (fuel+1) listed a w:=by
 intro fuel
 have step:∀ (f:Nat) (listed:Array Bool) (a:Act) (w:World),listed.size=L+1->(∀ i,i<L->listed.getD i false=true)->LastQ P ops L Q .normal a w ->
   wpOp P ops Q L (wpAny P md ops Q f (listed.setIfInBounds L true)) a w:=by
  intro f listed a w hs hall h
  refine wpOp_mono (fun a' w' h'=>?_) (show wpOp P ops Q L (fun a' w'=>Q .normal a' w') a w from h)
  have hn:=set_last (md:=md) (ops:=ops) hs hall
  cases f with
  | zero=>exact ⟨hn,h'⟩
  | succ f=>exact ⟨fun _=>h',by rw[hn];simp⟩
 induction fuel with
 | zero =>
   intro listed a w hs hL h
   obtain ⟨h1,h2⟩:=h
   have hno:∀ i,i<L->i ∉ Region.ready md ops listed:=fun i hi hr=>by
    have:=(ready_pop hw hs hi).2 hr
    rw[h1] at this
    cases this
   obtain ⟨hall,hrL⟩:=last_ready hw hs hL hno
   refine ⟨fun h0=>(by rw[h0] at hrL;cases hrL),fun i hi=>?_⟩
   have hiL:i=L:=by
    obtain ⟨_,o,ho,_⟩:=mem_ready.1 hi
    have:=(Array.getElem?_eq_some_iff.1 ho).1
    rw[hw.size] at this
    rcases Nat.lt_or_ge i L with h3 | h3
    ·exact absurd hi (hno i h3)
    ·omega
   subst hiL
   exact step 0 listed a w hs hall h2
 | succ fuel ih =>
   intro listed a w hs hL h
   obtain ⟨h1,h2⟩:=h
   refine ⟨fun h0=>?_,fun i hi=>?_⟩
   ·obtain ⟨_,hrL⟩:=last_ready hw hs hL (fun i _=>by rw[h0];simp)
    rw[h0] at hrL;cases hrL
   ·have hlt:i<L+1:=by
     obtain ⟨_,o,ho,_⟩:=mem_ready.1 hi
     have:=(Array.getElem?_eq_some_iff.1 ho).1
     rw[hw.size] at this
     exact this
    by_cases hiL:i=L
    ·subst hiL
     have hall:=last_only hw hi
     have hnil:Region.ready md ops.pop listed.pop=[]:=by
      cases hr:Region.ready md ops.pop listed.pop with
      | nil=>rfl
      | cons j rest =>
        exfalso
        have hj:j∈Region.ready md ops.pop listed.pop:=by rw[hr];exact List.mem_cons_self
        have hjl:=ready_pop_lt hw hj
        exact not_ready hs (by omega) (hall j hjl) ((ready_pop hw hs hjl).1 hj)
     exact step (fuel+1) listed a w hs hall (h1 hnil)
    ·have hil:i<L:=by omega
     have h3:=h2 i ((ready_pop hw hs hil).2 hi)
     refine wpOp_mono (fun a' w' h'=>ih _ a' w' (by simp[hs]) (by rw[getD_set_ne true hiL];exact hL) ?_) (wpOp_pop hw hil h3)
     have e:(listed.setIfInBounds i true).pop=listed.pop.setIfInBounds i true:=by
      apply Array.ext_getElem?
      intro j
      rw[Array.getElem?_pop,Array.getElem?_setIfInBounds,Array.getElem?_setIfInBounds,Array.getElem?_pop]
      by_cases hij:i=j
      ·subst hij
       simp[hs,hil]
       omega
      ·simp[hij]
     rw[e]
     exact h'
theorem take_at {S:World->Prop} {i d:Nat} {oi:Oper} {v:Value} {fuel:Nat} {listed:Array Bool} {a:Act} {w:World} (hi:ops[i]?=some oi) (hd:oi.dst=some d)
  (hs:Region.noSelect ops=true) (hf:Region.free md ops listed i=true) (hr:(Region.ready md ops listed).contains i=true)
  (hQ:∀ c a w,Q (.panic c) (a.put (some d) v) w->Q (.panic c) a w) (hy:YieldsIf P ops S oi v a) (hS:S w)
  (h:wpAnyH P md ops Q S fuel (listed.setIfInBounds i true) (a.put (some d) v) w):wpAnyH P md ops Q S (fuel+1) listed a w:=by
 rw[<- hd] at h hQ
 exact wpAnyH_take hi hs hf hr hQ hy hS h
theorem tq {S:World->Prop} (i:Nat) {d:Nat} {oi:Oper} {v:Value} {fuel:Nat} {listed:Array Bool} {a:Act} {w:World} (h:wpAnyH P md ops Q S fuel (listed.setIfInBounds i true) (a.put (some d) v) w) (hi:ops[i]?=some oi:=by rfl) (hd:oi.dst=some d:=by rfl)
  (hy:YieldsIf P ops S oi v a:=by exact Or.inl ⟨by rfl,by intro w hSw;(try dsimp only at hSw);go_simp;(try with_reducible rfl)⟩) (hs:Region.noSelect ops=true:=by kernel_rfl) (hf:Region.free md ops listed i=true:=by kernel_rfl) (hr:(Region.ready md ops listed).contains i=true:=by kernel_rfl)
  (hQ:∀ c a w,Q (.panic c) (a.put (some d) v) w->Q (.panic c) a w:=by exact fun _ _ _ h=>h) (hS:S w:=by assumption):wpAnyH P md ops Q S (fuel+1) listed a w:=take_at hi hd hs hf hr hQ hy hS h
theorem tu {S:World->Prop} (i:Nat) {d:Nat} {oi:Oper} {fuel:Nat} {listed:Array Bool} {a:Act} {w:World} (h:wpAnyH P md ops Q S fuel (listed.setIfInBounds i true) (a.put (some d) undef) w) (hi:ops[i]?=some oi:=by rfl) (hd:oi.dst=some d:=by rfl)
  (hy:YieldsIf P ops S oi undef a:=by exact Or.inr ⟨by rfl,rfl⟩) (hs:Region.noSelect ops=true:=by kernel_rfl) (hf:Region.free md ops listed i=true:=by kernel_rfl) (hr:(Region.ready md ops listed).contains i=true:=by kernel_rfl)
  (hQ:∀ c a w,Q (.panic c) (a.put (some d) undef) w->Q (.panic c) a w:=by exact fun _ _ _ h=>h) (hS:S w:=by assumption):wpAnyH P md ops Q S (fuel+1) listed a w:=take_at hi hd hs hf hr hQ hy hS h
theorem rdy (i:Nat) {S:World->Prop} {fuel:Nat} {listed:Array Bool} {a:Act} {w:World} {o:Oper}
  (h:∀ K':Act->World->Prop,Shut (∀ a w,S w->(S w->wpAnyH P md ops Q S fuel (listed.setIfInBounds i true) a w)->K' a w)->if Region.wanted o (yielded ops a.tmps)=true then Oper.wp P o a w K' Q else K' (a.put o.dst undef) w)
  (ho:ops[i]?=some o:=by rfl) (hr:Region.ready md ops listed=[i]:=by kernel_rfl):wpAnyH P md ops Q S (fuel+1) listed a w:=wpAnyH_ready hr (by simp) (AllReadyH.cons ho h AllReadyH.nil)
theorem put_lit (l:List Value) (d:List Deferred) (k:Nat) (v:Value):({ tmps:=l.toArray,defers:=d }:Act).put (some k) v={ tmps:=(l.set k v).toArray,defers:=d }:=by
 simp[Act.put]
theorem lastQ_list {L:Nat} {a:Act} {w:World} {o:Oper} (h:ops[L]?=some o) (hl:wpList P ops Q [o] a w):LastQ P ops L Q .normal a w:=by
 show wpOp P ops Q L (fun a' w'=>Q .normal a' w') a w
 unfold wpOp
 rw[h]
 unfold wpList at hl
 exact hl
theorem wp_region_last {S:World->Prop} {id:Nat} {a:Act} {w:World} (hm:P.follows .mixedOrders=true) (hB:lastB .any ops=true) (hS:S w.drew)
  (h:S w.drew->wpAnyH P .any ops.pop (LastQ P ops (ops.size-1) Q) S (ops.size-1) (Array.replicate (ops.size-1) false) a w.drew):(Code.region id ops true).wp P Q a w:=by
 have hw:=lastB_spec hB
 have hs:=hw.size
 refine wp_region_any hm ?_
 have h1:=wpAny_of_held _ _ _ _ (h hS)
 have e:(Array.replicate ops.size false).pop=Array.replicate (ops.size-1) false:=by simp
 rw[<- e] at h1
 have h2:=wpAny_of_pop (Q:=Q) hw (ops.size-1) (Array.replicate ops.size false) a w.drew (by simp;omega) (by simp[show ops.size-1<ops.size by omega]) h1
 rw[show ops.size-1+1=ops.size by omega] at h2
 exact h2
end
end Go.Proofs.YtpeiiomjnjemjaaGreat
