/- An own slice of polynomials that grows by append: the polynomials in it stay as they are. -/
import Derived.Test.YtpeiiomjnjemjaaGreatPow
import Derived.ArgAppend
namespace Go.Proofs.YtpeiiomjnjemjaaGreat
open Go.RowKit
structure OwnP (w:World) (g n cap:Nat) (ps:List (List Int)):Prop where
 blk:∃ cs,Blk w g 26 cs/\cs.size=cap/\∀ j,j<cap->∃ A l c,cs[j]?=some (.slice A l c)
 len:ps.length=n
 le:n<=cap
 elems:∀ j,j<n->∃ A l c,w.cell? ⟨g,j,none⟩=some (.slice A l c)/\PolyN w A l c (ps.getD j [])
section
variable {w w':World} {g n cap:Nat} {ps:List (List Int)}
theorem OwnP.lt (h:OwnP w g n cap ps):g<w.heap.size:=by
 obtain ⟨cs,hb,_⟩:=h.blk
 exact hb.lt
theorem OwnP.below (h:OwnP w g n cap ps) (hb:Below w.heap.size w w'):OwnP w' g n cap ps:=by
 have hlt:=h.lt
 obtain ⟨cs,hk,hs,hc⟩:=h.blk
 refine ⟨⟨cs,hk.below hb hlt,hs,hc⟩,h.len,h.le,fun j hj=>?_⟩
 obtain ⟨A,l,c,h1,h2⟩:=h.elems j hj
 exact ⟨A,l,c,(hb.cell (p:=⟨g,j,none⟩) hlt).trans h1,h2.below ikN hb⟩
theorem OwnP.plst (h:OwnP w g n cap ps):PLst w (some ⟨g,0,none⟩) n cap ps:=by
 refine ⟨h.len,.inr ⟨g,0,rfl,h.lt,fun j hj=>?_⟩⟩
 obtain ⟨A,l,c,h1,h2⟩:=h.elems j hj
 exact ⟨A,l,c,by rw[Nat.zero_add];exact h1,h2.at_ ikN⟩
theorem OwnP.one {A:Option Addr} {l c:Nat} {p:List Int} (h:PolyN w A l c p):OwnP (w.alloc (.cells #[.slice A l c] 26)) w.heap.size 1 1 [p]:=by
 refine ⟨⟨_,Blk.new _ _ _,rfl,fun j hj=>⟨A,l,c,?_⟩⟩,rfl,Nat.le_refl _,fun j hj=>?_⟩
 ·have:j=0:=by omega
  subst this;rfl
 ·have:j=0:=by omega
  subst this
  exact ⟨A,l,c,by go_simp,h.below ikN ((Below.refl _ _).alloc (Nat.le_refl _) _)⟩
theorem PolyP.storeRow {A:Option Addr} {l c:Nat} {p:List Int} (h:PolyN w A l c p) {cs:Array Value} (hk:Blk w g 26 cs) (hc:∀ j,j<cs.size->∃ A l c,cs[j]?=some (.slice A l c)) {k:Nat} (hkl:k<cs.size) (u:Value):PolyN (w.setCell ⟨g,k,none⟩ u) A l c p:=by
 obtain ⟨A0,l0,c0,h0⟩:=hc k hkl
 have hold:w.cell? ⟨g,k,none⟩=some (.slice A0 l0 c0):=by rw[hk.cell];exact h0
 refine ⟨h.length,h.cap,?_⟩
 rcases h.elems with he | ⟨b,off,hA,hlt,hel⟩
 ·exact .inl he
 ·refine .inr ⟨b,off,hA,by simpa [World.setCell] using hlt,fun j hj=>?_⟩
  obtain ⟨neg,Aj,lj,cj,h1,h2,h3⟩:=hel j hj
  have hne:b≠g:=by
   intro e
   subst e
   rw[hk.cell] at h1
   rcases Nat.lt_or_ge (off+j*2) cs.size with h4 | h4
   ·obtain ⟨A5,l5,c5,h5⟩:=hc _ h4
    rw[h5] at h1
    cases h1
   ·rw[Array.getElem?_eq_none h4] at h1;cases h1
  refine ⟨neg,Aj,lj,cj,?_,?_,h3.store _ hold (noDigit_slice _ _ _)⟩
  ·rw[World.cell?_setCell_other _ _ _ _ (by intro e;injection e with e _;exact hne e.symm)];exact h1
  ·rw[World.cell?_setCell_other _ _ _ _ (by intro e;injection e with e _;exact hne e.symm)];exact h2
end
structure Fr (w w':World) (g:Nat):Prop where
 poly:∀ {A:Option Addr} {l c:Nat} {p:List Int},PolyN w A l c p->PolyN w' A l c p
 below:∀ {base:Nat} {W:World},base<=g->base<=w.heap.size->Below base W w->Below base W w'
 size:w.heap.size<=w'.heap.size
theorem info_poly:(Tryz.prog.info? 26).map (fun i=>(i.zero,i.size,i.bytes))=some (some (.slice none 0 0),1,24):=by kernel_rfl
theorem wpList_append_poly {w:World} {ops:Array Oper} {rest:List Oper} {o:Oper} {a:Act} {Q:Exit->Act->World->Prop} (hgd:o.guard=none) (s x:Operand)
  (ho:o.op=.call { callee:=.builtin .append,args:=#[s,x],argTypes:=#[28,28] })
  (g n cap:Nat) (ps:List (List Int)) (hs:a.eval s=.slice (some ⟨g,0,none⟩) n cap) (hown:OwnP w g n cap ps)
  (gx:Nat) (B:Option Addr) (l c:Nat) (p:List Int) (hx:a.eval x=.slice (some ⟨gx,0,none⟩) 1 1) (hxc:w.cell? ⟨gx,0,none⟩=some (.slice B l c)) (hp:PolyN w B l c p) (hn:n+1<=1000000000000)
  (h:∀ g' cap' w',OwnP w' g' (n+1) cap' (ps ++ [p])->g<=g'->Fr w w' g->wpList Tryz.prog ops Q rest (a.put o.dst (.slice (some ⟨g',0,none⟩) (n+1) cap')) w') :
  wpList Tryz.prog ops Q (o :: rest) a w:=by
 obtain ⟨i0,hi,hz0,hz1,hz2⟩:=info_parts info_poly
 obtain ⟨cs,hk,hsz,hcs⟩:=hown.blk
 have hnl:=hown.len
 refine wpList_plain hgd fun K hK'=>?_
 by_cases hr:n+1<=cap
 ·have hold:∃ A0 l0 c0,w.cell? ⟨g,n,none⟩=some (.slice A0 l0 c0):=by
   obtain ⟨A0,l0,c0,h0⟩:=hcs n (by omega)
   exact ⟨A0,l0,c0,by rw[hk.cell];exact h0⟩
  obtain ⟨A0,l0,c0,hold⟩:=hold
  have hrun:=run_append_room_cells (P:=Tryz.prog) w 28 o.type 26 i0 Tryz.underlying28 hi g 0 n cap ⟨gx,0,none⟩ 1 1 [.slice B l c] (by rw[hz1];rfl)
   (fun j u hj=>by
     match j,hj with
     | 0,hj=>simp at hj;subst hj;simpa [Addr.add] using hxc) (fun u hu=>by simp at hu;subst hu;rfl) hr
   (fun j hj=>by
     have:j=0:=by simpa using hj
     subst this
     rw[hz1,Nat.zero_add,Nat.mul_one,Nat.add_zero,hold];rfl)
   (fun j hj=>hk.frozen _)
  unfold Oper.wp
  simp[execOp,ho,resolve,invoke,builtin,hs,hx,hrun,Result.andThen]
  have ew:w.setCells g (0+n*i0.size) [.slice B l c]=w.setCell ⟨g,n,none⟩ (.slice B l c):=by
   rw[hz1,Nat.zero_add,Nat.mul_one];rfl
  simp only[Nat.zero_add] at ew
  rw[ew]
  have hfr:Fr w (w.setCell ⟨g,n,none⟩ (.slice B l c)) g:=⟨fun h=>h.storeRow hk (fun j hj=>hcs j (by omega)) (by omega) _,fun hb _ h=>h.setCell hb _,by simp[World.setCell]⟩
  refine hK' _ _ (h g cap _ ⟨⟨_,hk.set_ n _,by simpa using hsz,fun j hj=>?_⟩,by rw[List.length_append,hnl];rfl,hr,fun j hj=>?_⟩ (Nat.le_refl _) hfr)
  ·rcases Nat.decEq j n with hne | heq
   ·rw[Array.getElem?_setIfInBounds_ne (by omega)];exact hcs j hj
   ·subst heq;exact ⟨B,l,c,by rw[Array.getElem?_setIfInBounds_self_of_lt (by omega)]⟩
  ·rcases Nat.decEq j n with hne | heq
   ·obtain ⟨A1,l1,c1,h1,h2⟩:=hown.elems j (by omega)
    refine ⟨A1,l1,c1,?_,?_⟩
    ·rw[World.cell?_setCell_other _ _ _ _ (by intro e;injection e;omega)];exact h1
    ·rw[List.getD_eq_getElem?_getD,List.getElem?_append_left (by omega),<- List.getD_eq_getElem?_getD];exact hfr.poly h2
   ·subst heq
    refine ⟨B,l,c,?_,?_⟩
    ·rw[(hk.set_ j _).cell,Array.getElem?_setIfInBounds_self_of_lt (by omega)]
    ·rw[List.getD_eq_getElem?_getD,List.getElem?_append_right (by omega),hnl,Nat.sub_self];exact hfr.poly hp
 ·have hne:n=cap:=by have:=hown.le;omega
  subst hne
  have hol:∃ olds:List Value,olds=cs.toList:=⟨_,rfl⟩
  obtain ⟨olds,hol⟩:=hol
  have hll:olds.length=n:=by rw[hol,Array.length_toList];exact hsz
  have hoj:∀ j,olds[j]?=cs[j]?:=fun j=>by rw[hol,Array.getElem?_toList]
  have hfit:=growslice_fits (need:=n+1) (old:=n) (bytes:=i0.bytes) (by omega) (by rw[hz2];omega)
  have hrun:=run_append_grow (P:=Tryz.prog) w 28 o.type 26 i0 (.slice none 0 0) Tryz.underlying28 hi hz0 ⟨g,0,none⟩ n n olds (by rw[hz1,hll];omega)
   (fun j v hj=>by rw[Addr.add_lit,Nat.zero_add,hk.cell,<- hoj];exact hj)
   ⟨gx,0,none⟩ 1 1 [.slice B l c] (by rw[hz1];rfl)
   (fun j u hj=>by
     match j,hj with
     | 0,hj=>simp at hj;subst hj;simpa [Addr.add] using hxc) (by omega) (by omega) hfit
  have hge:=grownCap_ge w (n+1) n 26
  generalize grownCap w (n+1) n 26=cap' at hrun hge
  unfold Oper.wp
  simp[execOp,ho,resolve,invoke,builtin,hs,hx,hrun,Result.andThen]
  obtain ⟨zs,hzs⟩:∃ zs,zs=Builtin.zeroCells (Value.slice none 0 0).cells (cap'-(n+1)):=⟨_,rfl⟩
  have hzl:zs.size=cap'-(n+1):=by rw[hzs,size_zeroCells];simp[Value.cells]
  have hzv:∀ j,j<zs.size->zs[j]?=some (.slice none 0 0):=fun j hj=>by
   have hj2:j<(cap'-(n+1))*(Value.slice none 0 0).cells.size:=by rw[hzs,size_zeroCells] at hj;exact hj
   have e1:(Value.slice none 0 0).cells.size=1:=rfl
   rw[hzs]
   unfold Builtin.zeroCells
   rw[Array.getElem?_map,Array.getElem?_range,if_pos hj2]
   simp only[Option.map_some,e1,Nat.mod_one]
   rfl
  rw[<- hzs]
  obtain ⟨CS,hCS⟩:∃ CS,CS=(olds ++ [Value.slice B l c]).toArray ++ zs:=⟨_,rfl⟩
  rw[<- hCS]
  have hcz:CS.size=cap':=by rw[hCS,Array.size_append,List.size_toArray,List.length_append,hll,hzl];simp;omega
  have hc1:∀ j,j<n->CS[j]?=cs[j]?:=fun j hj=>by
   rw[hCS,Array.getElem?_append_left (by simp;omega),List.getElem?_toArray,List.getElem?_append_left (by omega)];exact hoj j
  have hc2:CS[n]?=some (.slice B l c):=by
   rw[hCS,Array.getElem?_append_left (by simp;omega),List.getElem?_toArray,List.getElem?_append_right (by omega),hll,Nat.sub_self];rfl
  have hc3:∀ j,n+1<=j->j<cap'->CS[j]?=some (.slice none 0 0):=fun j h1 h2=>by
   have e1:(olds ++ [Value.slice B l c]).toArray.size=n+1:=by simp[hll]
   rw[hCS,Array.getElem?_append_right (by omega),e1]
   exact hzv _ (by omega)
  have hbw:Below w.heap.size w (w.drew.alloc (.cells CS 26)):=((Below.refl _ _).drew).alloc (by simp) _
  have hfr:Fr w (w.drew.alloc (.cells CS 26)) g:=⟨fun h=>h.below ikN hbw,fun hb1 hb2 h=>h.trans (hbw.mono hb2),hbw.size⟩
  have hbk:Blk (w.drew.alloc (.cells CS 26)) w.heap.size 26 CS:=Blk.new w.drew _ _
  refine hK' _ _ (h w.heap.size cap' _ ⟨⟨CS,hbk,hcz,fun j hj=>?_⟩,by rw[List.length_append,hnl];rfl,hge,fun j hj=>?_⟩ (Nat.le_of_lt hk.lt) hfr)
  ·rcases Nat.lt_trichotomy j n with h1 | h1 | h1
   ·rw[hc1 j h1];exact hcs j h1
   ·subst h1;exact ⟨B,l,c,hc2⟩
   ·exact ⟨none,0,0,hc3 j h1 hj⟩
  ·rcases Nat.decEq j n with hne | heq
   ·obtain ⟨A1,l1,c1,h1,h2⟩:=hown.elems j (by omega)
    refine ⟨A1,l1,c1,?_,?_⟩
    ·rw[hbk.cell,hc1 j (by omega),<- hk.cell];exact h1
    ·rw[List.getD_eq_getElem?_getD,List.getElem?_append_left (by omega),<- List.getD_eq_getElem?_getD];exact hfr.poly h2
   ·subst heq
    refine ⟨B,l,c,?_,?_⟩
    ·rw[hbk.cell];exact hc2
    ·rw[List.getD_eq_getElem?_getD,List.getElem?_append_right (by omega),hnl,Nat.sub_self];exact hfr.poly hp
end Go.Proofs.YtpeiiomjnjemjaaGreat
