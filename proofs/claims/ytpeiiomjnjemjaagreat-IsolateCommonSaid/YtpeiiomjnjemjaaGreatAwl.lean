/- The walk of awake of chapter 9. -/
import Derived.Test.YtpeiiomjnjemjaaGreatFed
import Derived.Test.YtpeiiomjnjemjaaGreatIdP
import Derived.RangeFuncOwn
import Derived.Shelf.Abstract
import Derived.Shelf.RegionOpen
import Derived.WalkKit
import Derived.OwnWalkIn
import Derived.TacticsInMore
import Derived.Test.YtpeiiomjnjemjaaGreatRbH
namespace Go.Proofs.YtpeiiomjnjemjaaGreat
open Go.RowKit Go.Shelf
attribute [local go_sem] Oper.semAt_some
theorem pprim_le (p:List Int):(pprim p).length<=p.length:=by
 unfold pprim
 split
 ·simp
 ·rw[List.length_map,ptrim_length];exact plen_le p
def calm (Q:Exit->Act->World->Prop):Exit->Act->World->Prop
 | .panic _,_,_=>False
 | e,a,w=>Q e a w
theorem calm_imp {Q:Exit->Act->World->Prop}:∀ e a w,calm Q e a w->Q e a w:=fun e a w h=>by
 cases e<;>first | exact h | exact h.elim
theorem plst_two {w:World} {A B:Option Addr} {la ca lb cb:Nat} {p q:List Int} (h:PolyAt w A la ca p) (h':PolyAt w B lb cb q):PLst (w.alloc (.cells #[.slice A la ca,.slice B lb cb] 26)) (some ⟨w.heap.size,0,none⟩) 2 2 [p,q]:=by
 refine ⟨rfl,.inr ⟨w.heap.size,0,rfl,by simp,fun j hj=>?_⟩⟩
 have hb:Below w.heap.size w (w.alloc (.cells #[.slice A la ca,.slice B lb cb] 26)):=(Below.refl _ _).alloc (Nat.le_refl _) _
 rcases (by omega:j=0∨j=1) with rfl | rfl
 ·exact ⟨A,la,ca,by go_simp,h.below ikAt hb⟩
 ·exact ⟨B,lb,cb,by go_simp,h'.below ikAt hb⟩
def lastOf:List Int->List (List Int)->List Int
 | p,[]=>p
 | _,s :: r=>if plen s=1 then s else lastOf s r
theorem lastOf_at {p:List Int} {t:List (List Int)} (h:plen p=1∨t=[]):∀ (l:List (List Int)) (d:List Int),(∀ s∈l,plen s≠1)->lastOf d (l ++ p :: t)=p
 | [],d,_=>by
   show (if plen p=1 then p else lastOf p t)=p
   rcases h with h | h
   ·rw[if_pos h]
   ·rw[h];show (if plen p=1 then p else p)=p;split<;>rfl
 | s :: l,d,hl=>by
   show (if plen s=1 then s else lastOf s (l ++ p :: t))=p
   rw[if_neg (hl s (by simp))]
   exact lastOf_at h l s (fun x hx=>hl x (by simp[hx]))
def gpair (f g:List Int):List Int×List Int:=if plen f<plen g then (pprim g,pprim f) else (pprim f,pprim g)
section
variable {W:World} {l:Nat} {ob o':Obj}
theorem cellPut (hl:W.heap[l]?=some ob) (hc:ob.isCells=false) {k o o2:Nat} {v:Value} (hv:W.cell? ⟨k,o,none⟩=some v):(W.putObj l o').cell? ⟨k,o2,none⟩=W.cell? ⟨k,o2,none⟩:=by
 have hne:k≠l:=by
  intro e
  subst e
  unfold World.cell? at hv
  cases ob<;>simp_all [Obj.isCells]
 refine World.cell?_of_block (w:=W) ?_
 exact World.putObj_heap_other (by first | exact hne | exact Ne.symm hne)
theorem DigAt.putObj {A:Option Addr} {len cap:Nat} {ds:List Nat} (hd:DigAt W A len cap ds) (hl:W.heap[l]?=some ob) (hc:ob.isCells=false):DigAt (W.putObj l o') A len cap ds:=by
 refine ⟨hd.length,hd.cap,hd.wd,?_⟩
 rcases hd.cells with e | ⟨b,off,hA,hlt,hcs⟩
 ·exact .inl e
 ·rcases Nat.eq_zero_or_pos len with e | e
  ·exact .inl e
  ·exact .inr ⟨b,off,hA,by simpa using hlt,fun j hj=>(cellPut hl hc (hcs 0 e)).trans (hcs j hj)⟩
theorem IntN.putObj {neg:Bool} {A:Option Addr} {len cap:Nat} {z:Int} (hd:IntN W neg A len cap z) (hl:W.heap[l]?=some ob) (hc:ob.isCells=false):IntN (W.putObj l o') neg A len cap z:=⟨⟨hd.nat.digits.putObj hl hc⟩,hd.sign⟩
theorem PolyP.putObj {A:Option Addr} {len cap:Nat} {p:List Int} (hp:PolyN W A len cap p) (hl:W.heap[l]?=some ob) (hc:ob.isCells=false):PolyN (W.putObj l o') A len cap p:=by
 refine ⟨hp.length,hp.cap,?_⟩
 rcases hp.elems with e | ⟨b,off,hA,hlt,hcs⟩
 ·exact .inl e
 ·refine .inr ⟨b,off,hA,by simpa using hlt,fun j hj=>?_⟩
  obtain ⟨neg,Aj,lj,cj,h1,h2,h3⟩:=hcs j hj
  exact ⟨neg,Aj,lj,cj,(cellPut hl hc h1).trans h1,(cellPut hl hc h1).trans h2,h3.putObj hl hc⟩
end
theorem Keep.belowB {g:Nat} {W0 A C:World} {B:Nat} (h:Keep g W0 A) (hb:Below B A C) (hB:W0.heap.size<=B) (hg:g<B):Keep g W0 C :=
 ⟨hb.os.trans h.os,hb.tape.trans h.tape,hb.output.trans h.output,Nat.le_trans h.size hb.size,fun k _ hk ho hc=>(hb.block k (Nat.lt_of_lt_of_le (Array.getElem?_eq_some_iff.1 ho).1 hB)).trans (h.same k _ hk ho hc),fun hx=>by obtain ⟨A',l,c,hx⟩:=h.box hx;exact ⟨A',l,c,hx.below hb hg⟩⟩
theorem slo_one (A:Option Addr) (l c:Nat) (t:TypeId) (fr:Nat×Nat):SlO (.cells #[.slice A l c] t fr):=⟨by simp,fun j hj=>by
 have:j=0:=by simpa using hj
 subst this
 exact ⟨A,l,c,rfl⟩⟩
theorem Keep.setBox {g:Nat} {W:World} {A A':Option Addr} {l c l' c':Nat} (h:Blk W g 26 #[.slice A l c]):Keep g W (W.setCell ⟨g,0,none⟩ (.slice A' l' c')) :=
 ⟨rfl,rfl,rfl,by simp[World.setCell],fun k o hk ho _=>by
   have hne:k≠g:=by
    intro e
    subst e
    unfold Blk at h
    rw[h] at ho
    cases ho
    exact hk (slo_one _ _ _ _ _)
   rw[<- ho];exact Below.heap_setCell W ⟨g,0,none⟩ _ k hne,fun _=>⟨A',l',c',by have:=h.set_ 0 (.slice A' l' c');simpa using this⟩⟩
def lastv (pre:List El):Value:=match pre.getLast? with
 | none=>.slice none 0 0
 | some x=>x.val
theorem lastv_snoc (pre:List El) (x:El):lastv (pre ++ [x])=x.val:=by simp[lastv]
theorem lastv_slice (pre:List El):∃ A l c,lastv pre=.slice A l c:=by
 unfold lastv
 cases pre.getLast? with
 | none=>exact ⟨_,_,_,rfl⟩
 | some x=>exact ⟨_,_,_,rfl⟩
structure LI (gl b:Nat) (W0:World) (pre:List El) (W:World):Prop where
 blk:Blk W gl 26 #[lastv pre]
 keep:Keep gl W0 W
 bel:Below b W0 W
 le:b<=gl
 le2:b<=W0.heap.size
def GI (gl b:Nat) (W0:World) (pre:List El) (W:World):Prop:=(∀ x∈pre,plen x.p≠1)/\LI gl b W0 pre W
def GX (gl b:Nat) (W0:World) (c:Nat) (pre:List El) (W:World):Prop:=c=1/\(∃ (ys:List El) (x:El),pre=ys ++ [x]/\(∀ y∈ys,plen y.p≠1)/\plen x.p=1)/\LI gl b W0 pre W
section
variable {gl b:Nat} {W0 W W':World} {pre:List El}
theorem LI.put (h:LI gl b W0 pre W) {l:Nat} {o o':Obj} (hl:W.heap[l]?=some o) (hc:o.isCells=false) (hle:b<=l):LI gl b W0 pre (W.putObj l o'):=by
 obtain ⟨A,m,c,e⟩:=lastv_slice pre
 have hb:=h.blk
 rw[e] at hb
 refine ⟨?_,h.keep.trans (Keep.putObj gl hl hc),h.bel.trans ⟨rfl,rfl,rfl,by simp,fun k hk=>World.putObj_heap_other (by omega)⟩,h.le,h.le2⟩
 have hne:gl≠l:=by
  intro x
  subst x
  unfold Blk at hb
  rw[hb] at hl
  cases hl
  cases hc
 have:=h.blk
 unfold Blk at this ⊢
 rw[World.putObj_heap_other (by first | exact hne | exact Ne.symm hne)]
 exact this
theorem LI.alloc (h:LI gl b W0 pre W) (o:Obj):LI gl b W0 pre (W.alloc o) :=
 ⟨h.blk.alloc o,h.keep.trans (Keep.below gl ((Below.refl _ _).alloc (Nat.le_refl _) _)),h.bel.alloc (Nat.le_trans h.le2 h.keep.size) _,h.le,h.le2⟩
theorem LI.below (h:LI gl b W0 pre W) {B:Nat} (hb:Below B W W') (hB:W0.heap.size<=B) (hg:gl<B):LI gl b W0 pre W' :=
 ⟨h.blk.below hb hg,h.keep.belowB hb hB hg,h.bel.trans (hb.mono (Nat.le_trans h.le2 hB)),h.le,h.le2⟩
theorem LI.set_ (h:LI gl b W0 pre W) (x:El):LI gl b W0 (pre ++ [x]) (W.setCell ⟨gl,0,none⟩ x.val)/\Keep gl W (W.setCell ⟨gl,0,none⟩ x.val):=by
 obtain ⟨A,m,c,e⟩:=lastv_slice pre
 have hb:=h.blk
 rw[e] at hb
 have hk:=Keep.setBox (A':=x.A) (l':=x.l) (c':=x.c) hb
 refine ⟨⟨?_,h.keep.trans hk,h.bel.setCell (p:=⟨gl,0,none⟩) h.le _,h.le,h.le2⟩,hk⟩
 rw[lastv_snoc]
 have:=hb.set_ 0 x.val
 simpa using this
end
set_option maxRecDepth 100000 in
set_option maxHeartbeats 8000000 in
theorem gcd_walk {I J:IntPred} (hI:IK I) (hJ:IK J) (A:Option Addr) (la ca:Nat) (f:List Int) (B:Option Addr) (lb cb:Nat) (g:List Int) (w:World) (hf:PolyP I w A la ca f) (hg:PolyP J w B lb cb g) (hsf:SmP f) (hsg:SmP g) (hla:la<=1000000) (hlb:lb<=1000000)
  (f1:1<=plen f) (g1:1<=plen g) (k:Nat) (sF:FitP (pprim f)) (sG:FitP (pprim g))
  (hok:rOK k ⟨ptrim (gpair f g).1,ptrim (gpair f g).2,-1,(-1)^(plen (gpair f g).1-plen (gpair f g).2+1)⟩) (hsq:∀ p∈rseq k (gpair f g).1 (gpair f g).2,SmP p/\p.length<=1000000/\SmP (pprim p)/\SmP (psc (pconts 0 [f,g]:Int) (pprim p))) (hfc:Fit (pconts 0 [f,g]:Int)) :
  CallsIn Fence.wide 9 Tryz.prog 39 #[.slice A la ca,.slice B lb cb] w fun e w'=>∃ A1 l1 c1,e=.returned (.slice A1 l1 c1)/\PolyN w' A1 l1 c1 (ptrim (psc (pconts 0 [f,g]:Int) (pprim (lastOf [] (rseq k (gpair f g).1 (gpair f g).2)))))/\Below w.heap.size w w':=by
 have Hok:=Lh hok
 have Hsq:=Lh hsq
 clear hok hsq
 have Hf:=Lh hf
 have Hg:=Lh hg
 obtain ⟨df,hdf⟩:∃ d,plen f=d+1:=⟨plen f-1,by omega⟩
 obtain ⟨dg,hdg⟩:∃ d,plen g=d+1:=⟨plen g-1,by omega⟩
 have hfb:df<1000000:=by have:=plen_le f;have:=hf.length;omega
 have hgb:dg<1000000:=by have:=plen_le g;have:=hg.length;omega
 have hfl:=hf.length
 have hgl:=hg.length
 have Hdf:=Lh hdf
 have Hdg:=Lh hdg
 clear hf hg
 refine callsIn_of_wp_marks Tryz.func39 rfl trivial ?_ rfl
 simp only[Tryz.ntmps39,List.size_toArray,List.length_cons,List.length_nil,Nat.reduceAdd,Nat.reduceSub,Array.replicate_succ,Array.replicate_zero,List.push_toArray,List.append_toArray,List.nil_append,List.cons_append]
 clear hdf hdg f1 g1 hfl hgl
 gi_wp2_with fail
 refine ⟨trivial,(callsIn_wide.2 (degree_any _ _ _ _ _ (Hf.out.at_ hI) hsf (by omega))).mono ?_⟩
 rintro e w1 ⟨rfl,hb1⟩
 rw[Hdf.out,show ((df+1:Nat):Int)-1=(df:Int) by omega]
 have Hf1:=Lh (Hf.out.below hI hb1)
 have Hg1:=Lh (Hg.out.below hJ hb1)
 have Hb1:=Lh hb1
 have df0:decide ((df:Int)<0)=false:=decide_eq_false (by omega)
 have dg0:decide ((dg:Int)<0)=false:=decide_eq_false (by omega)
 clear hb1 Hf Hg
 gi_wp2_with fail
 refine ⟨trivial,(callsIn_wide.2 (degree_any _ _ _ _ _ (Hg1.out.at_ hJ) hsg (by omega))).mono ?_⟩
 rintro e w2 ⟨rfl,hb2⟩
 rw[Hdg.out,show ((dg+1:Nat):Int)-1=(dg:Int) by omega]
 have Hf2:=Lh (Hf1.out.below hI hb2)
 have Hg2:=Lh (Hg1.out.below hJ hb2)
 have Hb2:=Lh (Hb1.out.trans (hb2.mono Hb1.out.size))
 clear hb2 Hf1 Hg1 Hb1
 gi_wp2_with fail
 have hb2a:Below w2.heap.size w2 (w2.alloc (.cells #[.slice A la ca,.slice B lb cb] 26)):=(Below.refl _ _).alloc (Nat.le_refl _) _
 have hls:=plst_two (Hf2.out.at_ hI) (Hg2.out.at_ hJ)
 have hfl:=Hf2.out.length
 have hgl:=Hg2.out.length
 have Hf3:=Lh (Hf2.out.below hI hb2a)
 have Hg3:=Lh (Hg2.out.below hJ hb2a)
 have Hb3:=Lh (Hb2.out.trans (hb2a.mono Hb2.out.size))
 clear hb2a Hf2 Hg2 Hb2
 refine ⟨trivial,(callsIn_wide.2 (contents_any _ _ _ _ _ hls (by intro q hq;simp only[List.mem_cons,List.not_mem_nil,or_false] at hq;rcases hq with rfl | rfl<;>assumption) (by intro q hq;simp only[List.mem_cons,List.not_mem_nil,or_false] at hq;rcases hq with rfl | rfl<;>omega) (by omega))).mono ?_⟩
 rintro e w4 ⟨n4,A4,l4,c4,rfl,h4,hb4⟩
 have hba:Below w4.heap.size w4 (w4.alloc (ibox n4 A4 l4 c4)):=(Below.refl _ _).alloc (Nat.le_refl _) _
 have hb5:=hb4.trans (hba.mono hb4.size)
 have HC:=Lh (IBox.make h4)
 have Hf5:=Lh (Hf3.out.below hI hb5)
 have Hg5:=Lh (Hg3.out.below hJ hb5)
 have Hb5:=Lh (Hb3.out.trans (hb5.mono Hb3.out.size))
 obtain ⟨gc,hgc⟩:∃ b,b=w4.heap.size:=⟨_,rfl⟩
 rw[<- hgc] at HC
 have Hgc:=Lh hgc
 clear hls hfl hgl h4 hba hb5 hb4 Hf3 Hg3 Hb3 hgc
 gi_wp2_with fail
 rw[<- Hgc.out]
 refine ⟨trivial,(callsIn_wide.2 (primitive_any hI _ _ _ _ _ Hf5.out hsf (by omega))).mono ?_⟩
 rintro e w6 ⟨A1,l1,c1,rfl,h6,hb6⟩
 have Hp6:=Lh h6
 have Hg6:=Lh (Hg5.out.below hJ hb6)
 have HC6:=Lh (HC.out.move hb6)
 have Hb6:=Lh (Hb5.out.trans (hb6.mono Hb5.out.size))
 clear h6 hb6 Hf5 Hg5 HC Hb5
 gi_wp2_with fail
 refine ⟨trivial,(callsIn_wide.2 (primitive_any hJ _ _ _ _ _ Hg6.out hsg (by omega))).mono ?_⟩
 rintro e w7 ⟨A2,l2,c2,rfl,h7,hb7⟩
 have Hq:=Lh h7
 have Hp:=Lh (Hp6.out.below ikN hb7)
 have HC7:=Lh (HC6.out.move hb7)
 have Hb7:=Lh (Hb6.out.trans (hb7.mono Hb6.out.size))
 have pl1:l1=plen f:=by have h:=Hp.out.length;have:plen f≠0:=(by have:=Hdf.out;omega);rw[pprim,if_neg this,List.length_map,ptrim_length] at h;exact h.symm
 have pl2:l2=plen g:=by have h:=Hq.out.length;have:plen g≠0:=(by have:=Hdg.out;omega);rw[pprim,if_neg this,List.length_map,ptrim_length] at h;exact h.symm
 have hl1:l1<=1000000:=by have:=Hdf.out;omega
 have hl2:l2<=1000000:=by have:=Hdg.out;omega
 have Hpl1:=Lh pl1
 have Hpl2:=Lh pl2
 clear h7 hb7 Hp6 Hg6 HC6 Hb6 pl1 pl2
 by_cases hlt:l1<l2
 ·have hlti:(l1:Int)<(l2:Int):=by omega
  gi_wp2_with fail
  obtain ⟨W,hW⟩:∃ W,W=w7.alloc (.cells #[.slice none 0 0] 26):=⟨_,rfl⟩
  obtain ⟨gl,hgl⟩:∃ b,b=w7.heap.size:=⟨_,rfl⟩
  have hba:Below w7.heap.size w7 W:=by rw[hW];exact (Below.refl _ _).alloc (Nat.le_refl _) _
  have hbl:Blk W gl 26 #[.slice none 0 0]:=by rw[hW,hgl];exact Blk.new _ _ _
  rw[<- hW,<- hgl]
  have Hp8:=Lh (Hp.out.below ikN hba)
  have Hq8:=Lh (Hq.out.below ikN hba)
  have HC8:=Lh (HC7.out.move hba)
  have Hb8:=Lh (Hb7.out.trans (hba.mono Hb7.out.size))
  have hglw:w.heap.size<=gl:=by rw[hgl];exact Hb7.out.size
  clear hW hgl hba Hp Hq HC7 Hb7
  refine ⟨trivial,(callsIn_wide.2 (remainders_any _ _ _ _ _ _ W)).mono ?_⟩
  rintro e w8 ⟨rfl,hw8⟩
  have hba:Below W.heap.size W w8:=by rw[hw8];exact ((Below.refl _ _).alloc (Nat.le_refl _) _).alloc (by simp) _
  have hb1:Blk w8 W.heap.size 26 #[.slice A2 l2 c2]:=by rw[hw8];exact (Blk.new _ _ _).alloc _
  have hb2:Blk w8 (W.heap.size+1) 26 #[.slice A1 l1 c1]:=by rw[hw8];have:=Blk.new (W.alloc (.cells #[.slice A2 l2 c2] 26)) 26 #[.slice A1 l1 c1];simp only[World.size_alloc] at this;exact this
  have hbl8:=hbl.below hba hbl.lt
  have Hp9:=Lh (Hp8.out.below ikN hba)
  have Hq9:=Lh (Hq8.out.below ikN hba)
  have HC9:=Lh (HC8.out.move hba)
  have Hb9:=Lh (Hb8.out.trans (hba.mono Hb8.out.size))
  obtain ⟨gf,hgf⟩:∃ b,b=W.heap.size:=⟨_,rfl⟩
  obtain ⟨gg,hgg⟩:∃ b,b=W.heap.size+1:=⟨_,rfl⟩
  rw[<- hgf] at hb1
  rw[<- hgg] at hb2
  rw[<- hgg,<- hgf]
  have hws:=Hb9.out.size
  have HB1:=Lh hb1
  have HB2:=Lh hb2
  have HBL:=Lh hbl8
  have hgl8:=hbl8.lt
  clear hba hw8 hgf hgg hb1 hb2 hbl8 hbl Hp8 Hq8 HC8 Hb8
  gi_wp2_with fail
  have hpair:gpair f g=(pprim g,pprim f):=by unfold gpair;rw[if_pos];rw[<- Hpl1.out,<- Hpl2.out];exact hlt
  rw[hpair] at Hok Hsq
  dsimp only at Hok Hsq
  refine wpIn_fed rfl (enters_of Tryz.func89 (by kernel_rfl) rfl) (remainders_feeds gf gg gl ⟨A2,l2,c2,pprim g⟩ ⟨A1,l1,c1,pprim f⟩ w8 (Hq9.out.at_ ikN) (Hp9.out.at_ ikN) HB1.out HB2.out sG sF hl2 hl1 ⟨_,_,_,HBL.out⟩ k Hok.out) rfl
   ?pre1 (GI gl w.heap.size w8) (GX gl w.heap.size w8)
   (fun s W l o o' h hl hc hle=>⟨h.1,h.2.put hl hc (Nat.le_trans hws hle)⟩) (fun c s W l o o' h hl hc hle=>⟨h.1,h.2.1,h.2.2.put hl hc (Nat.le_trans hws hle)⟩) (fun s W o h=>⟨h.1,h.2.alloc o⟩)
   (fun s A B hb h=>⟨h.1,h.2.below hb.bel (by omega) (by omega)⟩) (fun c s A B hb h=>⟨h.1,h.2.1,h.2.2.below hb.bel (by omega) (by omega)⟩)
   ⟨(fun x hx=>by cases hx),HBL.out,Keep.refl _ _,Below.refl _ _,hglw,hws⟩ (fun x=>{ tmps:=#[.slice A la ca,.slice B lb cb,undef,undef,.slice none 0 0,.pointer (some ⟨gc,0,none⟩),.slice A2 l2 c2,.slice A1 l1 c1,.pointer (some ⟨gl,0,none⟩),x.val,.bool false,.slice A la ca,.int .i64 (df:Int),.bool false,undef,undef,.bool false,.slice B lb cb,.int .i64 (dg:Int),.bool false,undef,undef,.slice A la ca,.slice B lb cb,.slice (some ⟨w2.heap.size,0,none⟩) 2 2,.agg #[.bool n4,.slice A4 l4 c4],.slice A la ca,.slice A1 l1 c1,.slice B lb cb,.slice A2 l2 c2,.slice A1 l1 c1,.int .i64 (l1:Int),.slice A2 l2 c2,.int .i64 (l2:Int),.bool true,.slice A2 l2 c2,.slice A1 l1 c1,.slice A2 l2 c2,.slice A1 l1 c1,.func (.func 89) #[] #[.pointer (some ⟨gf,0,none⟩),.pointer (some ⟨gg,0,none⟩)],x.val,undef,undef,undef,undef,undef,undef,undef,undef],defers:=[] }) ?assign1 ?body1 ?done1 ?stop1
  case pre1 =>
   rintro x W l o o' ⟨h1,h2⟩ hl hc
   exact ⟨PolyP.putObj h1 hl hc,h2⟩
  case assign1 =>
   intro l m x W K hK
   gi_wp2_with (rw[Oper.semAt_eq _ _ _ (fun c h=>by cases h)];go_simp;try go_bits)
   exact hK
  case body1 =>
   rintro l m pre ⟨Ax,lx,cx,px⟩ W ⟨hn,hI⟩ ⟨hx,hmem⟩ _ hs
   obtain ⟨Ao,lo,co,e⟩:=lastv_slice pre
   have hblk:=hI.blk
   rw[e] at hblk
   have q0:W.cell? ⟨gl,0,none⟩=some (.slice Ao lo co):=hblk.cell 0
   have q1:=hblk.frozen 0
   obtain ⟨hS2,hS3⟩:=hI.set_ ⟨Ax,lx,cx,px⟩
   have hx2:PolyN (W.setCell ⟨gl,0,none⟩ (.slice Ax lx cx)) Ax lx cx px:=PolyP.keep hx hS3 hblk
   have hsm:SmP px:=(Hsq.out _ hmem).1
   have hlx:lx<=1000000:=by have h:=(Hsq.out _ hmem).2.1;have:=hx.length;dsimp only at *;omega
   have HS2:=Lh hS2
   have HS3:=Lh hS3
   have Hx2:=Lh hx2
   have Hn:=Lh hn
   clear hblk hS2 hS3 hx2 hx hmem hn hI e
   dsimp only [El.val]
   gi_wp2_with fail
   refine ⟨trivial,(fun h=>by cases h),(CallsIn.inRound l (callsIn_wide.2 (degree_any _ _ _ _ _ (Hx2.out.at_ ikN) hsm (by omega)))).mono ?_⟩
   rintro e w10 ⟨rfl,hb10⟩
   have hB0:w10.heap[w8.heap.size]?=W.heap[w8.heap.size]?:=(hb10.block _ (by simp[World.setCell];omega)).trans (Below.heap_setCell _ _ _ _ (by show w8.heap.size≠gl;omega))
   have hB1:w10.heap[w8.heap.size+1]?=W.heap[w8.heap.size+1]?:=(hb10.block _ (by simp[World.setCell];omega)).trans (Below.heap_setCell _ _ _ _ (by show w8.heap.size+1≠gl;omega))
   have hK1:=HS3.out.trans (Keep.below gl hb10)
   have hL1:=HS2.out.below hb10 (by simp[World.setCell];omega) (by simp[World.setCell];omega)
   have Hall:=Lh (And.intro hB0 (And.intro hB1 (And.intro hK1 hL1)))
   clear hB0 hB1 hK1 hL1 hb10
   obtain ⟨n,hn⟩:∃ n,n=plen px:=⟨_,rfl⟩
   rw[<- hn]
   have Hpn:=Lh hn
   clear hn
   by_cases h1:n=1
   ·subst h1
    gi_wp2
    exact ⟨Hall.out.1,Hall.out.2.1,Hall.out.2.2.1,rfl,⟨pre,_,rfl,Hn.out,Hpn.out.symm⟩,Hall.out.2.2.2⟩
   ·have h2:¬ ((n:Int)-1=0):=by omega
    gi_wp2
    refine ⟨Hall.out.1,Hall.out.2.1,Hall.out.2.2.1,fun y hy=>?_,Hall.out.2.2.2⟩
    rcases List.mem_append.1 hy with q | q
    ·exact Hn.out y q
    ·rw[List.mem_singleton.1 q]
     show plen px≠1
     rw[<- Hpn.out]
     exact h1
  case done1 =>
   rintro D xs W hD hS ⟨hn,hI⟩ hP hK
   obtain ⟨ys,⟨Ax,lx,cx,px⟩,rfl⟩:∃ (ys:List El) (x:El),xs=ys ++ [x]:=by
    rcases xs.eq_nil_or_concat with h | ⟨ys,x,h⟩
    ·rw[h] at hS;cases hS
    ·exact ⟨ys,x,by rw[h];simp⟩
   obtain ⟨hxo,hxm⟩:=hP ⟨Ax,lx,cx,px⟩ (by simp)
   have hsm:SmP px:=(Hsq.out _ hxm).1
   have hlx:lx<=1000000:=by have h:=(Hsq.out _ hxm).2.1;have:=hxo.length;dsimp only at *;omega
   have q0:W.cell? ⟨gl,0,none⟩=some (.slice Ax lx cx):=by have h:=hI.blk;rw[lastv_snoc] at h;exact h.cell 0
   have sm1:=(Hsq.out _ hxm).2.2.1
   have sm2:=(Hsq.out _ hxm).2.2.2
   dsimp only at sm1 sm2
   have HC:=Lh (HC9.out.keep hI.keep HBL.out)
   have k0:=HC.out.c0
   have k1:=HC.out.c1
   have Hx:Hid (PolyN W Ax lx cx px):=Lh hxo
   have HK:=Lh hK
   have HI:=Lh hI
   have HSq:=Lh hS
   have Hn:=Lh hn
   have hDl:D<W.heap.size:=(Array.getElem?_eq_some_iff.1 hK).1
   clear hxo hxm hK hI hS hn hP
   gi_wp2_with fail
   refine wpIn_mono ?_ calm_imp
   refine wpIn_wide.2 ?_
   refine wp_region_held_drew (S:=fun w'=>w'.cell? ⟨gl,0,none⟩=some (.slice Ax lx cx)/\w'.cell? ⟨gc,0,none⟩=some (.bool n4)/\w'.cell? ⟨gc,1,none⟩=some (.slice A4 l4 c4)) (by kernel_rfl) (by (try dsimp only);go_keep) (fun hHeld=>?_)
   (refine tq 0 ?_;simp only[put_lit,List.set])
   (refine tq 2 ?_;simp only[put_lit,List.set])
   refine rdy 1 (fun K hK=>?_);go_simp
   refine (primitive_any ikN _ _ _ _ _ ?_ hsm (by omega)).mono ?_
   ·exact Hx.out.below ikN Bel.go
   rintro e w12 ⟨A12,l12,c12,rfl,h12,hb12⟩
   obtain ⟨hcx,hfx⟩:=bcellS hb12
   replace HC:=Lh (HC.out.move (Below.trans Bel.go (hb12.mono (by simp<;>omega))))
   have Hw12:=Lh ((Hb9.out.trans HI.out.bel).trans ((Below.trans Bel.go (hb12.mono (by simp<;>omega))).mono (Nat.le_trans hws HI.out.keep.size)))
   have HD12:Hid (w12.heap[D]?=some (Obj.deferred (some []))):=Lh (((Below.trans Bel.go (hb12.mono (by simp<;>omega))).block D hDl).trans HK.out)
   have H12:=Lh h12
   have hl12:l12<=1000000:=by have h:=h12.length;have h2:=pprim_le px;have:=Hx.out.length;omega
   have hDl2:D<w12.heap.size:=(Array.getElem?_eq_some_iff.1 HD12.out).1
   refine hK.out _ _ ?_ (fun _=>?_)
   ·((try dsimp only);repeat' apply And.intro)<;>(rw[hcx _ (by go_simp)];go_simp)
   clear h12 hb12
   clear hHeld hK K hcx hfx;rename_i hHeld
   refine rdy 3 (fun K hK=>?_);go_simp
   refine (scale_any ikN _ _ _ _ _ _ _ _ _ _ ?_ ?_ sm1 hfc.sm (fun k=>hfc.mulok _) sm2 (by omega)).mono ?_
   ·exact H12.out.below ikN Bel.go
   ·exact HC.out.hz.below Bel.go
   rintro e w14 ⟨A14,l14,c14,rfl,h14,hb14⟩
   obtain ⟨hcx,hfx⟩:=bcellS hb14
   have Hw14:=Lh (Hw12.out.trans ((Below.trans Bel.go (hb14.mono (by simp<;>omega))).mono Hw12.out.size))
   have HD14:Hid (w14.heap[D]?=some (Obj.deferred (some []))):=Lh (((Below.trans Bel.go (hb14.mono (by simp<;>omega))).block D hDl2).trans HD12.out)
   have H14:=Lh h14
   refine hK.out _ _ ?_ (fun _=>?_)
   ·((try dsimp only);repeat' apply And.intro)<;>(rw[hcx _ (by go_simp)];go_simp)
   clear h14 hb14
   clear hHeld hK K hcx hfx;rename_i hHeld
   (refine tq 4 ?_;simp only[put_lit,List.set])
   refine wpAnyH_done (by kernel_rfl) ?_ _
   unfold calm
   gi_wp2
   refine ⟨by simp,.inl ⟨_,_,rfl,run_takeDeferred HD14.out,?_⟩⟩
   refine ⟨_,results_tmp rfl _ _ _,A14,l14,c14,rfl,?_⟩
   have hlast:lastOf [] (rseq k (gpair f g).1 (gpair f g).2)=px:=by
    rw[hpair]
    have h:=HSq.out
    dsimp only at h ⊢
    rw[<- h,List.map_append]
    refine lastOf_at (t:=[]) (.inr rfl) _ _ (fun s hs=>?_)
    obtain ⟨y,hy,rfl⟩:=List.mem_map.1 hs
    exact Hn.out y (by simp[hy])
   rw[hlast]
   exact ⟨PolyP.putObj H14.out HD14.out rfl,Hw14.out.trans ⟨rfl,rfl,rfl,by simp,fun k hk=>World.putObj_heap_other (by omega)⟩⟩
  case stop1 =>
   rintro D c pre W hD ⟨hS0,hS⟩ ⟨rfl,⟨ys,⟨Ax,lx,cx,px⟩,rfl,hn,hx⟩,hI⟩ hP hK
   obtain ⟨hxo,hxm⟩:=hP ⟨Ax,lx,cx,px⟩ (by simp)
   have hsm:SmP px:=(Hsq.out _ hxm).1
   have hlx:lx<=1000000:=by have h:=(Hsq.out _ hxm).2.1;have:=hxo.length;dsimp only at *;omega
   have q0:W.cell? ⟨gl,0,none⟩=some (.slice Ax lx cx):=by have h:=hI.blk;rw[lastv_snoc] at h;exact h.cell 0
   have sm1:=(Hsq.out _ hxm).2.2.1
   have sm2:=(Hsq.out _ hxm).2.2.2
   dsimp only at sm1 sm2
   have HC:=Lh (HC9.out.keep hI.keep HBL.out)
   have k0:=HC.out.c0
   have k1:=HC.out.c1
   have Hx:Hid (PolyN W Ax lx cx px):=Lh hxo
   have HK:=Lh hK
   have HI:=Lh hI
   have HSq:=Lh hS
   have Hn:=Lh hn
   have hDl:D<W.heap.size:=(Array.getElem?_eq_some_iff.1 hK).1
   clear hxo hxm hK hI hS hn hP
   gi_wp2_with fail
   refine wpIn_mono ?_ calm_imp
   refine wpIn_wide.2 ?_
   refine wp_region_held_drew (S:=fun w'=>w'.cell? ⟨gl,0,none⟩=some (.slice Ax lx cx)/\w'.cell? ⟨gc,0,none⟩=some (.bool n4)/\w'.cell? ⟨gc,1,none⟩=some (.slice A4 l4 c4)) (by kernel_rfl) (by (try dsimp only);go_keep) (fun hHeld=>?_)
   (refine tq 0 ?_;simp only[put_lit,List.set])
   (refine tq 2 ?_;simp only[put_lit,List.set])
   refine rdy 1 (fun K hK=>?_);go_simp
   refine (primitive_any ikN _ _ _ _ _ ?_ hsm (by omega)).mono ?_
   ·exact Hx.out.below ikN Bel.go
   rintro e w12 ⟨A12,l12,c12,rfl,h12,hb12⟩
   obtain ⟨hcx,hfx⟩:=bcellS hb12
   replace HC:=Lh (HC.out.move (Below.trans Bel.go (hb12.mono (by simp<;>omega))))
   have Hw12:=Lh ((Hb9.out.trans HI.out.bel).trans ((Below.trans Bel.go (hb12.mono (by simp<;>omega))).mono (Nat.le_trans hws HI.out.keep.size)))
   have HD12:Hid (w12.heap[D]?=some (Obj.deferred (some []))):=Lh (((Below.trans Bel.go (hb12.mono (by simp<;>omega))).block D hDl).trans HK.out)
   have H12:=Lh h12
   have hl12:l12<=1000000:=by have h:=h12.length;have h2:=pprim_le px;have:=Hx.out.length;omega
   have hDl2:D<w12.heap.size:=(Array.getElem?_eq_some_iff.1 HD12.out).1
   refine hK.out _ _ ?_ (fun _=>?_)
   ·((try dsimp only);repeat' apply And.intro)<;>(rw[hcx _ (by go_simp)];go_simp)
   clear h12 hb12
   clear hHeld hK K hcx hfx;rename_i hHeld
   refine rdy 3 (fun K hK=>?_);go_simp
   refine (scale_any ikN _ _ _ _ _ _ _ _ _ _ ?_ ?_ sm1 hfc.sm (fun k=>hfc.mulok _) sm2 (by omega)).mono ?_
   ·exact H12.out.below ikN Bel.go
   ·exact HC.out.hz.below Bel.go
   rintro e w14 ⟨A14,l14,c14,rfl,h14,hb14⟩
   obtain ⟨hcx,hfx⟩:=bcellS hb14
   have Hw14:=Lh (Hw12.out.trans ((Below.trans Bel.go (hb14.mono (by simp<;>omega))).mono Hw12.out.size))
   have HD14:Hid (w14.heap[D]?=some (Obj.deferred (some []))):=Lh (((Below.trans Bel.go (hb14.mono (by simp<;>omega))).block D hDl2).trans HD12.out)
   have H14:=Lh h14
   refine hK.out _ _ ?_ (fun _=>?_)
   ·((try dsimp only);repeat' apply And.intro)<;>(rw[hcx _ (by go_simp)];go_simp)
   clear h14 hb14
   clear hHeld hK K hcx hfx;rename_i hHeld
   (refine tq 4 ?_;simp only[put_lit,List.set])
   refine wpAnyH_done (by kernel_rfl) ?_ _
   unfold calm
   gi_wp2
   refine ⟨by simp,.inl ⟨_,_,rfl,run_takeDeferred HD14.out,?_⟩⟩
   refine ⟨_,results_tmp rfl _ _ _,A14,l14,c14,rfl,?_⟩
   have hlast:lastOf [] (rseq k (gpair f g).1 (gpair f g).2)=px:=by
    rw[hpair]
    obtain ⟨t,h⟩:=HSq.out
    dsimp only at h ⊢
    rw[<- h,List.map_append,List.append_assoc]
    refine lastOf_at (t:=t) (.inl hx) _ _ (fun s hs=>?_)
    obtain ⟨y,hy,rfl⟩:=List.mem_map.1 hs
    exact Hn.out y hy
   rw[hlast]
   exact ⟨PolyP.putObj H14.out HD14.out rfl,Hw14.out.trans ⟨rfl,rfl,rfl,by simp,fun k hk=>World.putObj_heap_other (by omega)⟩⟩
 ·have hlti:¬ (l1:Int)<(l2:Int):=by omega
  gi_wp2_with fail
  obtain ⟨W,hW⟩:∃ W,W=w7.alloc (.cells #[.slice none 0 0] 26):=⟨_,rfl⟩
  obtain ⟨gl,hgl⟩:∃ b,b=w7.heap.size:=⟨_,rfl⟩
  have hba:Below w7.heap.size w7 W:=by rw[hW];exact (Below.refl _ _).alloc (Nat.le_refl _) _
  have hbl:Blk W gl 26 #[.slice none 0 0]:=by rw[hW,hgl];exact Blk.new _ _ _
  rw[<- hW,<- hgl]
  have Hp8:=Lh (Hp.out.below ikN hba)
  have Hq8:=Lh (Hq.out.below ikN hba)
  have HC8:=Lh (HC7.out.move hba)
  have Hb8:=Lh (Hb7.out.trans (hba.mono Hb7.out.size))
  have hglw:w.heap.size<=gl:=by rw[hgl];exact Hb7.out.size
  clear hW hgl hba Hp Hq HC7 Hb7
  refine ⟨trivial,(callsIn_wide.2 (remainders_any _ _ _ _ _ _ W)).mono ?_⟩
  rintro e w8 ⟨rfl,hw8⟩
  have hba:Below W.heap.size W w8:=by rw[hw8];exact ((Below.refl _ _).alloc (Nat.le_refl _) _).alloc (by simp) _
  have hb1:Blk w8 W.heap.size 26 #[.slice A1 l1 c1]:=by rw[hw8];exact (Blk.new _ _ _).alloc _
  have hb2:Blk w8 (W.heap.size+1) 26 #[.slice A2 l2 c2]:=by rw[hw8];have:=Blk.new (W.alloc (.cells #[.slice A1 l1 c1] 26)) 26 #[.slice A2 l2 c2];simp only[World.size_alloc] at this;exact this
  have hbl8:=hbl.below hba hbl.lt
  have Hp9:=Lh (Hp8.out.below ikN hba)
  have Hq9:=Lh (Hq8.out.below ikN hba)
  have HC9:=Lh (HC8.out.move hba)
  have Hb9:=Lh (Hb8.out.trans (hba.mono Hb8.out.size))
  obtain ⟨gf,hgf⟩:∃ b,b=W.heap.size:=⟨_,rfl⟩
  obtain ⟨gg,hgg⟩:∃ b,b=W.heap.size+1:=⟨_,rfl⟩
  rw[<- hgf] at hb1
  rw[<- hgg] at hb2
  rw[<- hgg,<- hgf]
  have hws:=Hb9.out.size
  have HB1:=Lh hb1
  have HB2:=Lh hb2
  have HBL:=Lh hbl8
  have hgl8:=hbl8.lt
  clear hba hw8 hgf hgg hb1 hb2 hbl8 hbl Hp8 Hq8 HC8 Hb8
  gi_wp2_with fail
  have hpair:gpair f g=(pprim f,pprim g):=by unfold gpair;rw[if_neg];rw[<- Hpl1.out,<- Hpl2.out];exact hlt
  rw[hpair] at Hok Hsq
  dsimp only at Hok Hsq
  refine wpIn_fed rfl (enters_of Tryz.func89 (by kernel_rfl) rfl) (remainders_feeds gf gg gl ⟨A1,l1,c1,pprim f⟩ ⟨A2,l2,c2,pprim g⟩ w8 (Hp9.out.at_ ikN) (Hq9.out.at_ ikN) HB1.out HB2.out sF sG hl1 hl2 ⟨_,_,_,HBL.out⟩ k Hok.out) rfl
   ?pre2 (GI gl w.heap.size w8) (GX gl w.heap.size w8)
   (fun s W l o o' h hl hc hle=>⟨h.1,h.2.put hl hc (Nat.le_trans hws hle)⟩) (fun c s W l o o' h hl hc hle=>⟨h.1,h.2.1,h.2.2.put hl hc (Nat.le_trans hws hle)⟩) (fun s W o h=>⟨h.1,h.2.alloc o⟩)
   (fun s A B hb h=>⟨h.1,h.2.below hb.bel (by omega) (by omega)⟩) (fun c s A B hb h=>⟨h.1,h.2.1,h.2.2.below hb.bel (by omega) (by omega)⟩)
   ⟨(fun x hx=>by cases hx),HBL.out,Keep.refl _ _,Below.refl _ _,hglw,hws⟩ (fun x=>{ tmps:=#[.slice A la ca,.slice B lb cb,undef,undef,.slice none 0 0,.pointer (some ⟨gc,0,none⟩),.slice A1 l1 c1,.slice A2 l2 c2,.pointer (some ⟨gl,0,none⟩),x.val,.bool false,.slice A la ca,.int .i64 (df:Int),.bool false,undef,undef,.bool false,.slice B lb cb,.int .i64 (dg:Int),.bool false,undef,undef,.slice A la ca,.slice B lb cb,.slice (some ⟨w2.heap.size,0,none⟩) 2 2,.agg #[.bool n4,.slice A4 l4 c4],.slice A la ca,.slice A1 l1 c1,.slice B lb cb,.slice A2 l2 c2,.slice A1 l1 c1,.int .i64 (l1:Int),.slice A2 l2 c2,.int .i64 (l2:Int),.bool false,undef,undef,.slice A1 l1 c1,.slice A2 l2 c2,.func (.func 89) #[] #[.pointer (some ⟨gf,0,none⟩),.pointer (some ⟨gg,0,none⟩)],x.val,undef,undef,undef,undef,undef,undef,undef,undef],defers:=[] }) ?assign2 ?body2 ?done2 ?stop2
  case pre2 =>
   rintro x W l o o' ⟨h1,h2⟩ hl hc
   exact ⟨PolyP.putObj h1 hl hc,h2⟩
  case assign2 =>
   intro l m x W K hK
   gi_wp2_with (rw[Oper.semAt_eq _ _ _ (fun c h=>by cases h)];go_simp;try go_bits)
   exact hK
  case body2 =>
   rintro l m pre ⟨Ax,lx,cx,px⟩ W ⟨hn,hI⟩ ⟨hx,hmem⟩ _ hs
   obtain ⟨Ao,lo,co,e⟩:=lastv_slice pre
   have hblk:=hI.blk
   rw[e] at hblk
   have q0:W.cell? ⟨gl,0,none⟩=some (.slice Ao lo co):=hblk.cell 0
   have q1:=hblk.frozen 0
   obtain ⟨hS2,hS3⟩:=hI.set_ ⟨Ax,lx,cx,px⟩
   have hx2:PolyN (W.setCell ⟨gl,0,none⟩ (.slice Ax lx cx)) Ax lx cx px:=PolyP.keep hx hS3 hblk
   have hsm:SmP px:=(Hsq.out _ hmem).1
   have hlx:lx<=1000000:=by have h:=(Hsq.out _ hmem).2.1;have:=hx.length;dsimp only at *;omega
   have HS2:=Lh hS2
   have HS3:=Lh hS3
   have Hx2:=Lh hx2
   have Hn:=Lh hn
   clear hblk hS2 hS3 hx2 hx hmem hn hI e
   dsimp only [El.val]
   gi_wp2_with fail
   refine ⟨trivial,(fun h=>by cases h),(CallsIn.inRound l (callsIn_wide.2 (degree_any _ _ _ _ _ (Hx2.out.at_ ikN) hsm (by omega)))).mono ?_⟩
   rintro e w10 ⟨rfl,hb10⟩
   have hB0:w10.heap[w8.heap.size]?=W.heap[w8.heap.size]?:=(hb10.block _ (by simp[World.setCell];omega)).trans (Below.heap_setCell _ _ _ _ (by show w8.heap.size≠gl;omega))
   have hB1:w10.heap[w8.heap.size+1]?=W.heap[w8.heap.size+1]?:=(hb10.block _ (by simp[World.setCell];omega)).trans (Below.heap_setCell _ _ _ _ (by show w8.heap.size+1≠gl;omega))
   have hK1:=HS3.out.trans (Keep.below gl hb10)
   have hL1:=HS2.out.below hb10 (by simp[World.setCell];omega) (by simp[World.setCell];omega)
   have Hall:=Lh (And.intro hB0 (And.intro hB1 (And.intro hK1 hL1)))
   clear hB0 hB1 hK1 hL1 hb10
   obtain ⟨n,hn⟩:∃ n,n=plen px:=⟨_,rfl⟩
   rw[<- hn]
   have Hpn:=Lh hn
   clear hn
   by_cases h1:n=1
   ·subst h1
    gi_wp2
    exact ⟨Hall.out.1,Hall.out.2.1,Hall.out.2.2.1,rfl,⟨pre,_,rfl,Hn.out,Hpn.out.symm⟩,Hall.out.2.2.2⟩
   ·have h2:¬ ((n:Int)-1=0):=by omega
    gi_wp2
    refine ⟨Hall.out.1,Hall.out.2.1,Hall.out.2.2.1,fun y hy=>?_,Hall.out.2.2.2⟩
    rcases List.mem_append.1 hy with q | q
    ·exact Hn.out y q
    ·rw[List.mem_singleton.1 q]
     show plen px≠1
     rw[<- Hpn.out]
     exact h1
  case done2 =>
   rintro D xs W hD hS ⟨hn,hI⟩ hP hK
   obtain ⟨ys,⟨Ax,lx,cx,px⟩,rfl⟩:∃ (ys:List El) (x:El),xs=ys ++ [x]:=by
    rcases xs.eq_nil_or_concat with h | ⟨ys,x,h⟩
    ·rw[h] at hS;cases hS
    ·exact ⟨ys,x,by rw[h];simp⟩
   obtain ⟨hxo,hxm⟩:=hP ⟨Ax,lx,cx,px⟩ (by simp)
   have hsm:SmP px:=(Hsq.out _ hxm).1
   have hlx:lx<=1000000:=by have h:=(Hsq.out _ hxm).2.1;have:=hxo.length;dsimp only at *;omega
   have q0:W.cell? ⟨gl,0,none⟩=some (.slice Ax lx cx):=by have h:=hI.blk;rw[lastv_snoc] at h;exact h.cell 0
   have sm1:=(Hsq.out _ hxm).2.2.1
   have sm2:=(Hsq.out _ hxm).2.2.2
   dsimp only at sm1 sm2
   have HC:=Lh (HC9.out.keep hI.keep HBL.out)
   have k0:=HC.out.c0
   have k1:=HC.out.c1
   have Hx:Hid (PolyN W Ax lx cx px):=Lh hxo
   have HK:=Lh hK
   have HI:=Lh hI
   have HSq:=Lh hS
   have Hn:=Lh hn
   have hDl:D<W.heap.size:=(Array.getElem?_eq_some_iff.1 hK).1
   clear hxo hxm hK hI hS hn hP
   gi_wp2_with fail
   refine wpIn_mono ?_ calm_imp
   refine wpIn_wide.2 ?_
   refine wp_region_held_drew (S:=fun w'=>w'.cell? ⟨gl,0,none⟩=some (.slice Ax lx cx)/\w'.cell? ⟨gc,0,none⟩=some (.bool n4)/\w'.cell? ⟨gc,1,none⟩=some (.slice A4 l4 c4)) (by kernel_rfl) (by (try dsimp only);go_keep) (fun hHeld=>?_)
   (refine tq 0 ?_;simp only[put_lit,List.set])
   (refine tq 2 ?_;simp only[put_lit,List.set])
   refine rdy 1 (fun K hK=>?_);go_simp
   refine (primitive_any ikN _ _ _ _ _ ?_ hsm (by omega)).mono ?_
   ·exact Hx.out.below ikN Bel.go
   rintro e w12 ⟨A12,l12,c12,rfl,h12,hb12⟩
   obtain ⟨hcx,hfx⟩:=bcellS hb12
   replace HC:=Lh (HC.out.move (Below.trans Bel.go (hb12.mono (by simp<;>omega))))
   have Hw12:=Lh ((Hb9.out.trans HI.out.bel).trans ((Below.trans Bel.go (hb12.mono (by simp<;>omega))).mono (Nat.le_trans hws HI.out.keep.size)))
   have HD12:Hid (w12.heap[D]?=some (Obj.deferred (some []))):=Lh (((Below.trans Bel.go (hb12.mono (by simp<;>omega))).block D hDl).trans HK.out)
   have H12:=Lh h12
   have hl12:l12<=1000000:=by have h:=h12.length;have h2:=pprim_le px;have:=Hx.out.length;omega
   have hDl2:D<w12.heap.size:=(Array.getElem?_eq_some_iff.1 HD12.out).1
   refine hK.out _ _ ?_ (fun _=>?_)
   ·((try dsimp only);repeat' apply And.intro)<;>(rw[hcx _ (by go_simp)];go_simp)
   clear h12 hb12
   clear hHeld hK K hcx hfx;rename_i hHeld
   refine rdy 3 (fun K hK=>?_);go_simp
   refine (scale_any ikN _ _ _ _ _ _ _ _ _ _ ?_ ?_ sm1 hfc.sm (fun k=>hfc.mulok _) sm2 (by omega)).mono ?_
   ·exact H12.out.below ikN Bel.go
   ·exact HC.out.hz.below Bel.go
   rintro e w14 ⟨A14,l14,c14,rfl,h14,hb14⟩
   obtain ⟨hcx,hfx⟩:=bcellS hb14
   have Hw14:=Lh (Hw12.out.trans ((Below.trans Bel.go (hb14.mono (by simp<;>omega))).mono Hw12.out.size))
   have HD14:Hid (w14.heap[D]?=some (Obj.deferred (some []))):=Lh (((Below.trans Bel.go (hb14.mono (by simp<;>omega))).block D hDl2).trans HD12.out)
   have H14:=Lh h14
   refine hK.out _ _ ?_ (fun _=>?_)
   ·((try dsimp only);repeat' apply And.intro)<;>(rw[hcx _ (by go_simp)];go_simp)
   clear h14 hb14
   clear hHeld hK K hcx hfx;rename_i hHeld
   (refine tq 4 ?_;simp only[put_lit,List.set])
   refine wpAnyH_done (by kernel_rfl) ?_ _
   unfold calm
   gi_wp2
   refine ⟨by simp,.inl ⟨_,_,rfl,run_takeDeferred HD14.out,?_⟩⟩
   refine ⟨_,results_tmp rfl _ _ _,A14,l14,c14,rfl,?_⟩
   have hlast:lastOf [] (rseq k (gpair f g).1 (gpair f g).2)=px:=by
    rw[hpair]
    have h:=HSq.out
    dsimp only at h ⊢
    rw[<- h,List.map_append]
    refine lastOf_at (t:=[]) (.inr rfl) _ _ (fun s hs=>?_)
    obtain ⟨y,hy,rfl⟩:=List.mem_map.1 hs
    exact Hn.out y (by simp[hy])
   rw[hlast]
   exact ⟨PolyP.putObj H14.out HD14.out rfl,Hw14.out.trans ⟨rfl,rfl,rfl,by simp,fun k hk=>World.putObj_heap_other (by omega)⟩⟩
  case stop2 =>
   rintro D c pre W hD ⟨hS0,hS⟩ ⟨rfl,⟨ys,⟨Ax,lx,cx,px⟩,rfl,hn,hx⟩,hI⟩ hP hK
   obtain ⟨hxo,hxm⟩:=hP ⟨Ax,lx,cx,px⟩ (by simp)
   have hsm:SmP px:=(Hsq.out _ hxm).1
   have hlx:lx<=1000000:=by have h:=(Hsq.out _ hxm).2.1;have:=hxo.length;dsimp only at *;omega
   have q0:W.cell? ⟨gl,0,none⟩=some (.slice Ax lx cx):=by have h:=hI.blk;rw[lastv_snoc] at h;exact h.cell 0
   have sm1:=(Hsq.out _ hxm).2.2.1
   have sm2:=(Hsq.out _ hxm).2.2.2
   dsimp only at sm1 sm2
   have HC:=Lh (HC9.out.keep hI.keep HBL.out)
   have k0:=HC.out.c0
   have k1:=HC.out.c1
   have Hx:Hid (PolyN W Ax lx cx px):=Lh hxo
   have HK:=Lh hK
   have HI:=Lh hI
   have HSq:=Lh hS
   have Hn:=Lh hn
   have hDl:D<W.heap.size:=(Array.getElem?_eq_some_iff.1 hK).1
   clear hxo hxm hK hI hS hn hP
   gi_wp2_with fail
   refine wpIn_mono ?_ calm_imp
   refine wpIn_wide.2 ?_
   refine wp_region_held_drew (S:=fun w'=>w'.cell? ⟨gl,0,none⟩=some (.slice Ax lx cx)/\w'.cell? ⟨gc,0,none⟩=some (.bool n4)/\w'.cell? ⟨gc,1,none⟩=some (.slice A4 l4 c4)) (by kernel_rfl) (by (try dsimp only);go_keep) (fun hHeld=>?_)
   (refine tq 0 ?_;simp only[put_lit,List.set])
   (refine tq 2 ?_;simp only[put_lit,List.set])
   refine rdy 1 (fun K hK=>?_);go_simp
   refine (primitive_any ikN _ _ _ _ _ ?_ hsm (by omega)).mono ?_
   ·exact Hx.out.below ikN Bel.go
   rintro e w12 ⟨A12,l12,c12,rfl,h12,hb12⟩
   obtain ⟨hcx,hfx⟩:=bcellS hb12
   replace HC:=Lh (HC.out.move (Below.trans Bel.go (hb12.mono (by simp<;>omega))))
   have Hw12:=Lh ((Hb9.out.trans HI.out.bel).trans ((Below.trans Bel.go (hb12.mono (by simp<;>omega))).mono (Nat.le_trans hws HI.out.keep.size)))
   have HD12:Hid (w12.heap[D]?=some (Obj.deferred (some []))):=Lh (((Below.trans Bel.go (hb12.mono (by simp<;>omega))).block D hDl).trans HK.out)
   have H12:=Lh h12
   have hl12:l12<=1000000:=by have h:=h12.length;have h2:=pprim_le px;have:=Hx.out.length;omega
   have hDl2:D<w12.heap.size:=(Array.getElem?_eq_some_iff.1 HD12.out).1
   refine hK.out _ _ ?_ (fun _=>?_)
   ·((try dsimp only);repeat' apply And.intro)<;>(rw[hcx _ (by go_simp)];go_simp)
   clear h12 hb12
   clear hHeld hK K hcx hfx;rename_i hHeld
   refine rdy 3 (fun K hK=>?_);go_simp
   refine (scale_any ikN _ _ _ _ _ _ _ _ _ _ ?_ ?_ sm1 hfc.sm (fun k=>hfc.mulok _) sm2 (by omega)).mono ?_
   ·exact H12.out.below ikN Bel.go
   ·exact HC.out.hz.below Bel.go
   rintro e w14 ⟨A14,l14,c14,rfl,h14,hb14⟩
   obtain ⟨hcx,hfx⟩:=bcellS hb14
   have Hw14:=Lh (Hw12.out.trans ((Below.trans Bel.go (hb14.mono (by simp<;>omega))).mono Hw12.out.size))
   have HD14:Hid (w14.heap[D]?=some (Obj.deferred (some []))):=Lh (((Below.trans Bel.go (hb14.mono (by simp<;>omega))).block D hDl2).trans HD12.out)
   have H14:=Lh h14
   refine hK.out _ _ ?_ (fun _=>?_)
   ·((try dsimp only);repeat' apply And.intro)<;>(rw[hcx _ (by go_simp)];go_simp)
   clear h14 hb14
   clear hHeld hK K hcx hfx;rename_i hHeld
   (refine tq 4 ?_;simp only[put_lit,List.set])
   refine wpAnyH_done (by kernel_rfl) ?_ _
   unfold calm
   gi_wp2
   refine ⟨by simp,.inl ⟨_,_,rfl,run_takeDeferred HD14.out,?_⟩⟩
   refine ⟨_,results_tmp rfl _ _ _,A14,l14,c14,rfl,?_⟩
   have hlast:lastOf [] (rseq k (gpair f g).1 (gpair f g).2)=px:=by
    rw[hpair]
    obtain ⟨t,h⟩:=HSq.out
    dsimp only at h ⊢
    rw[<- h,List.map_append,List.append_assoc]
    refine lastOf_at (t:=t) (.inl hx) _ _ (fun s hs=>?_)
    obtain ⟨y,hy,rfl⟩:=List.mem_map.1 hs
    exact Hn.out y hy
   rw[hlast]
   exact ⟨PolyP.putObj H14.out HD14.out rfl,Hw14.out.trans ⟨rfl,rfl,rfl,by simp,fun k hk=>World.putObj_heap_other (by omega)⟩⟩
theorem gcd_poly {I J:IntPred} (hI:IK I) (hJ:IK J) (A:Option Addr) (la ca:Nat) (f:List Int) (B:Option Addr) (lb cb:Nat) (g:List Int) (w:World) (hf:PolyP I w A la ca f) (hg:PolyP J w B lb cb g) (hsf:SmP f) (hsg:SmP g) (hla:la<=1000000) (hlb:lb<=1000000)
  (f1:1<=plen f) (g1:1<=plen g) (k:Nat) (sF:FitP (pprim f)) (sG:FitP (pprim g))
  (hok:rOK k ⟨ptrim (gpair f g).1,ptrim (gpair f g).2,-1,(-1)^(plen (gpair f g).1-plen (gpair f g).2+1)⟩) (hsq:∀ p∈rseq k (gpair f g).1 (gpair f g).2,SmP p/\p.length<=1000000/\SmP (pprim p)/\SmP (psc (pconts 0 [f,g]:Int) (pprim p))) (hfc:Fit (pconts 0 [f,g]:Int)) :
  Calls Tryz.prog 39 #[.slice A la ca,.slice B lb cb] w fun e w'=>∃ A1 l1 c1,e=.returned (.slice A1 l1 c1)/\PolyN w' A1 l1 c1 (ptrim (psc (pconts 0 [f,g]:Int) (pprim (lastOf [] (rseq k (gpair f g).1 (gpair f g).2)))))/\Below w.heap.size w w' :=
 callsIn_wide.1 (gcd_walk hI hJ A la ca f B lb cb g w hf hg hsf hsg hla hlb f1 g1 k sF sG hok hsq hfc)
end Go.Proofs.YtpeiiomjnjemjaaGreat
namespace Go.Proofs.YtpeiiomjnjemjaaGreat
open Go.RowKit
abbrev wf:List Int:=[-1,0,1]
theorem FitP.dl {p:List Int} (h:FitP p):Dl 1000000000 p:=fun k=>by
 have:=dlen_le_of_lt (h k)
 have:=FW_eq
 omega
end Go.Proofs.YtpeiiomjnjemjaaGreat
namespace Go.Proofs.YtpeiiomjnjemjaaGreat
open Go.RowKit
end Go.Proofs.YtpeiiomjnjemjaaGreat
