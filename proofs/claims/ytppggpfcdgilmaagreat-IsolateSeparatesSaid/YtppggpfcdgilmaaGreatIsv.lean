/- What the intervals of isolate.Roots are: sizes, Valid, their number. Plain: no program. -/
import Derived.Test.YtppggpfcdgilmaaGreatIsy
namespace Go.Proofs.YtppggpfcdgilmaaGreat
open Go Go.RowKit
structure TBox (w:World) (g:Nat) (n:Bool) (A:Option Addr) (l c:Nat) (B:Option Addr) (m d:Nat) (z:Int) (q:Nat) (n':Bool) (A':Option Addr) (l' c':Nat) (B':Option Addr) (m' d':Nat) (z':Int) (q':Nat):Prop where
 r:RBox w g n A l c B m d z q
 c3:w.cell? ⟨g,3,none⟩=some (.bool n')
 c4:w.cell? ⟨g,4,none⟩=some (.slice A' l' c')
 c5:w.cell? ⟨g,5,none⟩=some (.slice B' m' d')
 hz:IntN w n' A' l' c' z'
 hq:NatN w B' m' d' q'
abbrev tbox (n:Bool) (A:Option Addr) (l c:Nat) (B:Option Addr) (m d:Nat) (n':Bool) (A':Option Addr) (l' c':Nat) (B':Option Addr) (m' d':Nat):Obj:=.cells #[.bool n,.slice A l c,.slice B m d,.bool n',.slice A' l' c',.slice B' m' d'] 38
section
variable {w w':World} {g:Nat} {n:Bool} {A:Option Addr} {l c:Nat} {B:Option Addr} {m d:Nat} {z:Int} {q:Nat} {n':Bool} {A':Option Addr} {l' c':Nat} {B':Option Addr} {m' d':Nat} {z':Int} {q':Nat}
theorem TBox.make (hz:IntN w n A l c z) (hq:NatN w B m d q) (hz':IntN w n' A' l' c' z') (hq':NatN w B' m' d' q'):TBox (w.alloc (tbox n A l c B m d n' A' l' c' B' m' d')) w.heap.size n A l c B m d z q n' A' l' c' B' m' d' z' q':=by
 have hb:Blk (w.alloc (tbox n A l c B m d n' A' l' c' B' m' d')) w.heap.size 38 #[.bool n,.slice A l c,.slice B m d,.bool n',.slice A' l' c',.slice B' m' d']:=Blk.new _ _ _
 have ho:=below_new w (tbox n A l c B m d n' A' l' c' B' m' d')
 exact ⟨⟨hb.cell 0,hb.cell 1,hb.cell 2,hb.frozen 0,hb.frozen 1,hb.frozen 2,by simp,hz.below ho,hq.below ho⟩,hb.cell 3,hb.cell 4,hb.cell 5,hz'.below ho,hq'.below ho⟩
theorem TBox.move (h:TBox w g n A l c B m d z q n' A' l' c' B' m' d' z' q') (hb:Below w.heap.size w w'):TBox w' g n A l c B m d z q n' A' l' c' B' m' d' z' q' :=
 ⟨h.r.move hb,(hb.cell (p:=⟨g,3,none⟩) h.r.lt).trans h.c3,(hb.cell (p:=⟨g,4,none⟩) h.r.lt).trans h.c4,(hb.cell (p:=⟨g,5,none⟩) h.r.lt).trans h.c5,h.hz.below hb,h.hq.below hb⟩
end
end Go.Proofs.YtppggpfcdgilmaaGreat
namespace Go.Proofs.YtppggpfcdgilmaaGreat
open Go.RowKit
theorem FqB.nf {a:Fq} (h:FqB a):FqB a.nf:=by
 have hn:=(Go.Proofs.YtppggpfcdgilmaaGreat.nf_v (z:=a.z) h.p).2.1
 refine ⟨hn,?_,?_⟩
 ·show (rz a.z a.q).natAbs≤ZB
  unfold rz
  rw [Int.natAbs_tdiv]
  exact Nat.le_trans (Nat.div_le_self _ _) h.z
 ·show rq a.z a.q≤ZB
  unfold rq
  exact Nat.le_trans (Nat.div_le_self _ _) h.q
section
variable {f:List Int}
theorem proots_isl (h9:P9 f) (h0:plen f≠0) {xs:List Pt} (hx:Lst (fun x=>sgp f x=0) xs):∃ lo hi,Isl (qpart f) xs (proots f) lo hi:=by
 have hq:=q_facts h9.q h0
 have hx2:Lst (fun x=>sgp (qpart f) x=0) xs:=hx.congr fun x=>(hq.root x).symm
 unfold proots
 by_cases h:plen (qpart f)<2
 ·rw [if_pos h]
  have h1:plen (qpart f)=1:=by have:=hq.q0;omega
  have e:xs=[]:=by
   match xs,hx2 with
   | [],_=>rfl
   | x :: xs,hx2 =>
     have this:sgp (qpart f) x=0:=(hx2.2 x).1 (List.mem_cons_self ..)
     rw [sgp_one h1] at this
     exact absurd this (sg_ne (plead_ne (by omega)))
  rw [e]
  exact ⟨0,0,.nil _ _ Rat.le_refl⟩
 ·rw [if_neg h]
  exact ⟨_,_,roots_isl (SqF.of9 h9 h0) hx2⟩
theorem proots_len (h9:P9 f) (h0:plen f≠0):((proots f).length:Int)=nall f:=by
 obtain ⟨xs,hx⟩:=roots_lst h0 (fun _=>True)
 have hx1:Lst (fun x=>sgp f x=0) xs:=hx.congr fun x=>⟨fun h=>h.1,fun h=>⟨h,trivial⟩⟩
 obtain ⟨lo,hi,hi2⟩:=proots_isl h9 h0 hx1
 rw [hi2.length,nall_count h9.cp h9.der h0 hx1]
theorem p9_w2:P9 w2:=by
 have e:∀ c∈w2,c.natAbs≤2:=by decide
 refine ⟨by decide,fun j=>?_⟩
 have h2:(w2.getD j 0).natAbs≤2:=by
  rw [List.getD_eq_getElem?_getD]
  cases h:w2[j]? with
  | none=>decide
  | some c=>exact e c (List.mem_of_getElem? h)
 refine Nat.le_trans h2 (Nat.le_trans ?_ (bbk_le (show 1≤10 by decide)))
 rw [Nat.pow_one,BB_eq]
 decide
theorem proots_w2:(proots w2).length=2:=by
 have h:=proots_len p9_w2 (by decide)
 have e:nall w2=2:=by decide +kernel
 rw [e] at h
 omega
end
end Go.Proofs.YtppggpfcdgilmaaGreat
