/- What the intervals of isolate.Roots are: sizes, Valid, their number. Plain: no program. -/
import Derived.Test.YtphmkdmflopcdaaGreatIsy
namespace Go.Proofs.YtphmkdmflopcdaaGreat
open Go Go.RowKit
structure TBox (w:World) (g:Nat) (n:Bool) (A:Option Addr) (l c:Nat) (B:Option Addr) (m d:Nat) (z:Int) (q:Nat) (n':Bool) (A':Option Addr) (l' c':Nat) (B':Option Addr) (m' d':Nat) (z':Int) (q':Nat):Prop where
 r:RBox w g n A l c B m d z q
 c3:w.cell? ⟨g,3,none⟩=some (.bool n')
 c4:w.cell? ⟨g,4,none⟩=some (.slice A' l' c')
 c5:w.cell? ⟨g,5,none⟩=some (.slice B' m' d')
 hz:IntN w n' A' l' c' z'
 hq:NatN w B' m' d' q'
abbrev tbox (n:Bool) (A:Option Addr) (l c:Nat) (B:Option Addr) (m d:Nat) (n':Bool) (A':Option Addr) (l' c':Nat) (B':Option Addr) (m' d':Nat):Obj:=.cells #[.bool n,.slice A l c,.slice B m d,.bool n',.slice A' l' c',.slice B' m' d'] 105
section
variable {w w':World} {g:Nat} {n:Bool} {A:Option Addr} {l c:Nat} {B:Option Addr} {m d:Nat} {z:Int} {q:Nat} {n':Bool} {A':Option Addr} {l' c':Nat} {B':Option Addr} {m' d':Nat} {z':Int} {q':Nat}
theorem TBox.make (hz:IntN w n A l c z) (hq:NatN w B m d q) (hz':IntN w n' A' l' c' z') (hq':NatN w B' m' d' q'):TBox (w.alloc (tbox n A l c B m d n' A' l' c' B' m' d')) w.heap.size n A l c B m d z q n' A' l' c' B' m' d' z' q':=by
 have hb:Blk (w.alloc (tbox n A l c B m d n' A' l' c' B' m' d')) w.heap.size 105 #[.bool n,.slice A l c,.slice B m d,.bool n',.slice A' l' c',.slice B' m' d']:=Blk.new _ _ _
 have ho:=below_new w (tbox n A l c B m d n' A' l' c' B' m' d')
 exact ⟨⟨hb.cell 0,hb.cell 1,hb.cell 2,hb.frozen 0,hb.frozen 1,hb.frozen 2,by simp,hz.below ho,hq.below ho⟩,hb.cell 3,hb.cell 4,hb.cell 5,hz'.below ho,hq'.below ho⟩
theorem TBox.move (h:TBox w g n A l c B m d z q n' A' l' c' B' m' d' z' q') (hb:Below w.heap.size w w'):TBox w' g n A l c B m d z q n' A' l' c' B' m' d' z' q' :=
 ⟨h.r.move hb,(hb.cell (p:=⟨g,3,none⟩) h.r.lt).trans h.c3,(hb.cell (p:=⟨g,4,none⟩) h.r.lt).trans h.c4,(hb.cell (p:=⟨g,5,none⟩) h.r.lt).trans h.c5,h.hz.below hb,h.hq.below hb⟩
end
end Go.Proofs.YtphmkdmflopcdaaGreat
namespace Go.Proofs.YtphmkdmflopcdaaGreat
open Go.RowKit
theorem FqB.nf {a:Fq} (h:FqB a):FqB a.nf:=by
 have hn:=(Go.Proofs.YtphmkdmflopcdaaGreat.nf_v (z:=a.z) h.p).2.1
 refine ⟨hn,?_,?_⟩
 ·show (rz a.z a.q).natAbs<=ZB
  unfold rz
  rw[Int.natAbs_tdiv]
  exact Nat.le_trans (Nat.div_le_self _ _) h.z
 ·show rq a.z a.q<=ZB
  unfold rq
  exact Nat.le_trans (Nat.div_le_self _ _) h.q
section
variable {f:List Int}
theorem sgn_pt {a:Fq} (ha:0<a.q) (f:List Int):a.sgn f=sgp f a.p:=sat_eq ha f
end
end Go.Proofs.YtphmkdmflopcdaaGreat
