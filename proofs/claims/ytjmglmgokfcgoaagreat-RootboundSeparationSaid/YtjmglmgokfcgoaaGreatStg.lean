/- The walks of cylinderlaw15.changes and of sturm.Variations. -/
import Derived.Test.YtjmglmgokfcgoaaGreatSte
namespace Go.Proofs.YtjmglmgokfcgoaaGreat
open Go.RowKit
theorem below_drewN {B:Nat} {a w:World} (h:Below B a w):∀ n,Below B a (w.drewN n)
 | 0=>h
 | n+1=>(below_drewN h n).drew
end Go.Proofs.YtjmglmgokfcgoaaGreat
namespace Go.Proofs.YtjmglmgokfcgoaaGreat
end Go.Proofs.YtjmglmgokfcgoaaGreat
namespace Go.Proofs.YtjmglmgokfcgoaaGreat
open Go.RowKit
structure PoOK (z:Int) (q:Nat) (p:List Int):Prop where
 fit:FitP p
 len:p.length≤1000000
 ok:ScOK p (z.tdiv (Nat.gcd z.natAbs q)) ((q / Nat.gcd z.natAbs q:Nat):Int)
noncomputable def ZK:Nat:=Classical.choose (⟨1000,rfl⟩:∃ n:Nat,n=1000)
theorem ZK_eq:ZK=1000:=Classical.choose_spec (⟨1000,rfl⟩:∃ n:Nat,n=1000)
noncomputable def ZB:Nat:=BB^ZK
theorem zb_128:128≤ZB:=by
 have h1:BB^1≤BB^ZK:=Nat.pow_le_pow_right BB_pos (by rw [ZK_eq];decide)
 rw [Nat.pow_one] at h1
 have h2:128≤BB:=by rw [BB_eq];decide
 exact Nat.le_trans h2 h1
end Go.Proofs.YtjmglmgokfcgoaaGreat
