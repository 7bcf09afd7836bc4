/- The walks of package natural, fifth part: addInto. -/
import Derived.Test.YtfpliceenjbclaaNatD
namespace Go.Proofs.Ytfpliceenjbclaa
open Go.RowKit

/-- Only block g has turned; no block is new. -/
structure Only (g : Nat) (w w' : World) : Prop where
  os : w'.os = w.os
  tape : w'.tape = w.tape
  output : w'.output = w.output
  size : w'.heap.size = w.heap.size
  block : ∀ k, k ≠ g → w'.heap[k]? = w.heap[k]?

theorem Only.refl (g : Nat) (w : World) : Only g w w := ⟨rfl, rfl, rfl, rfl, fun _ _ => rfl⟩
theorem Only.trans {g : Nat} {a b c : World} (h : Only g a b) (k : Only g b c) : Only g a c :=
  ⟨k.os.trans h.os, k.tape.trans h.tape, k.output.trans h.output, k.size.trans h.size, fun i hi => (k.block i hi).trans (h.block i hi)⟩
theorem Only.setCell {g : Nat} {a w : World} (h : Only g a w) (i : Nat) (u : Value) : Only g a (w.setCell ⟨g, i, none⟩ u) :=
  h.trans ⟨rfl, rfl, rfl, by simp [World.setCell], fun k hk => Below.heap_setCell w ⟨g, i, none⟩ u k hk⟩
theorem Only.drewN {g : Nat} {a w : World} (h : Only g a w) (n : Nat) : Only g a (w.drewN n) := ⟨h.os, h.tape, h.output, h.size, h.block⟩
theorem Only.cell {g : Nat} {w w' : World} (h : Only g w w') {p : Addr} (hp : p.block ≠ g) : w'.cell? p = w.cell? p := World.cell?_of_block (w := w) (h.block p.block hp)
theorem Only.below {g B : Nat} {w w' : World} (h : Only g w w') (hg : B ≤ g) : Below B w w' :=
  ⟨h.os, h.tape, h.output, by rw [h.size]; exact Nat.le_refl _, fun k hk => h.block k (by omega)⟩
theorem Only.row {g g' : Nat} {w w' : World} {zs : List Nat} (h : Only g w w') (hr : DRow w g' zs) (hg : g' ≠ g) : DRow w' g' zs := (h.block g' hg).trans hr

/-- A slice of digits that does not lie in block g. -/
def Off (g : Nat) (A : Option Addr) : Prop := ∀ b off, A = some ⟨b, off, none⟩ → b ≠ g

theorem DigAt.only {w w' : World} {g : Nat} {A : Option Addr} {len cap : Nat} {ds : List Nat} (h : DigAt w A len cap ds) (ho : Only g w w') (hg : Off g A) : DigAt w' A len cap ds := by
  refine ⟨h.length, h.cap, h.wd, ?_⟩
  rcases h.cells with h0 | ⟨b, off, hA, hlt, hc⟩
  · exact .inl h0
  · exact .inr ⟨b, off, hA, by rw [ho.size]; exact hlt, fun j hj => (ho.cell (p := ⟨b, off + j, none⟩) (hg b off hA)).trans (hc j hj)⟩

/-- What holds in addInto when k digits are done. -/
structure IntoInv (w wr : World) (g off n V : Nat) (dx : List Nat) (k c : Nat) (zs : List Nat) : Prop where
  carry : c ≤ 1
  z : DRow wr g zs
  len : zs.length = n
  wd : Wd zs
  sum : val zs + BB ^ (off + k) * c = V + BB ^ off * val (dx.take k)
  only : Only g w wr

theorem into_arith (V P B lo hi x r c T V' : Nat) (e : lo + B * hi = r + x + c) (h : V + P * c = T) (hs : V' + P * r = V + P * lo) : V' + P * B * hi = T + P * x := by
  have e2 : P * lo + P * B * hi = P * r + P * x + P * c := by
    rw [Nat.mul_assoc, ← Nat.mul_add, e, Nat.mul_add, Nat.mul_add]
  omega

theorem IntoInv.step {w wr : World} {g off n V : Nat} {dx : List Nat} {k c : Nat} {zs : List Nat} (h : IntoInv w wr g off n V dx k c zs) (hx : Wd dx) (hk : off + k < n) :
    IntoInv w (wr.setCell ⟨g, off + k, none⟩ (.int .u32 (sLo (zs.getD (off + k) 0) (dx.getD k 0) c : Nat))) g off n V dx (k + 1) (sHi (zs.getD (off + k) 0) (dx.getD k 0) c) (zs.set (off + k) (sLo (zs.getD (off + k) 0) (dx.getD k 0) c)) := by
  refine ⟨sHi_le (h.wd.getD _) (hx.getD _) h.carry, h.z.set_ _ _, by rw [List.length_set, h.len], h.wd.set (sLo_lt _ _ _), ?_, h.only.setCell _ _⟩
  have h1 := val_set zs (k := off + k) (by rw [h.len]; exact hk) (sLo (zs.getD (off + k) 0) (dx.getD k 0) c)
  have h2 := into_arith _ _ _ _ _ _ _ _ _ _ (s_eq (zs.getD (off + k) 0) (dx.getD k 0) c) h.sum h1
  rw [← Nat.add_assoc, Nat.pow_succ, h2, val_take_succ' dx, Nat.mul_add, Nat.add_assoc, Nat.pow_add, Nat.mul_assoc]

set_option maxHeartbeats 1000000 in
theorem addInto_any (g off zl zc lx cx : Nat) (X : Option Addr) (zs dx : List Nat) (w : World) (hz : DRow w g zs) (hzl : zs.length = off + zl) (hwz : Wd zs) (hx : DigAt w X lx cx dx) (hX : Off g X) (hlz : lx ≤ zl)
    (hroom : val zs + BB ^ off * val dx < BB ^ (off + zl)) (hm : off + zl ≤ 17592186044416) :
    Calls Try.prog 173 #[.slice (some ⟨g, off, none⟩) zl zc, .slice X lx cx] w fun e w' => e = .returned (.tuple #[]) ∧ ∃ zs', DRow w' g zs' ∧ zs'.length = off + zl ∧ Wd zs' ∧ val zs' = val zs + BB ^ off * val dx ∧ Only g w w' := by
  have hlx := Lib.hid hx.length
  have hinv : IntoInv w w g off (off + zl) (val zs) dx 0 0 zs := ⟨by omega, hz, hzl, hwz, by simp [val], Only.refl _ _⟩
  have Hroom := Lib.hid hroom
  clear hz hzl hwz hroom
  go_enter Try.func173, Try.ntmps173
  go_wp2
  go_loopw [4, 10] (fun c i wr => ∃ k c' zs', k ≤ lx ∧ i = .int .i64 (k : Nat) ∧ c = .int .u32 (c' : Nat) ∧ IntoInv w wr g off (off + zl) (val zs) dx k c' zs') (fun _ i _ => lx - (intOf i).toNat)
  case atStart => exact ⟨0, 0, _, Nat.zero_le _, rfl, rfl, hinv⟩
  case round =>
    clear hinv
    obtain ⟨k, c, zs', hk, rfl, rfl, hI⟩ := hrel
    have HI := Lib.hid hI
    clear hI
    by_cases hlt : k < lx
    · obtain ⟨b1, o1, rfl, hb1, hc1⟩ := hx.at_ (by omega)
      have hcell1 := (HI.out.only.cell (p := ⟨b1, o1 + k, none⟩) (hX b1 o1 rfl)).trans (hc1 k hlt)
      have hd1 : dx[k]?.getD 0 < 4294967296 := by have := hx.wd.getD k; rwa [List.getD_eq_getElem?_getD, BB_eq] at this
      have hzc := HI.out.z.cell (i := off + k) (by rw [HI.out.len]; omega)
      have hzf := HI.out.z.frozen (off + k)
      have hd2 : zs'[off + k]?.getD 0 < 4294967296 := by have := HI.out.wd.getD (off + k); rwa [List.getD_eq_getElem?_getD, BB_eq] at this
      have Hx := Lib.hid hx
      clear hx hc1
      go_wp2_with (go_at_call 162; refine (add32_any _ _ c _ hd2 hd1 HI.out.carry).mono ?_; rintro e w2 ⟨rfl, rfl⟩)
      go_roundw
      case rel =>
        have := HI.out.step Hx.out.wd (by omega)
        simp only [List.getD_eq_getElem?_getD] at this
        exact ⟨k + 1, _, _, by omega, by go_num, rfl, this⟩
      case measure => simp [intOf]; omega
    · have hk2 : lx = k := by omega
      subst hk2
      go_wp2
      go_loopw [4, 7] (fun c i wq => ∃ k c' zs', lx ≤ k ∧ k ≤ zl ∧ i = .int .i64 (k : Nat) ∧ c = .int .u32 (c' : Nat) ∧ IntoInv w wq g off (off + zl) (val zs) dx k c' zs') (fun _ i _ => zl - (intOf i).toNat)
      case atStart => exact ⟨lx, c, zs', Nat.le_refl _, hlz, rfl, rfl, HI.out⟩
      case round =>
        clear HI
        obtain ⟨k, c, zs', hk1, hk, rfl, rfl, hI⟩ := hrel
        have HI := Lib.hid hI
        clear hI
        have Hd1 : Hid (dx.getD k 0 = 0) := by
          show _ = _
          rw [List.getD_eq_getElem?_getD, List.getElem?_eq_none (by have := hlx.out; omega)]; rfl
        have Htk : Hid (dx.take k = dx) := List.take_of_length_le (by have := hlx.out; omega)
        rcases Nat.eq_zero_or_pos c with h0 | h0
        · subst h0
          go_wp2
          go_end0
          refine ⟨rfl, zs', HI.out.z, HI.out.len, HI.out.wd, ?_, HI.out.only⟩
          have := HI.out.sum
          rw [Htk.out] at this
          simpa using this
        · have h1 : c = 1 := by have := HI.out.carry; omega
          subst h1
          by_cases hlt : k < zl
          · have hzc := HI.out.z.cell (i := off + k) (by rw [HI.out.len]; omega)
            have hzf := HI.out.z.frozen (off + k)
            have hd2 : zs'[off + k]?.getD 0 < 4294967296 := by have := HI.out.wd.getD (off + k); rwa [List.getD_eq_getElem?_getD, BB_eq] at this
            go_wp2_with (go_at_call 162; refine (add32_any _ 0 1 _ hd2 (by omega) (by omega)).mono ?_; rintro e w2 ⟨rfl, rfl⟩)
            go_roundw
            case rel =>
              have := HI.out.step hx.wd (by omega)
              rw [Hd1.out] at this
              simp only [List.getD_eq_getElem?_getD] at this
              exact ⟨k + 1, _, _, by omega, by omega, by go_num, rfl, this⟩
            case measure => simp [intOf]; omega
          · exfalso
            have hk2 : zl = k := by omega
            subst hk2
            have h1 := HI.out.sum
            rw [Htk.out, Nat.mul_one] at h1
            have h2 := Hroom.out
            omega
end Go.Proofs.Ytfpliceenjbclaa
