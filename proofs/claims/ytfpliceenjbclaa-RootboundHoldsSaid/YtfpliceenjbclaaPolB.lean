/- The walks of package unipoly, second part: make of a row of integers, Of, transform (with Normal), Normal, Height. -/
import Derived.Test.YtfpliceenjbclaaPolA
namespace Go.Proofs.Ytfpliceenjbclaa
open Go.RowKit

theorem info_int : (Try.prog.info? 43).map (fun i => (i.zero, i.size, i.bytes)) = some (some (.agg #[.bool false, .slice none 0 0]), 2, 32) := by kernel_rfl

/-- the cells of n zero integers -/
noncomputable def zcells (n : Nat) : Array Value := madeCells #[.bool false, .slice none 0 0] (n * 2)
theorem zcells_size (n : Nat) : (zcells n).size = n * 2 := by simp [zcells, size_madeCells]
theorem zcells_even (n j : Nat) (h : j < n) : (zcells n)[j * 2]? = some (.bool false) := by
  have e : (j * 2) % 2 = 0 := by omega
  have r : (Array.range (n * 2))[j * 2]? = some (j * 2) := by rw [Array.getElem?_eq_some_iff]; exact ⟨by simp; omega, by simp⟩
  simp only [zcells, madeCells, Array.getElem?_map, r, Option.map_some]
  show some (#[Value.bool false, Value.slice none 0 0][(j * 2) % 2]!) = _
  rw [e]; rfl
theorem zcells_odd (n j : Nat) (h : j < n) : (zcells n)[j * 2 + 1]? = some (.slice none 0 0) := by
  have e : (j * 2 + 1) % 2 = 1 := by omega
  have r : (Array.range (n * 2))[j * 2 + 1]? = some (j * 2 + 1) := by rw [Array.getElem?_eq_some_iff]; exact ⟨by simp; omega, by simp⟩
  simp only [zcells, madeCells, Array.getElem?_map, r, Option.map_some]
  show some (#[Value.bool false, Value.slice none 0 0][(j * 2 + 1) % 2]!) = _
  rw [e]; rfl

/-- make(Poly, n): a new row of n zeros -/
theorem wpList_make_poly (w : World) {ops : Array Oper} {rest : List Oper} {o : Oper} {a : Act} {Q : Exit → Act → World → Prop}
    (hg : o.guard = none) (l c : Operand) (hop : o.op = Op.makeSlice 30 l c) (n : Nat) (hl : a.eval l = .int .i64 (n : Int)) (hc : a.eval c = .int .i64 (n : Int)) (hn : n ≤ 4398046511104)
    (hK : ∀ w', PRow w' w.heap.size (List.replicate n 0) → Below w.heap.size w w' → w'.heap.size = w.heap.size + 1 → wpList Try.prog ops Q rest (a.put o.dst (.slice (some ⟨w.heap.size, 0, none⟩) n n)) w') :
    wpList Try.prog ops Q (o :: rest) a w := by
  obtain ⟨i, hi, hz, hs, hb⟩ := info_parts info_int
  refine wpList_plain hg fun K hK' => ?_
  have hrun := run_make (P := Try.prog) w 30 43 i (.agg #[.bool false, .slice none 0 0]) Try.underlying30 hi hz .i64 .i64 (n : Int) (n : Int) (by omega) (by omega) (by rw [hb]; omega) (by omega)
  unfold Oper.wp
  simp [execOp, hop, hl, hc, hrun, Result.andThen]
  have hB : Blk (w.alloc (.cells (zcells n) 43)) w.heap.size 43 (zcells n) := Blk.new w _ _
  have hrow : PRow (w.alloc (.cells (zcells n) 43)) w.heap.size (List.replicate n 0) := by
    refine ⟨⟨_, hB, by rw [zcells_size, List.length_replicate]⟩, fun j hj => ?_⟩
    rw [List.length_replicate] at hj
    refine ⟨false, none, 0, 0, by rw [hB.cell, zcells_even n j hj], by rw [hB.cell, zcells_odd n j hj], ?_⟩
    have e : (List.replicate n (0 : Int)).getD j 0 = 0 := by simp [List.getD_eq_getElem?_getD, List.getElem?_replicate]; split <;> rfl
    rw [e]
    exact ⟨NatN.zero _ _ _, by simp⟩
  have e2 : madeCells (Value.agg #[.bool false, .slice none 0 0]).cells (n * i.size) = zcells n := by rw [hs]; rfl
  rw [e2]
  exact hK' _ _ (hK _ hrow ((Below.refl _ _).alloc (Nat.le_refl _) _) (by simp))

/-- a slice of int64s -/
structure I64At (w : World) (A : Option Addr) (len cap : Nat) (p : List Int) : Prop where
  length : p.length = len
  cap : len ≤ cap
  cells : len = 0 ∨ ∃ b off, A = some ⟨b, off, none⟩ ∧ b < w.heap.size ∧ ∀ j, j < len → w.cell? ⟨b, off + j, none⟩ = some (.int .i64 (p.getD j 0))
theorem I64At.below {w w' : World} {A : Option Addr} {len cap : Nat} {p : List Int} (h : I64At w A len cap p) (hb : Below w.heap.size w w') : I64At w' A len cap p := by
  refine ⟨h.length, h.cap, ?_⟩
  rcases h.cells with h0 | ⟨b, off, hA, hlt, hc⟩
  · exact .inl h0
  · exact .inr ⟨b, off, hA, Nat.lt_of_lt_of_le hlt hb.size, fun j hj => (hb.cell (p := ⟨b, off + j, none⟩) hlt).trans (hc j hj)⟩
theorem I64At.at_ {w : World} {A : Option Addr} {len cap : Nat} {p : List Int} (h : I64At w A len cap p) (hl : 0 < len) :
    ∃ b off, A = some ⟨b, off, none⟩ ∧ b < w.heap.size ∧ ∀ j, j < len → w.cell? ⟨b, off + j, none⟩ = some (.int .i64 (p.getD j 0)) := by
  rcases h.cells with h0 | h1
  · omega
  · exact h1

/-- the list with its first k elements taken from p, the others 0 -/
def upto (p : List Int) (k n : Nat) : List Int := (List.range n).map fun j => if j < k then p.getD j 0 else 0
theorem upto_length (p : List Int) (k n : Nat) : (upto p k n).length = n := by simp [upto]
theorem upto_zero (p : List Int) (n : Nat) : upto p 0 n = List.replicate n 0 := by
  apply List.ext_getElem?
  intro j
  simp [upto, List.getElem?_replicate]
  by_cases h : j < n <;> simp [h]
theorem upto_set (p : List Int) {k n : Nat} (hk : k < n) : (upto p k n).set k (p.getD k 0) = upto p (k + 1) n := by
  apply List.ext_getElem?
  intro j
  by_cases hj : j = k
  · subst hj
    rw [List.getElem?_set_self (by rw [upto_length]; exact hk)]
    simp [upto, hk]
  · rw [List.getElem?_set_ne (by omega)]
    by_cases h2 : j < n
    · have e : (j < k) = (j < k + 1) := by simp; omega
      simp [upto, h2, e]
    · simp [upto, h2]
theorem upto_full (p : List Int) : upto p p.length p.length = p := by
  apply List.ext_getElem?
  intro j
  by_cases h2 : j < p.length
  · simp [upto, h2, List.getD_eq_getElem?_getD]
  · simp [upto, h2]

theorem SmI.of64 {z : Int} (h : I64 z) : SmI z := by
  have := u64_abs h
  unfold U64 at this
  have h2 : dlen z.natAbs ≤ 2 := dlen_le_of_lt (by rw [Nat.pow_succ, Nat.pow_one]; exact this)
  show dlen z.natAbs ≤ _
  omega

set_option maxHeartbeats 1000000 in
theorem pof_any (A : Option Addr) (len cap : Nat) (p : List Int) (w : World) (h : I64At w A len cap p) (hp : ∀ c ∈ p, I64 c) (hm : len ≤ 1099511627776) :
    Calls Try.prog 80 #[.slice A len cap] w fun e w' => ∃ A' len' cap', e = .returned (.slice A' len' cap') ∧ PolyN w' A' len' cap' (ptrim p) ∧ Below w.heap.size w w' := by
  have hlen := Lib.hid h.length
  go_enter Try.func80, Try.ntmps80
  go_wp2_with (at_make; refine wpList_make_poly _ rfl (.tmp 7) (.tmp 7) rfl len rfl rfl (by omega) ?_)
  intro w1 hz hb1 hsz
  rw [← upto_zero p] at hz
  have Hz := Lib.hid hz
  have Hb1 := Lib.hid hb1
  clear hz hb1 hsz
  go_wp2
  go_loopw [11] (fun i wr => ∃ k : Nat, k ≤ len ∧ i = .int .i64 k ∧ PRow wr w.heap.size (upto p k len) ∧ Below w.heap.size w wr) (fun i _ => len - (intOf i).toNat)
  case atStart => exact ⟨0, Nat.zero_le _, rfl, Hz.out, Hb1.out⟩
  case round =>
    clear Hz Hb1
    obtain ⟨k, hk, rfl, hrow, hbw⟩ := hrel
    have Hrow := Lib.hid hrow
    have Hbw := Lib.hid hbw
    clear hrow hbw
    by_cases hlt : k < len
    · obtain ⟨b, off, rfl, hb, hc⟩ := h.at_ (by omega)
      have hcell := (Hbw.out.cell (p := ⟨b, off + k, none⟩) hb).trans (hc k hlt)
      have hi64 : I64 (p.getD k 0) := by
        rw [List.getD_eq_getElem?_getD, List.getElem?_eq_getElem (by rw [hlen.out]; exact hlt)]
        exact hp _ (List.getElem_mem _)
      have Hi := Lib.hid hi64
      have Hh := Lib.hid h
      clear hc h hi64 hp
      go_wp2_with fail
      have h64 := Hi.out
      rw [List.getD_eq_getElem?_getD] at h64
      refine (iof_any _ _ h64).mono ?_
      rintro e w2 ⟨n2, A2, l2, c2, rfl, h2, hb2⟩
      clear h64
      have hr2 := Hrow.out.below hb2
      obtain ⟨n0, A0, l0, c0, e0, e1, _⟩ := hr2.elems k (by rw [upto_length]; exact hlt)
      have hf0 := hr2.frozen (k * 2)
      have hf1 := hr2.frozen (k * 2 + 1)
      have Hr2 : Hid (PRow ((w2.setCell ⟨w.heap.size, k * 2, none⟩ (.bool n2)).setCell ⟨w.heap.size, k * 2 + 1, none⟩ (.slice A2 l2 c2)) w.heap.size (upto p (k + 1) len)) := by
        show PRow _ _ _
        rw [← upto_set p hlt, List.getD_eq_getElem?_getD]
        exact hr2.set_ (by rw [upto_length]; exact hlt) h2
      have Hb3 : Hid (Below w.heap.size w ((w2.setCell ⟨w.heap.size, k * 2, none⟩ (.bool n2)).setCell ⟨w.heap.size, k * 2 + 1, none⟩ (.slice A2 l2 c2))) := ((Hbw.out.trans (hb2.mono Hbw.out.size)).setCell (p := ⟨w.heap.size, k * 2, none⟩) (Nat.le_refl _) _).setCell (p := ⟨w.heap.size, k * 2 + 1, none⟩) (Nat.le_refl _) _
      clear hr2 h2 hb2
      go_wp2
      go_roundw
      case rel => exact ⟨k + 1, by omega, by go_num, Hr2.out, Hb3.out⟩
      case measure => simp [intOf]; omega
    · have hk2 : len = k := by omega
      subst hk2
      have hpoly := Hrow.out.poly (cap := len) (by rw [upto_length]; exact Nat.le_refl _)
      rw [upto_length] at hpoly
      have hup : upto p len len = p := by have := upto_full p; rw [hlen.out] at this; exact this
      rw [hup] at hpoly
      have hsm : SmP p := fun c hc => SmI.of64 (hp c hc)
      clear h hp
      go_wp2_with fail
      refine (ptrim_any ikN _ _ _ _ _ hpoly hsm hm).mono ?_
      rintro e w2 ⟨l2, rfl, h2, hl2, hb2⟩
      clear hl2
      have H2 := Lib.hid h2
      have Hb2 := Lib.hid (Hbw.out.trans (hb2.mono Hbw.out.size))
      clear h2 hb2 hpoly hup
      go_wp2
      go_ret
      exact ⟨_, _, _, rfl, H2.out, Hb2.out⟩

set_option maxHeartbeats 1000000 in
theorem tnormal_any {I : IntPred} (hI : IK I) (A : Option Addr) (len cap : Nat) (p : List Int) (w : World) (h : PolyP I w A len cap p) (hs : SmP p) (hm : len ≤ 1099511627776) :
    Calls Try.prog 125 #[.slice A len cap, .func (.func 121) #[] #[]] w fun e w' => ∃ g, e = .returned (.slice (some ⟨g, 0, none⟩) len len) ∧ PRow w' g p ∧ w.heap.size ≤ g ∧ Below w.heap.size w w' := by
  have hlen := Lib.hid h.length
  go_enter Try.func125, Try.ntmps125
  go_wp2_with (at_make; refine wpList_make_poly _ rfl (.tmp 9) (.tmp 9) rfl len rfl rfl (by omega) ?_)
  intro w1 hz hb1 hsz
  rw [← upto_zero p] at hz
  have Hz := Lib.hid hz
  have Hb1 := Lib.hid hb1
  clear hz hb1 hsz
  go_wp2
  go_loopw [13] (fun i wr => ∃ k : Nat, k ≤ len ∧ i = .int .i64 k ∧ PRow wr w.heap.size (upto p k len) ∧ Below w.heap.size w wr) (fun i _ => len - (intOf i).toNat)
  case atStart => exact ⟨0, Nat.zero_le _, rfl, Hz.out, Hb1.out⟩
  case round =>
    clear Hz Hb1
    obtain ⟨k, hk, rfl, hrow, hbw⟩ := hrel
    have Hrow := Lib.hid hrow
    have Hbw := Lib.hid hbw
    clear hrow hbw
    by_cases hlt : k < len
    · obtain ⟨b, off, rfl, hb, hc⟩ := h.get (by omega)
      obtain ⟨neg, Aj, lj, cj, c0, c1, hzk⟩ := hc k hlt
      have e0 := (Hbw.out.cell (p := ⟨b, off + k * 2, none⟩) hb).trans c0
      have e1 := (Hbw.out.cell (p := ⟨b, off + k * 2 + 1, none⟩) hb).trans c1
      have hzr := (hI.at_ hzk).below Hbw.out
      have hsk := hs.getD k
      have Hh := Lib.hid h
      clear hc h c0 c1 hzk
      go_wp2_with fail
      refine (inormal_any _ _ _ _ _ _ (hzr.below ((Below.refl _ _).alloc (Nat.le_refl _) _)) hsk).mono ?_
      rintro e w2 ⟨n2, A2, l2, c2, rfl, h2, hb2⟩
      have hbx : Below wr.heap.size wr w2 := ((Below.refl _ _).alloc (Nat.le_refl _) _).trans (hb2.mono (by simp))
      have hr2 := Hrow.out.below hbx
      obtain ⟨n0, A0, l0, c0, e0, e1, _⟩ := hr2.elems k (by rw [upto_length]; exact hlt)
      have hf0 := hr2.frozen (k * 2)
      have hf1 := hr2.frozen (k * 2 + 1)
      have Hr2 : Hid (PRow ((w2.setCell ⟨w.heap.size, k * 2, none⟩ (.bool n2)).setCell ⟨w.heap.size, k * 2 + 1, none⟩ (.slice A2 l2 c2)) w.heap.size (upto p (k + 1) len)) := by
        show PRow _ _ _
        rw [← upto_set p hlt]
        exact hr2.set_ (by rw [upto_length]; exact hlt) h2
      have Hb3 : Hid (Below w.heap.size w ((w2.setCell ⟨w.heap.size, k * 2, none⟩ (.bool n2)).setCell ⟨w.heap.size, k * 2 + 1, none⟩ (.slice A2 l2 c2))) := ((Hbw.out.trans (hbx.mono Hbw.out.size)).setCell (p := ⟨w.heap.size, k * 2, none⟩) (Nat.le_refl _) _).setCell (p := ⟨w.heap.size, k * 2 + 1, none⟩) (Nat.le_refl _) _
      clear hr2 h2 hb2 hbx hzr hsk
      go_wp2
      go_roundw
      case rel => exact ⟨k + 1, by omega, by go_num, Hr2.out, Hb3.out⟩
      case measure => simp [intOf]; omega
    · have hk2 : len = k := by omega
      subst hk2
      have hup : upto p len len = p := by have := upto_full p; rw [hlen.out] at this; exact this
      rw [hup] at Hrow
      clear hup
      go_wp2
      go_ret
      exact ⟨_, rfl, Hrow.out, Nat.le_refl _, Hbw.out⟩

set_option maxHeartbeats 400000 in
theorem pnormal_any {I : IntPred} (hI : IK I) (A : Option Addr) (len cap : Nat) (p : List Int) (w : World) (h : PolyP I w A len cap p) (hs : SmP p) (hm : len ≤ 1099511627776) :
    Calls Try.prog 94 #[.slice A len cap] w fun e w' => ∃ g, e = .returned (.slice (some ⟨g, 0, none⟩) (plen p) (plen p)) ∧ PRow w' g (ptrim p) ∧ w.heap.size ≤ g ∧ Below w.heap.size w w' := by
  have hpl : plen p ≤ 1099511627776 := by have := plen_le p; have := h.length; omega
  go_enter Try.func94, Try.ntmps94
  go_wp2_with fail
  refine (ptrim_any hI _ _ _ _ _ h hs hm).mono ?_
  rintro e w1 ⟨l1, rfl, h1, rfl, hb1⟩
  have Hb1 := Lib.hid hb1
  have hs2 := hs.ptrim
  clear h hs hb1
  go_wp2_with fail
  refine (tnormal_any hI _ _ _ _ _ h1 hs2 hpl).mono ?_
  rintro e w2 ⟨g, rfl, h2, hg, hb2⟩
  have H2 := Lib.hid h2
  have Hb2 := Lib.hid (Hb1.out.trans (hb2.mono Hb1.out.size))
  have Hg := Lib.hid (Nat.le_trans Hb1.out.size hg)
  clear h1 h2 hb2 hg hs2
  go_wp2
  go_ret
  exact ⟨_, rfl, H2.out, Hg.out, Hb2.out⟩
end Go.Proofs.Ytfpliceenjbclaa
