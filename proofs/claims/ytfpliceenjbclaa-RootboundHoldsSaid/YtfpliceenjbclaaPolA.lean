/- The walks of package unipoly, first part: trim, Degree, Lead. -/
import Derived.Test.YtfpliceenjbclaaPol
namespace Go.Proofs.Ytfpliceenjbclaa
open Go.RowKit

theorem SmI.zero : SmI 0 := by show dlen 0 ≤ _; rw [dlen_zero]; omega

set_option maxHeartbeats 1000000 in
theorem ptrim_any {I : IntPred} (hI : IK I) (A : Option Addr) (len cap : Nat) (p : List Int) (w : World) (h : PolyP I w A len cap p) (hs : SmP p) (hm : len ≤ 1099511627776) :
    Calls Try.prog 115 #[.slice A len cap] w fun e w' => ∃ len', e = .returned (.slice A len' cap) ∧ PolyP I w' A len' cap (ptrim p) ∧ len' = plen p ∧ Below w.heap.size w w' := by
  have hfin : PolyP I w A (plen p) cap (ptrim p) := h.take (by have := plen_le p; have := h.length; omega)
  have htl : plen p ≤ len := by have := plen_le p; have := h.length; omega
  have hcap := h.cap
  go_enter Try.func115, Try.ntmps115
  go_wp2
  go_loopw [3] (fun n wr => ∃ k : Nat, k ≤ len ∧ plen p ≤ k ∧ n = .int .i64 k ∧ Below w.heap.size w wr) (fun n _ => (intOf n).toNat)
  case atStart => exact ⟨len, by omega, by omega, rfl, Below.refl _ _⟩
  case round =>
    obtain ⟨k, hk, ht, rfl, hbw⟩ := hrel
    have Hf := Lib.hid (hfin.below hI hbw)
    have Hb := Lib.hid hbw
    cases k with
    | zero =>
      have h0 : plen p = 0 := by omega
      have H0 := Lib.hid h0
      clear hfin h hbw h0 ht htl
      go_wp2
      go_ret
      rw [H0.out] at Hf
      exact ⟨0, rfl, Hf.out, H0.out.symm, Hb.out⟩
    | succ k =>
      obtain ⟨b, off, rfl, hb, hc⟩ := h.get (by omega)
      obtain ⟨neg, Aj, lj, cj, c0, c1, hz⟩ := hc k (by omega)
      have e0 := (hbw.cell (p := ⟨b, off + k * 2, none⟩) hb).trans c0
      have e1 := (hbw.cell (p := ⟨b, off + k * 2 + 1, none⟩) hb).trans c1
      have hz2 := (hI.at_ hz).below hbw
      have hpr := Lib.hid (plen_pred p k ht)
      have heq := Lib.hid (plen_eq p k ht)
      have hsk := hs.getD k
      clear hc h hfin hbw c0 c1 hz
      go_wp2_with fail
      refine (isign_any _ _ _ _ _ _ hz2 hsk).mono ?_
      rintro e w2 ⟨rfl, rfl⟩
      have hbn : Below w.heap.size w (wr.alloc (Obj.cells #[Value.bool neg, Value.slice Aj lj cj] 43)) := Hb.out.alloc Hb.out.size _
      have hfn := Hf.out.below hI ((Below.refl wr.heap.size wr).alloc (Nat.le_refl _) (Obj.cells #[Value.bool neg, Value.slice Aj lj cj] 43))
      have Hbn := Lib.hid hbn
      have Hfn := Lib.hid hfn
      clear hbn hfn hz2 hsk
      by_cases h0 : p.getD k 0 = 0
      · rw [h0]
        have hb0 : (sg 0 == 0) = true := rfl
        have H0 := Lib.hid h0
        clear h0
        go_wp2
        go_roundw
        case rel => exact ⟨k, by omega, hpr.out H0.out, by go_num, Hbn.out⟩
        case measure => simp [intOf]
      · have hb0 : (sg (p.getD k 0) == 0) = false := by
          rw [beq_eq_false_iff_ne]
          intro h1
          rcases sg_cases (p.getD k 0) with ⟨a1, a2⟩ | ⟨a1, a2⟩ | ⟨a1, a2⟩ <;> omega
        have h1 := heq.out h0
        generalize sg (p.getD k 0) = s at hb0 ⊢
        clear h0
        have H1 := Lib.hid h1
        clear h1
        go_wp2
        go_ret
        rw [H1.out] at Hfn
        exact ⟨k + 1, rfl, Hfn.out, H1.out.symm, Hbn.out⟩

set_option maxHeartbeats 400000 in
theorem degree_any (A : Option Addr) (len cap : Nat) (p : List Int) (w : World) (h : PolyAt w A len cap p) (hs : SmP p) (hm : len ≤ 1099511627776) :
    Calls Try.prog 56 #[.slice A len cap] w fun e w' => e = .returned (.int .i64 ((plen p : Nat) - 1 : Int)) ∧ Below w.heap.size w w' := by
  have hpl : plen p ≤ 1099511627776 := by have := plen_le p; have := h.length; omega
  go_enter Try.func56, Try.ntmps56
  go_wp2_with fail
  refine (ptrim_any ikAt _ _ _ _ _ h hs hm).mono ?_
  rintro e w1 ⟨l1, rfl, h1, rfl, hb⟩
  have Hb := Lib.hid hb
  clear h h1 hb
  go_wp2
  go_ret
  exact ⟨rfl, Hb.out⟩

/-- the leading coefficient -/
def plead (p : List Int) : Int := p.getD (plen p - 1) 0

set_option maxHeartbeats 1000000 in
theorem lead_any (A : Option Addr) (len cap : Nat) (p : List Int) (w : World) (h : PolyAt w A len cap p) (hs : SmP p) (hm : len ≤ 1099511627776) :
    Calls Try.prog 64 #[.slice A len cap] w fun e w' => ∃ neg' A' len' cap', e = .returned (.agg #[.bool neg', .slice A' len' cap']) ∧ IntN w' neg' A' len' cap' (plead p) ∧ Below w.heap.size w w' := by
  have hb0 : Below w.heap.size w (w.alloc (ibox false none 0 0)) := (Below.refl _ _).alloc (Nat.le_refl _) _
  have h0 := h.below ikAt hb0
  have hpl : plen p ≤ 1099511627776 := by have := plen_le p; have := h.length; omega
  have hlen := Lib.hid h.length
  clear h
  go_enter Try.func64, Try.ntmps64
  go_wp2_with fail
  refine (ptrim_any ikAt _ _ _ _ _ h0 hs hm).mono ?_
  rintro e w1 ⟨l1, rfl, h1, hl1, hb1⟩
  obtain ⟨hc, hf⟩ := bcell hb1
  have hsz := hb1.size
  simp only [World.size_alloc] at hsz
  have Hb1 := Lib.hid hb1
  have Hb0 := Lib.hid hb0
  clear hb1 hb0 h0
  by_cases hz : plen p = 0
  · subst hl1
    rw [hz]
    have hp0 : plead p = 0 := by
      unfold plead
      rw [hz]
      cases p with
      | nil => rfl
      | cons d ds =>
        by_cases h2 : plen ds = 0
        · by_cases h3 : d = 0
          · simp [h3]
          · rw [plen_cons_one h2 h3] at hz; omega
        · rw [plen_cons_succ h2] at hz; omega
    have HI : Hid (IntN w1 false none 0 0 (plead p)) := by rw [hp0]; exact ⟨NatN.zero _ _ _, by simp⟩
    have Hc := Lib.hid hc
    clear h1 hz hp0
    go_wp2
    refine bodyPost_ret (v := .agg #[.bool false, .slice none 0 0]) (by simp [results, Try.results64, go_sem, hc]) rfl ⟨_, _, _, _, rfl, HI.out.ret _ _ (b0 := false) (A0 := none) (l0 := 0) (c0 := 0) ?_ ?_, ?_⟩
    · rw [Hc.out _ _ (by simp)]; go_simp
    · rw [Hc.out _ _ (by simp)]; go_simp
    · exact ((Hb0.out.trans (Hb1.out.mono Hb0.out.size)).setCell (by simp) _).setCell (by simp) _
  · obtain ⟨k, hk⟩ : ∃ k, l1 = k + 1 := ⟨l1 - 1, by omega⟩
    subst hk
    have hk2 : k ≤ 1099511627776 := by omega
    have Hl1 := Lib.hid hl1
    clear hl1
    obtain ⟨b, off, rfl, hb, hcc⟩ := h1.get (by omega)
    obtain ⟨neg, Aj, lj, cj, c0, c1, hzz⟩ := hcc k (by omega)
    have hsk := hs.ptrim.getD k
    have hval : Hid ((ptrim p).getD k 0 = plead p) := by
      show _ = _
      have := Hl1.out
      unfold plead ptrim
      rw [← this]
      simp [List.getD_eq_getElem?_getD]
    clear hcc h1 hz
    go_wp2_with fail
    refine (inormal_any _ _ _ _ _ _ hzz hsk).mono ?_
    rintro e w2 ⟨n2, A2, l2, c2, rfl, h2, hb2⟩
    clear hc hf
    have hb3 := Hb1.out.trans (hb2.mono Hb1.out.size)
    obtain ⟨hc, hf⟩ := bcell hb3
    have hsz2 := hb2.size
    have Hc := Lib.hid hc
    have H2 := Lib.hid h2
    rw [hval.out] at H2
    have Hb3 := Lib.hid hb3
    clear h2 hb2 hb3 hzz hsk c0 c1
    go_wp2
    refine bodyPost_ret (v := .agg #[.bool n2, .slice A2 l2 c2]) (by simp [results, Try.results64, go_sem, hc]) rfl ⟨_, _, _, _, rfl, H2.out.ret _ _ (b0 := false) (A0 := none) (l0 := 0) (c0 := 0) ?_ ?_, ?_⟩
    · rw [Hc.out _ _ (by simp)]; go_simp
    · rw [Hc.out _ _ (by simp)]; go_simp
    · exact ((Hb0.out.trans (Hb3.out.mono Hb0.out.size)).setCell (by simp) _).setCell (by simp) _
end Go.Proofs.Ytfpliceenjbclaa
