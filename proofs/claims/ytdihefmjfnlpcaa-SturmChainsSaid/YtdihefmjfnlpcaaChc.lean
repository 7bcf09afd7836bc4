/- What the law SturmChains compares; the walk of its function signed. -/
import Derived.Test.YtdihefmjfnlpcaaChb
import Derived.Test.YtdihefmjfnlpcaaPart
namespace Go.Proofs.Ytdihefmjfnlpcaa
open Go.RowKit

/-! ### Exact division by a constant -/
theorem exn_const2 (c : Int) (F : List Int) (hd : ∀ k, (F.getD k 0).tmod c = 0) : ∀ t, t ≤ F.length →
    (∀ k, (exn c [c] 0 F.length F t).1.getD k 0 = if F.length - t ≤ k then (F.getD k 0).tdiv c else 0) ∧
    ∀ k, (exn c [c] 0 F.length F t).2.getD k 0 = if F.length - t ≤ k then 0 else F.getD k 0
  | 0, _ => by
    refine ⟨fun k => ?_, fun k => ?_⟩
    · rw [show (exn c [c] 0 F.length F 0).1 = List.replicate F.length 0 from rfl]
      rcases Nat.lt_or_ge k F.length with h | h
      · rw [if_neg (by omega)]; simp [List.getD_eq_getElem?_getD, h]
      · rw [if_pos (by omega), getD_out F h, getD_out _ (by simpa using h)]; simp
    · rw [show (exn c [c] 0 F.length F 0).2 = F from rfl]
      rcases Nat.lt_or_ge k F.length with h | h
      · rw [if_neg (by omega)]
      · rw [if_pos (by omega), getD_out F h]
  | t + 1, ht => by
    obtain ⟨h1, h2⟩ := exn_const2 c F hd t (by omega)
    have l1 := exn_length1 c [c] 0 F.length F t
    have l2 := exn_length2 c [c] 0 F.length F t
    obtain ⟨low, hlow⟩ : ∃ low, low = F.length - 1 - t := ⟨_, rfl⟩
    have e1 : (exn c [c] 0 F.length F (t + 1)).1 = (exn c [c] 0 F.length F t).1.set low (((exn c [c] 0 F.length F t).2.getD low 0).tdiv c) := by rw [hlow]; rfl
    have e2 : (exn c [c] 0 F.length F (t + 1)).2 = exRow (((exn c [c] 0 F.length F t).2.getD low 0).tdiv c) [c] low (exn c [c] 0 F.length F t).2 1 := by rw [hlow]; rfl
    have hv : (exn c [c] 0 F.length F t).2.getD low 0 = F.getD low 0 := by rw [h2, if_neg (by omega)]
    rw [e1, e2, hv]
    generalize exn c [c] 0 F.length F t = S at *
    refine ⟨fun k => ?_, fun k => ?_⟩
    · rw [List.getD_eq_getElem?_getD]
      rcases Nat.decEq k low with hne | heq
      · rw [List.getElem?_set_ne (by omega), ← List.getD_eq_getElem?_getD, h1]
        by_cases h3 : F.length - t ≤ k
        · rw [if_pos h3, if_pos (by omega)]
        · rw [if_neg h3, if_neg (by omega)]
      · subst heq
        rw [List.getElem?_set_self (by omega), if_pos (by omega)]; rfl
    · rcases Nat.lt_or_ge k S.2.length with h3 | h3
      · rw [exRow_get _ _ _ _ _ h3]
        by_cases h4 : low ≤ k ∧ k < low + 1
        · have : k = low := by omega
          subst this
          rw [if_pos h4, if_pos (by omega), hv, Nat.sub_self]
          have h5 := Int.tdiv_mul_add_tmod (F.getD k 0) c
          have h6 := hd k
          show F.getD k 0 - (F.getD k 0).tdiv c * ([c].getD 0 0) = 0
          rw [show ([c].getD 0 0 : Int) = c from rfl]
          omega
        · rw [if_neg h4, h2]
          by_cases h5 : F.length - t ≤ k
          · rw [if_pos h5, if_pos (by omega)]
          · rw [if_neg h5, if_neg (by omega)]
      · rw [getD_out _ (by rw [exRow_length]; exact h3)]
        split
        · rfl
        · rw [getD_out F (by omega)]

/-- f divided by its content -/
def psd (f : List Int) : List Int := (ptrim f).map (·.tdiv (pcont f : Int))
theorem plen_one {c : Int} (h : c ≠ 0) : plen [c] = 1 := by simp [plen, h]
theorem plead_one {c : Int} (h : c ≠ 0) : plead [c] = c := by unfold plead; rw [plen_one h]; rfl
theorem tmod_cont (f : List Int) (k : Nat) : (f.getD k 0).tmod (pcont f : Int) = 0 := by
  have h := pcont_get f k
  exact Int.tmod_eq_zero_of_dvd (Int.ofNat_dvd_left.2 h)
theorem ex_cont {D : Nat} {f : List Int} (h0 : plen f ≠ 0) (hd : Dl D f) (hq : ∀ k, Fit ((f.getD k 0).tdiv (pcont f : Int))) : ExOK D f [(pcont f : Int)] ∧ pexq f [(pcont f : Int)] = psd f := by
  have hc : (pcont f : Int) ≠ 0 := by have := pcont_ne h0; omega
  have hm : plen f - (plen [(pcont f : Int)] - 1) = plen f := by rw [plen_one hc]; omega
  have hd0 : plen [(pcont f : Int)] - 1 = 0 := by rw [plen_one hc]
  have hl := ptrim_length f
  have hdv : ∀ k, ((ptrim f).getD k 0).tmod (pcont f : Int) = 0 := fun k => by rw [ptrim_getD]; exact tmod_cont f k
  have hE := exn_const2 (pcont f : Int) (ptrim f) hdv
  rw [hl] at hE
  refine ⟨⟨?_, ?_, ?_, ?_⟩, ?_⟩
  · rw [hm, hd0, plead_one hc]
    intro t ht j
    obtain ⟨_, h2⟩ := hE t (by omega)
    rw [Nat.add_zero, h2, if_neg (by omega), ptrim_getD]
    exact (hq _).mulok _
  · rw [hm, hd0, plead_one hc]
    intro t ht
    obtain ⟨_, h2⟩ := hE t (by omega)
    rw [Nat.add_zero, h2, if_neg (by omega)]
    exact hdv _
  · rw [hm, hd0, plead_one hc]
    intro t ht k
    obtain ⟨_, h2⟩ := hE t ht
    rw [h2]
    split
    · show dlen 0 ≤ D
      rw [dlen_zero]; exact Nat.zero_le _
    · rw [ptrim_getD]; exact hd k
  · rw [hm, hd0, plead_one hc]
    obtain ⟨_, h2⟩ := hE (plen f) (Nat.le_refl _)
    have := plen_le_of (p := (exn (pcont f : Int) [(pcont f : Int)] 0 (plen f) (ptrim f) (plen f)).2) (n := 0) (fun k _ => by rw [h2, if_pos (by omega)])
    omega
  · unfold pexq
    rw [hm, hd0, plead_one hc]
    obtain ⟨h1, _⟩ := hE (plen f) (Nat.le_refl _)
    refine eq_of_getD' (by rw [exn_length1]; unfold psd; rw [List.length_map, hl]) fun k hk => ?_
    rw [h1, if_pos (by omega)]
    unfold psd
    rw [List.getD_eq_getElem?_getD, List.getD_eq_getElem?_getD, List.getElem?_map]
    cases (ptrim f)[k]? with
    | none => simp
    | some x => rfl

theorem psd_get (f : List Int) (k : Nat) : (psd f).getD k 0 = (f.getD k 0).tdiv (pcont f : Int) := by
  have h2 := ptrim_getD f k
  unfold psd
  rw [List.getD_eq_getElem?_getD, List.getElem?_map]
  rw [List.getD_eq_getElem?_getD] at h2
  cases e : (ptrim f)[k]? with
  | none => rw [e] at h2; rw [← h2]; simp
  | some x => rw [e] at h2; rw [← h2]; rfl
theorem pred_psd {f : List Int} (h0 : plen f ≠ 0) : pred f = psd f := by
  refine eq_of_getD' (by rw [pred_len]; unfold psd; rw [List.length_map, ptrim_length]) fun k _ => ?_
  rw [psd_get]
  have hne := plead_ne h0
  unfold pred
  split
  · rename_i h
    have hs : sg (plead f) = -1 := by rcases sg_cases (plead f) with ⟨_, e⟩ | ⟨_, e⟩ | ⟨_, e⟩ <;> omega
    rw [pmn_get, ptrim_getD, pprim_get f h0, hs, Int.neg_mul, Int.one_mul, Int.tdiv_neg, Int.neg_neg]
  · have hs : sg (plead f) = 1 := by rcases sg_cases (plead f) with ⟨_, e⟩ | ⟨_, e⟩ | ⟨_, e⟩ <;> omega
    rw [pprim_get f h0, hs, Int.one_mul]

set_option maxHeartbeats 400000 in
theorem lsigned_any {I : IntPred} (hI : IK I) (A : Option Addr) (len cap : Nat) (f : List Int) (D : Nat) (w : World) (h : PolyP I w A len cap f) (hd : Dl D f) (hD : D ≤ 1000000000) (hm : len ≤ 1000000) (hq : FitP (pred f)) :
    Calls Try.prog 10 #[.slice A len cap] w fun e w' => ∃ A' l' c', e = .returned (.slice A' l' c') ∧ PolyN w' A' l' c' (pred f) ∧ Below w.heap.size w w' := by
  have hs : SmP f := hd.smp (by omega)
  have hpl : plen f ≤ 1000000 := by have := plen_le f; have := h.length; omega
  go_enter Try.func10, Try.ntmps10
  go_wp2_with fail
  refine (degree_any _ _ _ _ _ (h.at_ hI) hs (by omega)).mono ?_
  rintro e w1 ⟨rfl, hb1⟩
  have h1 := h.below hI hb1
  have Hb1 := Lib.hid hb1
  clear h hb1
  by_cases h0 : plen f = 0
  · have hdn : ((plen f : Nat) : Int) - 1 < 0 := by omega
    have H0 := Lib.hid h0
    clear h1 h0
    go_wp2
    go_ret
    exact ⟨_, _, _, rfl, by
      have e1 : pred f = [] := List.eq_nil_of_length_eq_zero (by rw [pred_len, H0.out])
      rw [e1]; exact PolyP.nil _ _ _ _, Hb1.out⟩
  · have hdn : ¬ ((plen f : Nat) : Int) - 1 < 0 := by omega
    obtain ⟨hok, hq2⟩ := ex_cont h0 hd (fun k => by have h5 := hq k; rw [pred_psd h0, psd_get] at h5; exact h5)
    have Hq := Lib.hid (hq2.trans (pred_psd h0).symm)
    have hcn : (pcont f : Int) ≠ 0 := by have := pcont_ne h0; omega
    have h1c : 1 ≤ plen [(pcont f : Int)] := by rw [plen_one hcn]; exact Nat.le_refl _
    have hfc : Dl 1000000000 [(pcont f : Int)] := fun k => by
      rcases Nat.eq_zero_or_pos k with h5 | h5
      · subst h5
        show dlen (pcont f : Int).natAbs ≤ _
        rw [Int.natAbs_natCast]
        have h6 := hd (plen f - 1)
        have h7 : pcont f ≤ (f.getD (plen f - 1) 0).natAbs := Nat.le_of_dvd (by have := plead_ne h0; unfold plead at this; omega) (pcont_get f _)
        have h8 := dlen_mono h7
        omega
      · rw [getD_out _ (by simp; omega)]; show dlen 0 ≤ _; rw [dlen_zero]; omega
    have Hok := Lib.hid hok
    clear hq2 hok hcn h0
    go_wp2_with fail
    refine (content_any hI _ _ _ _ _ h1 hs (by omega)).mono ?_
    rintro e w2 ⟨n2, A2, l2, c2, rfl, h2, hb2⟩
    have hp := poly_ibox h2
    have hba : Below w2.heap.size w2 (w2.alloc (ibox n2 A2 l2 c2)) := (Below.refl _ _).alloc (Nat.le_refl _) _
    have h12 := (h1.below hI hb2).below hI hba
    have Hb2 := Lib.hid (Hb1.out.trans ((hb2.trans (hba.mono hb2.size)).mono Hb1.out.size))
    clear h1 h2 hb2 hba
    go_wp2_with fail
    refine (exact_any hI ikN _ _ _ _ _ _ _ _ D 1000000000 _ h12 hp hs hfc h1c hm (by omega) hD (by omega) Hok.out).mono ?_
    rintro e w3 ⟨A3, l3, c3, rfl, h3, hb3⟩
    rw [Hq.out] at h3
    have H3 := Lib.hid h3
    have Hb3 := Lib.hid (Hb2.out.trans (hb3.mono Hb2.out.size))
    clear h12 hp h3 hb3
    go_wp2
    go_ret
    exact ⟨_, _, _, rfl, H3.out, Hb3.out⟩

/-! ### The remainder of the law -/
def rrem (a b : List Int) : List Int := if (a.length + 1 - b.length) % 2 = 1 ∧ plead b < 0 then psr a b else pmn (ptrim (psr a b))
theorem plead_pmn (p : List Int) : plead (pmn p) = -plead p := by unfold plead; rw [plen_pmn, pmn_get]
theorem plead_trim (p : List Int) : plead (ptrim p) = plead p := by unfold plead; rw [plen_ptrim, ptrim_getD]
theorem pcont_congr {p q : List Int} (h : ∀ k, (p.getD k 0).natAbs = (q.getD k 0).natAbs) : pcont p = pcont q := by
  have hall : ∀ (p : List Int) (d : Nat), (∀ k, d ∣ (p.getD k 0).natAbs) → d ∣ pcont p := by
    intro p
    induction p with
    | nil => intro d _; exact Nat.dvd_zero _
    | cons x t ih =>
      intro d hd
      show d ∣ Nat.gcd x.natAbs (pcont t)
      exact Nat.dvd_gcd (by simpa using hd 0) (ih d (fun k => by simpa using hd (k + 1)))
  exact Nat.dvd_antisymm (hall q _ (fun k => by rw [← h]; exact pcont_get p k)) (hall p _ (fun k => by rw [h]; exact pcont_get q k))
theorem pred_pmn (x : List Int) : pred (pmn (ptrim x)) = pmn (ptrim (pred x)) := by
  have e0 : plen (pmn (ptrim x)) = plen x := by rw [plen_pmn, plen_ptrim]
  by_cases h0 : plen x = 0
  · have e1 : pred (pmn (ptrim x)) = [] := List.eq_nil_of_length_eq_zero (by rw [pred_len, e0, h0])
    have e2 : pred x = [] := List.eq_nil_of_length_eq_zero (by rw [pred_len, h0])
    rw [e1, e2]; rfl
  · rw [pred_psd (by rw [e0]; exact h0), pred_psd h0]
    have hc : pcont (pmn (ptrim x)) = pcont x := pcont_congr fun k => by rw [pmn_get, ptrim_getD, Int.natAbs_neg]
    refine eq_of_getD' ?_ fun k _ => ?_
    · have e1 : (psd (pmn (ptrim x))).length = plen x := by unfold psd; rw [List.length_map, ptrim_length, e0]
      have e2 : plen (psd x) = plen x := by rw [← pred_psd h0, pred_plen]
      rw [e1, pmn_length, ptrim_length, e2]
    · rw [psd_get, hc, pmn_get, ptrim_getD, pmn_get, ptrim_getD, psd_get, Int.neg_tdiv]
theorem pred_rrem (a b : List Int) : pred (rrem a b) = nrem a b := by
  unfold rrem nrem
  split
  · rfl
  · exact pred_pmn _
theorem rrem_plen (a b : List Int) : plen (rrem a b) = plen (psr a b) := by
  unfold rrem
  split
  · rfl
  · rw [plen_pmn, plen_ptrim]
end Go.Proofs.Ytdihefmjfnlpcaa
