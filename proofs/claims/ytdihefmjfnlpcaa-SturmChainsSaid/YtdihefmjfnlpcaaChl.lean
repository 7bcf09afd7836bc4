/- The walk of the law SturmChains: it answers true, and only makes new memory. -/
import Derived.Test.YtdihefmjfnlpcaaChc
import Derived.Test.YtdihefmjfnlpcaaCmp
import Derived.Test.YtdihefmjfnlpcaaStf
namespace Go.Proofs.Ytdihefmjfnlpcaa
open Go.RowKit

theorem short_bd {w : World} {A : Option Addr} {la ca : Nat} {p : List Int} (h : I16At w A la ca p) (n : Nat) (hn : n ≤ 7) : Bd 32768 (ptrim (p.take n)) ∧ plen (ptrim (p.take n)) ≤ 7 ∧ (ptrim (p.take n)).length ≤ 7 := by
  have h1 : plen (p.take n) ≤ 7 := by have := plen_le (p.take n); rw [List.length_take] at this; omega
  refine ⟨fun j => ?_, by rw [plen_ptrim]; exact h1, by rw [ptrim_length]; exact h1⟩
  rw [ptrim_getD]
  rcases Nat.lt_or_ge j (p.take n).length with h2 | h2
  · have hmem : (p.take n).getD j 0 ∈ p := by
      rw [List.getD_eq_getElem?_getD, List.getElem?_eq_getElem h2]
      exact List.mem_of_mem_take (List.getElem_mem _)
    have := h.range _ hmem
    omega
  · rw [getD_out _ h2]; omega
theorem bd_fit {f : List Int} (h : Bd 32768 f) : FitP f := fun k => by
  have h1 := h k
  refine Nat.lt_of_le_of_lt h1 (Nat.lt_of_lt_of_le (m := BB ^ 1) (by rw [Nat.pow_one, BB_eq]; omega) (Nat.pow_le_pow_right BB_pos (by omega)))

theorem dec_self (x : List Int) : decide (x = x) = true := decide_eq_true rfl

set_option maxRecDepth 100000 in
set_option maxHeartbeats 8000000 in
theorem law_chains (A : Option Addr) (la ca : Nat) (p : List Int) (B : Option Addr) (lb cb : Nat) (q : List Int) (w : World) (h : I16At w A la ca p) (h' : I16At w B lb cb q) (hla : la ≤ 9223372036854775807) (hlb : lb ≤ 9223372036854775807) :
    Calls Try.prog 3 #[.slice A la ca, .slice B lb cb] w fun e w' => e = .returned (.bool true) ∧ Below w.heap.size w w' := by
  obtain ⟨bf, pf, lf⟩ := short_bd h 7 (by omega)
  obtain ⟨bg, pg, lg⟩ := short_bd h' 7 (by omega)
  obtain ⟨f, hf⟩ : ∃ f, f = ptrim (p.take 7) := ⟨_, rfl⟩
  obtain ⟨g, hg⟩ : ∃ g, g = ptrim (q.take 7) := ⟨_, rfl⟩
  rw [← hf] at bf pf lf
  rw [← hg] at bg pg lg
  have ff := bd_fit bf
  have fg := bd_fit bg
  have OK := Lib.hid (chain_ok bf bg pf pg)
  have Hf := Lib.hid hf
  have Hg := Lib.hid hg
  have Ff := Lib.hid (show FitP (pred f) from bd_fit (pred_bd bf))
  have Fg := Lib.hid (show FitP (pred g) from bd_fit (pred_bd bg))
  clear hf hg
  go_enter Try.func3, Try.ntmps3
  go_wp2_with fail
  refine (awake15_any _).mono ?_
  rintro e w1 ⟨rfl, hb1⟩
  have h1 := h.below hb1
  have h1' := h'.below hb1
  have Hb1 := Lib.hid hb1
  clear h h' hb1
  go_wp2_with fail
  refine (short_any _ _ _ 7 _ _ h1 (by omega) hla).mono ?_
  rintro e w2 ⟨A2, l2, c2, rfl, h2, hb2⟩
  rw [← Hf.out] at h2
  have h2' := h1'.below hb2
  have H2 := Lib.hid h2
  have Hb2 := Lib.hid (Hb1.out.trans (hb2.mono Hb1.out.size))
  clear h1 h1' h2 hb2 Hb1
  go_wp2_with fail
  refine (short_any _ _ _ 7 _ _ h2' (by omega) hlb).mono ?_
  rintro e w3 ⟨A3, l3, c3, rfl, h3, hb3⟩
  rw [← Hg.out] at h3
  have h23 := H2.out.below ikN hb3
  have Hb3 := Lib.hid (Hb2.out.trans (hb3.mono Hb2.out.size))
  have hl2 : l2 ≤ 7 := by have := h23.length; omega
  have hl3 : l3 ≤ 7 := by have := h3.length; omega
  have H23 := Lib.hid h23
  have H3 := Lib.hid h3
  clear h2' hb3 H2 Hb2
  go_wp2_with fail
  refine (chain_any _ _ _ _ _ _ _ _ _ h23 h3 ff.smp fg.smp (by omega) (by omega) 10 OK.out (by have := chn_len 10 (pred f) (pred g); omega)).mono ?_
  rintro e w4 ⟨A4, l4, c4, rfl, h4, hb4⟩
  have H24 := Lib.hid (H23.out.below ikN hb4)
  have H34 := Lib.hid (H3.out.below ikN hb4)
  have Hb4 := Lib.hid (Hb3.out.trans (hb4.mono Hb3.out.size))
  have H4 := Lib.hid h4
  clear h23 h3 hb4 H23 H3 Hb3 h4
  go_wp2_with fail
  refine (degree_any _ _ _ _ _ (H24.out.at_ ikN) ff.smp (by omega)).mono ?_
  rintro e w5 ⟨rfl, hb5⟩
  have H25 := Lib.hid (H24.out.below ikN hb5)
  have H35 := Lib.hid (H34.out.below ikN hb5)
  have H45 := Lib.hid (H4.out.below hb5)
  have Hb5 := Lib.hid (Hb4.out.trans (hb5.mono Hb4.out.size))
  clear hb5 H24 H34 H4 Hb4
  have hL45 := H45.out.length
  by_cases hf0 : plen f = 0
  · have hd : ((plen f : Nat) : Int) - 1 < 0 := by omega
    have hl4 : l4 = 0 := by rw [← hL45]; unfold pchain; rw [if_pos hf0]; rfl
    subst hl4
    clear H25 H35 H45 hL45
    go_wp2
    go_ret
    exact ⟨rfl, Hb5.out⟩
  · have hd : ¬ ((plen f : Nat) : Int) - 1 < 0 := by omega
    have HF0 := Lib.hid hf0
    have hLe : pchain 10 f g = pred f :: chn 10 (pred f) (pred g) := by unfold pchain; rw [if_neg hf0]
    rw [hLe] at H45 hL45
    obtain ⟨LL, hLL⟩ : ∃ LL, LL = pred f :: chn 10 (pred f) (pred g) := ⟨_, rfl⟩
    rw [← hLL] at H45 hL45
    have hl4 : 0 < l4 := by rw [← hL45, hLL]; simp
    have hl4i : ((l4 : Int) == 0) = false := by rw [beq_eq_false_iff_ne]; omega
    have hl4j : (0 : Int) < (l4 : Int) := by omega
    have hl4b : l4 ≤ 11 := by rw [← hL45, hLL, List.length_cons]; have := chn_len 10 (pred f) (pred g); omega
    obtain ⟨b, off, hA4, hbl, hcs⟩ := H45.out.elems.resolve_left (by omega)
    subst hA4
    obtain ⟨A6, l6, c6, x0, hx0⟩ := hcs 0 (by omega)
    rw [Nat.add_zero] at x0
    rw [hLL, List.getD_cons_zero] at hx0
    have hl6 : l6 ≤ 7 := by have h5 := hx0.length; have h6 := pred_len f; omega
    have HX0 := Lib.hid hx0
    have HCS := Lib.hid hcs
    have HLL := Lib.hid hLL
    have HL45 := Lib.hid hL45
    have sPf : SmP (pred f) := Ff.out.smp
    clear hf0 hLe hcs hx0 hLL hL45
    go_wp2_with fail
    go_region_held3 (fun w' => w'.cell? ⟨b, off, none⟩ = some (.slice A6 l6 c6)) (go_keep) (first
      | (go_at_call 10; go_must (refine (lsigned_any ikN _ _ _ _ 1000000000 _ ?_ ff.dl (by omega) (by omega) Ff.out).mono ?_; (exact H25.out.below ikN (by (repeat (first | exact Below.refl _ _ | refine Below.drew ?_ | refine Below.alloc ?_ (by first | (simp; done) | (simp; omega) | omega) _ | refine Below.setCell ?_ (by first | (simp; done) | (simp; omega) | omega) _)))); rintro e w8 ⟨A8, l8, c8, rfl, h8, hb8⟩; have H8 := Lib.hid h8; have hl8 : l8 ≤ 7 := (by have h5 := h8.length; have h6 := pred_len f; omega); have Hb8 := Lib.hid (Hb5.out.trans ((Below.trans (by (repeat (first | exact Below.refl _ _ | refine Below.drew ?_ | refine Below.alloc ?_ (by first | (simp; done) | (simp; omega) | omega) _ | refine Below.setCell ?_ (by first | (simp; done) | (simp; omega) | omega) _))) (hb8.mono (by simp <;> omega))).mono Hb5.out.size)); have Hk8 : Hid (Below w5.heap.size w5 w8) := Lib.hid (Below.trans (by (repeat (first | exact Below.refl _ _ | refine Below.drew ?_ | refine Below.alloc ?_ (by first | (simp; done) | (simp; omega) | omega) _ | refine Below.setCell ?_ (by first | (simp; done) | (simp; omega) | omega) _))) (hb8.mono (by simp <;> omega))); obtain ⟨hcx, hfx⟩ := bcellS hb8; have v0 : w8.cell? ⟨b, off, none⟩ = some (.slice A6 l6 c6) := (hcx _ (by go_simp)).trans (by go_simp); clear h8 hcx hfx hb8))
      | (go_at_call 9; go_must (refine (same_any ikAt ikN _ _ _ _ _ _ _ _ _ ?_ ?_ sPf sPf (by omega) (by omega)).mono ?_; (exact (HX0.out.below ikAt Hk8.out).below ikAt (by (repeat (first | exact Below.refl _ _ | refine Below.drew ?_ | refine Below.alloc ?_ (by first | (simp; done) | (simp; omega) | omega) _ | refine Below.setCell ?_ (by first | (simp; done) | (simp; omega) | omega) _)))); (exact H8.out.below ikN (by (repeat (first | exact Below.refl _ _ | refine Below.drew ?_ | refine Below.alloc ?_ (by first | (simp; done) | (simp; omega) | omega) _ | refine Below.setCell ?_ (by first | (simp; done) | (simp; omega) | omega) _)))); rintro e w9 ⟨he, hb9⟩; rw [dec_self] at he; subst he; have Hb9 := Lib.hid (Hb8.out.trans ((Below.trans (by (repeat (first | exact Below.refl _ _ | refine Below.drew ?_ | refine Below.alloc ?_ (by first | (simp; done) | (simp; omega) | omega) _ | refine Below.setCell ?_ (by first | (simp; done) | (simp; omega) | omega) _))) (hb9.mono (by simp <;> omega))).mono Hb8.out.size)); have Hk9 : Hid (Below w5.heap.size w5 w9) := Lib.hid (Hk8.out.trans ((Below.trans (by (repeat (first | exact Below.refl _ _ | refine Below.drew ?_ | refine Below.alloc ?_ (by first | (simp; done) | (simp; omega) | omega) _ | refine Below.setCell ?_ (by first | (simp; done) | (simp; omega) | omega) _))) (hb9.mono (by simp <;> omega))).mono Hk8.out.size)); obtain ⟨hcx, hfx⟩ := bcellS hb9; have v1 : w9.cell? ⟨b, off, none⟩ = some (.slice A6 l6 c6) := (hcx _ (by go_simp)).trans (by go_simp); clear hcx hfx hb9)))
    have H26 := Lib.hid (H25.out.below ikN Hk9.out)
    have H36 := Lib.hid (H35.out.below ikN Hk9.out)
    have hbl9 : b < w9.heap.size := Nat.lt_of_lt_of_le hbl Hk9.out.size
    clear v0 v1 x0 hl4i H8 hl8 Hb8 Hk8 HX0 hl6 H25
    go_wp2_with fail
    refine (degree_any _ _ _ _ _ (H36.out.at_ ikN) fg.smp (by omega)).mono ?_
    rintro e w10 ⟨rfl, hb10⟩
    have Hk10 := Lib.hid (Hk9.out.trans (hb10.mono Hk9.out.size))
    have Hb10 := Lib.hid (Hb9.out.trans (hb10.mono Hb9.out.size))
    have H37 := Lib.hid (H36.out.below ikN hb10)
    clear hb10 H36 H26 Hk9 Hb9
    by_cases hg0 : plen g = 0
    · have hdg : ((plen g : Nat) : Int) - 1 < 0 := by omega
      have hl1 : l4 = 1 := by
        rw [← HL45.out, HLL.out]
        have e1 : pred g = [] := List.eq_nil_of_length_eq_zero (by rw [pred_len, hg0])
        rw [e1]; rfl
      subst hl1
      clear H37 H45 HCS
      go_wp2
      go_ret
      exact ⟨rfl, Hb10.out⟩
    · have hdg : ¬ ((plen g : Nat) : Int) - 1 < 0 := by omega
      have hgn : pred g ≠ [] := fun e1 => hg0 (by rw [← pred_len, e1]; rfl)
      obtain ⟨hfit, hok9⟩ := (show pred g = [] ∨ (ChFits (pred f) (pred g) ∧ chOK 9 (pred g) (nrem (pred f) (pred g))) from OK.out).resolve_left hgn
      have hLL2 : LL = [] ++ (pred f :: pred g :: chn 9 (pred g) (nrem (pred f) (pred g))) := by
        rw [HLL.out]
        show pred f :: (if pred g = [] then [] else pred g :: chn 9 (pred g) (nrem (pred f) (pred g))) = _
        rw [if_neg hgn]; rfl
      have hl2' : 1 < l4 := by rw [← HL45.out, hLL2]; simp
      have hl2i : decide ((l4 : Int) < 2) = false := decide_eq_false (by omega)
      have hl2j : (1 : Int) < (l4 : Int) := by omega
      obtain ⟨A7, l7, c7, y0, hy0⟩ := HCS.out 1 (by omega)
      rw [hLL2] at hy0
      have hy1 : PolyAt w5 A7 l7 c7 (pred g) := hy0
      have y1 := (Hk10.out.cell (p := ⟨b, off + 1, none⟩) hbl).trans y0
      have hl7 : l7 ≤ 7 := by have h5 := hy1.length; have h6 := pred_len g; omega
      have HY1 := Lib.hid (hy1.below ikAt Hk10.out)
      have sPg : SmP (pred g) := Fg.out.smp
      have Hfit := Lib.hid hfit
      have Hok9 := Lib.hid hok9
      have HLL2 := Lib.hid hLL2
      clear hy0 hy1 y0 hfit hok9 hLL2 hg0 hgn
      go_wp2_with fail
      go_region_held3 (fun w' => w'.cell? ⟨b, off + 1, none⟩ = some (.slice A7 l7 c7)) (go_keep) (first
        | (go_at_call 10; go_must (refine (lsigned_any ikN _ _ _ _ 1000000000 _ ?_ fg.dl (by omega) (by omega) Fg.out).mono ?_; (exact H37.out.below ikN (by (repeat (first | exact Below.refl _ _ | refine Below.drew ?_ | refine Below.alloc ?_ (by first | (simp; done) | (simp; omega) | omega) _ | refine Below.setCell ?_ (by first | (simp; done) | (simp; omega) | omega) _)))); rintro e w12 ⟨A8, l8, c8, rfl, h8, hb8⟩; have H8 := Lib.hid h8; have hl8 : l8 ≤ 7 := (by have h5 := h8.length; have h6 := pred_len g; omega); have Hb12 := Lib.hid (Hb10.out.trans ((Below.trans (by (repeat (first | exact Below.refl _ _ | refine Below.drew ?_ | refine Below.alloc ?_ (by first | (simp; done) | (simp; omega) | omega) _ | refine Below.setCell ?_ (by first | (simp; done) | (simp; omega) | omega) _))) (hb8.mono (by simp <;> omega))).mono Hb10.out.size)); have Hk12 := Lib.hid (Hk10.out.trans ((Below.trans (by (repeat (first | exact Below.refl _ _ | refine Below.drew ?_ | refine Below.alloc ?_ (by first | (simp; done) | (simp; omega) | omega) _ | refine Below.setCell ?_ (by first | (simp; done) | (simp; omega) | omega) _))) (hb8.mono (by simp <;> omega))).mono Hk10.out.size)); have HY2 := Lib.hid (HY1.out.below ikAt (Below.trans (by (repeat (first | exact Below.refl _ _ | refine Below.drew ?_ | refine Below.alloc ?_ (by first | (simp; done) | (simp; omega) | omega) _ | refine Below.setCell ?_ (by first | (simp; done) | (simp; omega) | omega) _))) (hb8.mono (by simp <;> omega)))); obtain ⟨hcx, hfx⟩ := bcellS hb8; have v0 : w12.cell? ⟨b, off + 1, none⟩ = some (.slice A7 l7 c7) := (hcx _ (by go_simp)).trans (by go_simp); clear h8 hcx hfx hb8))
        | (go_at_call 9; go_must (refine (same_any ikAt ikN _ _ _ _ _ _ _ _ _ ?_ ?_ sPg sPg (by omega) (by omega)).mono ?_; (exact HY2.out.below ikAt (by (repeat (first | exact Below.refl _ _ | refine Below.drew ?_ | refine Below.alloc ?_ (by first | (simp; done) | (simp; omega) | omega) _ | refine Below.setCell ?_ (by first | (simp; done) | (simp; omega) | omega) _)))); (exact H8.out.below ikN (by (repeat (first | exact Below.refl _ _ | refine Below.drew ?_ | refine Below.alloc ?_ (by first | (simp; done) | (simp; omega) | omega) _ | refine Below.setCell ?_ (by first | (simp; done) | (simp; omega) | omega) _)))); rintro e w13 ⟨he, hb9⟩; rw [dec_self] at he; subst he; have Hb13 := Lib.hid (Hb12.out.trans ((Below.trans (by (repeat (first | exact Below.refl _ _ | refine Below.drew ?_ | refine Below.alloc ?_ (by first | (simp; done) | (simp; omega) | omega) _ | refine Below.setCell ?_ (by first | (simp; done) | (simp; omega) | omega) _))) (hb9.mono (by simp <;> omega))).mono Hb12.out.size)); have Hk13 := Lib.hid (Hk12.out.trans ((Below.trans (by (repeat (first | exact Below.refl _ _ | refine Below.drew ?_ | refine Below.alloc ?_ (by first | (simp; done) | (simp; omega) | omega) _ | refine Below.setCell ?_ (by first | (simp; done) | (simp; omega) | omega) _))) (hb9.mono (by simp <;> omega))).mono Hk12.out.size)); obtain ⟨hcx, hfx⟩ := bcellS hb9; have v1 : w13.cell? ⟨b, off + 1, none⟩ = some (.slice A7 l7 c7) := (hcx _ (by go_simp)).trans (by go_simp); clear hcx hfx hb9)))
      clear v0 v1 y1 H8 hl8 Hb12 Hk12 HY1 HY2 hl7 H37 Hb10 Hk10 hbl9 hl2i hl4j hl4
      have hpf1 := Lib.hid (show plen (pred f) = (pred f).length by rw [pred_plen, pred_len])
      have hpg1 := Lib.hid (show plen (pred g) = (pred g).length by rw [pred_plen, pred_len])
      obtain ⟨wb, hwb⟩ : ∃ wb, wb = w13 := ⟨_, rfl⟩
      go_wp2
      go_loopw [8] (fun s8 wr => ∃ (pre : List (List Int)) (a b' : List Int) (j m : Nat), m = pre.length + 2 ∧ s8 = .int .i64 (m : Int) ∧ LL = pre ++ (a :: b' :: chn j b' (nrem a b')) ∧ ChFits a b' ∧ chOK j b' (nrem a b') ∧ plen a = a.length ∧ plen b' = b'.length ∧ Below w5.heap.size w5 wr) (fun s8 _ => l4 + 1 - (intOf s8).toNat)
      case atStart => exact ⟨[], _, _, 9, 2, rfl, rfl, HLL2.out, Hfit.out, Hok9.out, hpf1.out, hpg1.out, Hk13.out⟩
      case round =>
        clear HLL2 Hfit Hok9 Hk13 hpf1 hpg1 hwb
        obtain ⟨pre, a, b', j, m, hm, rfl, hL, hfit, hok, hpa, hpb, hbw⟩ := hrel
        obtain ⟨n0, hn0⟩ : ∃ n, n = pre.length := ⟨_, rfl⟩
        obtain ⟨n1, hn1⟩ : ∃ n, n = n0 + 1 := ⟨_, rfl⟩
        have hll : l4 = n0 + 2 + (chn j b' (nrem a b')).length := by rw [← HL45.out, hL, List.length_append, List.length_cons, List.length_cons]; omega
        have i0 : (m : Int) - 2 = (n0 : Int) := by omega
        have i1 : (m : Int) - 1 = (n1 : Int) := by omega
        have i2 : (m : Int) ≤ (l4 : Int) := by omega
        have i3 : n0 < l4 := by omega
        have i4 : n1 < l4 := by omega
        have i5 : IntKind.i64.wrap (n0 : Int) = (n0 : Int) := IntWalk.i64_in _ (by omega)
        have i6 : IntKind.i64.wrap (n1 : Int) = (n1 : Int) := IntWalk.i64_in _ (by omega)
        obtain ⟨Aa, la', ca', xa, hxa⟩ := HCS.out n0 i3
        obtain ⟨Ab, lb', cb', xb, hxb⟩ := HCS.out n1 i4
        have ea : LL.getD n0 [] = a := by rw [hL, List.getD_eq_getElem?_getD, hn0, List.getElem?_append_right (Nat.le_refl _), Nat.sub_self]; rfl
        have eb : LL.getD n1 [] = b' := by rw [hL, List.getD_eq_getElem?_getD, hn1, hn0, List.getElem?_append_right (by omega), show pre.length + 1 - pre.length = 1 by omega]; rfl
        rw [ea] at hxa
        rw [eb] at hxb
        have ya := (hbw.cell (p := ⟨b, off + n0, none⟩) hbl).trans xa
        have yb := (hbw.cell (p := ⟨b, off + n1, none⟩) hbl).trans xb
        have hbr : b < wr.heap.size := Nat.lt_of_lt_of_le hbl hbw.size
        have HA := Lib.hid (hxa.below ikAt hbw)
        have HB := Lib.hid (hxb.below ikAt hbw)
        have Hbw := Lib.hid hbw
        have hla1 : la' ≤ 1000000 := by have h5 := hxa.length; have h6 := hfit.la; omega
        have hlb1 : lb' ≤ 1000000 := by have h5 := hxb.length; have h6 := hfit.lb; omega
        have sA : SmP a := hfit.da.smp (by omega)
        have sB : SmP b' := hfit.fb.smp
        have hpb1 := hfit.b1
        have Hfit := Lib.hid hfit
        have Hok := Lib.hid hok
        have HL := Lib.hid hL
        have Hm := Lib.hid hm
        have Hn0 := Lib.hid hn0
        have Hn1 := Lib.hid hn1
        have Hll := Lib.hid hll
        have Hpa := Lib.hid hpa
        have Hpb := Lib.hid hpb
        obtain ⟨st, hst⟩ : ∃ st, st = a.length + 1 - b'.length := ⟨_, rfl⟩
        obtain ⟨Da, hDa⟩ : ∃ Da : Int, ((plen a : Nat) : Int) - 1 = Da := ⟨_, rfl⟩
        obtain ⟨Db, hDb⟩ : ∃ Db : Int, ((plen b' : Nat) : Int) - 1 = Db := ⟨_, rfl⟩
        have hba1 : plen a ≤ 1000000 := by have := hfit.la; omega
        have hbb1 : plen b' ≤ 1000000 := by have := hfit.lb; omega
        have w1' : IntKind.i64.wrap (Da - Db) = Da - Db := IntWalk.i64_in _ (by omega)
        have w2' : IntKind.i64.wrap (Da - Db + 1) = Da - Db + 1 := IntWalk.i64_in _ (by omega)
        have hmx : max (Da - Db + 1) 0 = (st : Int) := by omega
        have HDa := Lib.hid hDa
        have HDb := Lib.hid hDb
        have Hst := Lib.hid hst
        clear hfit hok hL hm hn0 hn1 hll hpa hpb hst hDa hDb hbw xa xb hxa hxb ea eb
        go_wp2_with fail
        go_region_held3 (fun w' => w'.cell? ⟨b, off + n0, none⟩ = some (.slice Aa la' ca') ∧ w'.cell? ⟨b, off + n1, none⟩ = some (.slice Ab lb' cb')) (go_keep) (first
          | (go_at_call 11; go_must (refine (pseudo_any ikAt ikAt _ _ _ _ _ _ _ _ 1000000000 _ ?_ ?_ Hfit.out.da Hfit.out.fb hpb1 hla1 hlb1 (by omega)).mono ?_; (exact HA.out.below ikAt (by (repeat (first | exact Below.refl _ _ | refine Below.drew ?_ | refine Below.alloc ?_ (by first | (simp; done) | (simp; omega) | omega) _ | refine Below.setCell ?_ (by first | (simp; done) | (simp; omega) | omega) _)))); (exact HB.out.below ikAt (by (repeat (first | exact Below.refl _ _ | refine Below.drew ?_ | refine Below.alloc ?_ (by first | (simp; done) | (simp; omega) | omega) _ | refine Below.setCell ?_ (by first | (simp; done) | (simp; omega) | omega) _)))); rintro e w14 ⟨B1, k1, d1, B2, k2, d2, rfl, g1, g2, hb8⟩; have G2 := Lib.hid g2; have HA1 := Lib.hid (HA.out.below ikAt (Below.trans (by (repeat (first | exact Below.refl _ _ | refine Below.drew ?_ | refine Below.alloc ?_ (by first | (simp; done) | (simp; omega) | omega) _ | refine Below.setCell ?_ (by first | (simp; done) | (simp; omega) | omega) _))) (hb8.mono (by simp <;> omega)))); have HB1 := Lib.hid (HB.out.below ikAt (Below.trans (by (repeat (first | exact Below.refl _ _ | refine Below.drew ?_ | refine Below.alloc ?_ (by first | (simp; done) | (simp; omega) | omega) _ | refine Below.setCell ?_ (by first | (simp; done) | (simp; omega) | omega) _))) (hb8.mono (by simp <;> omega)))); have Hbw1 := Lib.hid (Hbw.out.trans ((Below.trans (by (repeat (first | exact Below.refl _ _ | refine Below.drew ?_ | refine Below.alloc ?_ (by first | (simp; done) | (simp; omega) | omega) _ | refine Below.setCell ?_ (by first | (simp; done) | (simp; omega) | omega) _))) (hb8.mono (by simp <;> omega))).mono Hbw.out.size)); obtain ⟨hcx, hfx⟩ := bcellS hb8; have v0 : w14.cell? ⟨b, off + n0, none⟩ = some (.slice Aa la' ca') := (hcx _ (by go_simp)).trans (by go_simp); have v1 : w14.cell? ⟨b, off + n1, none⟩ = some (.slice Ab lb' cb') := (hcx _ (by go_simp)).trans (by go_simp); clear g1 g2 hcx hfx hb8)))
        clear ya yb HA HB Hbw
        go_wp2_with fail
        go_region_held3 (fun w' => w'.cell? ⟨b, off + n0, none⟩ = some (.slice Aa la' ca') ∧ w'.cell? ⟨b, off + n1, none⟩ = some (.slice Ab lb' cb')) (go_keep) (first
          | (go_at_call_of 8 (Value.slice Aa la' ca'); go_must (refine (degree_any _ _ _ _ _ ?_ sA (by omega)).mono ?_; (exact HA1.out.below ikAt (by (repeat (first | exact Below.refl _ _ | refine Below.drew ?_ | refine Below.alloc ?_ (by first | (simp; done) | (simp; omega) | omega) _ | refine Below.setCell ?_ (by first | (simp; done) | (simp; omega) | omega) _)))); rintro e w15 ⟨he, hb8⟩; rw [HDa.out] at he; subst he; have HB2 := Lib.hid (HB1.out.below ikAt (Below.trans (by (repeat (first | exact Below.refl _ _ | refine Below.drew ?_ | refine Below.alloc ?_ (by first | (simp; done) | (simp; omega) | omega) _ | refine Below.setCell ?_ (by first | (simp; done) | (simp; omega) | omega) _))) (hb8.mono (by simp <;> omega)))); have G3 := Lib.hid (G2.out.below ikN (Below.trans (by (repeat (first | exact Below.refl _ _ | refine Below.drew ?_ | refine Below.alloc ?_ (by first | (simp; done) | (simp; omega) | omega) _ | refine Below.setCell ?_ (by first | (simp; done) | (simp; omega) | omega) _))) (hb8.mono (by simp <;> omega)))); have Hbw2 := Lib.hid (Hbw1.out.trans ((Below.trans (by (repeat (first | exact Below.refl _ _ | refine Below.drew ?_ | refine Below.alloc ?_ (by first | (simp; done) | (simp; omega) | omega) _ | refine Below.setCell ?_ (by first | (simp; done) | (simp; omega) | omega) _))) (hb8.mono (by simp <;> omega))).mono Hbw1.out.size)); obtain ⟨hcx, hfx⟩ := bcellS hb8; have v2 : w15.cell? ⟨b, off + n0, none⟩ = some (.slice Aa la' ca') := (hcx _ (by go_simp)).trans (by go_simp); have v3 : w15.cell? ⟨b, off + n1, none⟩ = some (.slice Ab lb' cb') := (hcx _ (by go_simp)).trans (by go_simp); clear hcx hfx hb8))
          | (go_at_call_of 8 (Value.slice Ab lb' cb'); go_must (refine (degree_any _ _ _ _ _ ?_ sB (by omega)).mono ?_; (exact HB2.out.below ikAt (by (repeat (first | exact Below.refl _ _ | refine Below.drew ?_ | refine Below.alloc ?_ (by first | (simp; done) | (simp; omega) | omega) _ | refine Below.setCell ?_ (by first | (simp; done) | (simp; omega) | omega) _)))); rintro e w16 ⟨he, hb8⟩; rw [HDb.out] at he; subst he; have HB3 := Lib.hid (HB2.out.below ikAt (Below.trans (by (repeat (first | exact Below.refl _ _ | refine Below.drew ?_ | refine Below.alloc ?_ (by first | (simp; done) | (simp; omega) | omega) _ | refine Below.setCell ?_ (by first | (simp; done) | (simp; omega) | omega) _))) (hb8.mono (by simp <;> omega)))); have G4 := Lib.hid (G3.out.below ikN (Below.trans (by (repeat (first | exact Below.refl _ _ | refine Below.drew ?_ | refine Below.alloc ?_ (by first | (simp; done) | (simp; omega) | omega) _ | refine Below.setCell ?_ (by first | (simp; done) | (simp; omega) | omega) _))) (hb8.mono (by simp <;> omega)))); have Hbw3 := Lib.hid (Hbw2.out.trans ((Below.trans (by (repeat (first | exact Below.refl _ _ | refine Below.drew ?_ | refine Below.alloc ?_ (by first | (simp; done) | (simp; omega) | omega) _ | refine Below.setCell ?_ (by first | (simp; done) | (simp; omega) | omega) _))) (hb8.mono (by simp <;> omega))).mono Hbw2.out.size)); obtain ⟨hcx, hfx⟩ := bcellS hb8; have v4 : w16.cell? ⟨b, off + n0, none⟩ = some (.slice Aa la' ca') := (hcx _ (by go_simp)).trans (by go_simp); have v5 : w16.cell? ⟨b, off + n1, none⟩ = some (.slice Ab lb' cb') := (hcx _ (by go_simp)).trans (by go_simp); clear hcx hfx hb8)))
        clear v0 v1 v2 v3 HA1 HB1 HB2 G2 G3 Hbw1 Hbw2 hmx w1' w2' HDa HDb v4
        have sl : SmI (plead b') := sB.getD _
        have hpn : plead b' ≠ 0 := plead_ne (by omega)
        have hk2 : k2 ≤ 1000000 := by have h5 := G4.out.length; have h6 := Hfit.out.rl; omega
        obtain ⟨cn, hcn⟩ : ∃ cn : Bool, cn = decide (0 < plead b' ∨ st % 2 = 0) := ⟨_, rfl⟩
        have Hcn := Lib.hid hcn
        clear hcn
        go_upto_region 20 with fail
        go_cut [10, 108] (fun s10 s108 wx => s10 = .slice B2 k2 d2 ∧ s108 = .bool cn ∧ PolyN wx B2 k2 d2 (psr a b') ∧ Below w5.heap.size w5 wx)
        case first =>
          go_wp2_with fail
          refine (lead_any _ _ _ _ _ HB3.out sB (by omega)).mono ?_
          rintro e w17 ⟨n7, B7, k7, d7, rfl, h7, hb7⟩
          have G5 := Lib.hid (G4.out.below ikN hb7)
          have Hbw4 := Lib.hid (Hbw3.out.trans (hb7.mono Hbw3.out.size))
          clear hb7 HB3 G4 Hbw3 v5
          go_wp2_with fail
          refine (isign_any _ _ _ _ _ _ h7.at_ sl).mono ?_
          rintro e w18 ⟨rfl, rfl⟩
          have hb8 : Below w17.heap.size w17 (w17.alloc (ibox n7 B7 k7 d7)) := (Below.refl _ _).alloc (Nat.le_refl _) _
          have G6 := Lib.hid (G5.out.below ikN hb8)
          have Hbw5 := Lib.hid (Hbw4.out.trans (hb8.mono Hbw4.out.size))
          clear hb8 h7 G5 Hbw4
          by_cases hpos : 0 < plead b'
          · have hsl : decide (0 < sg (plead b')) = true := decide_eq_true (by rcases sg_cases (plead b') with ⟨_, e⟩ | ⟨_, e⟩ | ⟨_, e⟩ <;> omega)
            have hc1 : cn = true := by rw [Hcn.out]; exact decide_eq_true (.inl hpos)
            have HC1 := Lib.hid hc1
            clear hc1 hpos
            go_wp2_with (fail)
            go_meet
            exact ⟨rfl, by rw [HC1.out], G6.out, Hbw5.out⟩
          · have hsl : decide (0 < sg (plead b')) = false := decide_eq_false (by rcases sg_cases (plead b') with ⟨_, e⟩ | ⟨_, e⟩ | ⟨_, e⟩ <;> omega)
            by_cases hodd : st % 2 = 1
            · have ht : Int.tmod (st : Int) 2 = 1 := by rw [show (2 : Int) = ((2 : Nat) : Int) from rfl, ← Int.ofNat_tmod, hodd]; rfl
              have hc1 : cn = false := by rw [Hcn.out]; exact decide_eq_false (by omega)
              have HC1 := Lib.hid hc1
              clear hc1 hpos hodd
              go_wp2_with (fail)
              go_meet
              exact ⟨rfl, by rw [HC1.out], G6.out, Hbw5.out⟩
            · have ht : Int.tmod (st : Int) 2 = 0 := by rw [show (2 : Int) = ((2 : Nat) : Int) from rfl, ← Int.ofNat_tmod, show st % 2 = 0 by omega]; rfl
              have hc1 : cn = true := by rw [Hcn.out]; exact decide_eq_true (by omega)
              have HC1 := Lib.hid hc1
              clear hc1 hpos hodd
              go_wp2_with (fail)
              go_meet
              exact ⟨rfl, by rw [HC1.out], G6.out, Hbw5.out⟩
        case rest =>
        clear HB3 G4 Hbw3 v5
        obtain ⟨rfl, rfl, hG6, hbw5⟩ := hcut
        have G6 := Lib.hid hG6
        have Hbw5 := Lib.hid hbw5
        clear hG6 hbw5
        go_upto_if 108 with (fail)
        go_cut [10] (fun s10 wx => ∃ A9 l9 c9, s10 = .slice A9 l9 c9 ∧ PolyN wx A9 l9 c9 (rrem a b') ∧ Below w5.heap.size w5 wx)
        case first =>
          cases cn with
          | false =>
            have hh := of_decide_eq_false Hcn.out.symm
            have he : rrem a b' = psr a b' := by unfold rrem; rw [if_pos ⟨by rw [← Hst.out]; omega, by omega⟩]
            have HE := Lib.hid he
            clear he hh
            go_wp2_with (fail)
            go_meet
            exact ⟨_, _, _, rfl, by rw [HE.out]; exact G6.out, Hbw5.out⟩
          | true =>
            have hh := of_decide_eq_true Hcn.out.symm
            have he : rrem a b' = pmn (ptrim (psr a b')) := by unfold rrem; rw [if_neg (fun h5 => by have h6 := h5.1; rw [← Hst.out] at h6; have h7 := h5.2; omega)]
            have HE := Lib.hid he
            clear he hh
            go_wp2_with (fail)
            refine (polyneg_any ikN _ _ _ _ _ G6.out Hfit.out.r (by omega)).mono ?_
            rintro e w20 ⟨A9, l9, c9, rfl, h9, hb9⟩
            have H9 := Lib.hid h9
            have Hbw6 := Lib.hid (Hbw5.out.trans (hb9.mono Hbw5.out.size))
            clear h9 hb9
            go_wp2_with (fail)
            go_meet
            exact ⟨_, _, _, rfl, by rw [HE.out]; exact H9.out, Hbw6.out⟩
        case rest =>
          clear G6 Hbw5
          obtain ⟨A9, l9, c9, rfl, h9, hbw6⟩ := hcut
          have H9 := Lib.hid h9
          have Hbw6 := Lib.hid hbw6
          have hpr := rrem_plen a b'
          have hnl := nrem_len a b'
          have hpsr := plen_le (psr a b')
          have hrl := Hfit.out.rl
          have hrq : (rrem a b').length ≤ 1000000 := by
            unfold rrem
            split
            · exact hrl
            · rw [pmn_length, ptrim_length]
              omega
          have hl9 : l9 ≤ 1000000 := by have h5 := h9.length; omega
          have hdr : Dl 1000000000 (rrem a b') := by
            unfold rrem
            split
            · exact Hfit.out.rd
            · intro k; rw [pmn_get, ptrim_getD, Int.natAbs_neg]; exact Hfit.out.rd k
          have sr : SmP (rrem a b') := hdr.smp (by omega)
          obtain ⟨r, hr⟩ : ∃ r, r = rrem a b' := ⟨_, rfl⟩
          rw [← hr] at H9 hpr hdr sr
          have Hr := Lib.hid hr
          clear h9 hbw6 hr
          by_cases hn : nrem a b' = []
          · have hc0 : chn j b' (nrem a b') = [] := by
              rw [hn]
              cases j with
              | zero => rfl
              | succ j => rfl
            have hml : m = l4 := by have h5 := Hll.out; rw [hc0] at h5; simp at h5; have h6 := Hm.out; have h7 := Hn0.out; omega
            have hmi : ((m : Int) == (l4 : Int)) = true := by rw [hml]; simp
            have hr0 : plen r = 0 := by rw [hn] at hnl; simp at hnl; omega
            have Hr0 := Lib.hid hr0
            clear hml hn hc0 hpr hnl hr0
            go_wp2_with fail
            refine (degree_any _ _ _ _ _ (H9.out.at_ ikN) sr (by omega)).mono ?_
            rintro e w21 ⟨rfl, hb21⟩
            rw [Hr0.out, show (((0 : Nat) : Int) - 1) = -1 from rfl]
            have Hbw7 := Lib.hid (Hbw6.out.trans (hb21.mono Hbw6.out.size))
            clear hb21 H9 Hbw6
            go_wp2
            go_ret
            exact ⟨rfl, Hb5.out.trans (Hbw7.out.mono Hb5.out.size)⟩
          · match j, Hok with
            | j + 1, Hok =>
              obtain ⟨hfit2, hok2⟩ := (show nrem a b' = [] ∨ (ChFits b' (nrem a b') ∧ chOK j (nrem a b') (nrem b' (nrem a b'))) from Hok.out).resolve_left hn
              have hch : chn (j + 1) b' (nrem a b') = nrem a b' :: chn j (nrem a b') (nrem b' (nrem a b')) := by
                show (if nrem a b' = [] then [] else _) = _
                rw [if_neg hn]
              have hml : m < l4 := by have h5 := Hll.out; rw [hch, List.length_cons] at h5; have h6 := Hm.out; have h7 := Hn0.out; omega
              have hmi : ((m : Int) == (l4 : Int)) = false := by rw [beq_eq_false_iff_ne]; omega
              have hmj : (m : Int) < (l4 : Int) := by omega
              have hrn : plen r ≠ 0 := by
                intro e1
                exact hn (List.eq_nil_of_length_eq_zero (by omega))
              obtain ⟨Dr, hDr⟩ : ∃ Dr : Int, ((plen r : Nat) : Int) - 1 = Dr := ⟨_, rfl⟩
              have hDr0 : decide (Dr < 0) = false := decide_eq_false (by omega)
              have HDr := Lib.hid hDr
              obtain ⟨Ac, lc', cc', xc, hxc⟩ := HCS.out m hml
              have ec : LL.getD m [] = nrem a b' := by
                have h5 := HL.out
                rw [hch] at h5
                rw [h5, List.getD_eq_getElem?_getD, Hm.out, List.getElem?_append_right (by omega), show pre.length + 2 - pre.length = 2 by omega]; rfl
              rw [ec] at hxc
              have yc := (Hbw6.out.cell (p := ⟨b, off + m, none⟩) hbl).trans xc
              have hbr6 : b < _ := Nat.lt_of_lt_of_le hbl Hbw6.out.size
              have HC := Lib.hid (hxc.below ikAt Hbw6.out)
              have hlc : lc' ≤ 1000000 := by have h5 := hxc.length; omega
              have hfq : FitP (pred r) := by rw [Hr.out, pred_rrem]; exact hfit2.fb
              have hpq : pred r = nrem a b' := by rw [Hr.out, pred_rrem]
              have sN : SmP (nrem a b') := hfit2.fb.smp
              have Hpq := Lib.hid hpq
              have hLn : LL = (pre ++ [a]) ++ (b' :: nrem a b' :: chn j (nrem a b') (nrem b' (nrem a b'))) := by
                have h5 := HL.out
                rw [hch] at h5
                rw [h5]; simp
              have HLn := Lib.hid hLn
              have Hfit2 := Lib.hid hfit2
              have Hok2 := Lib.hid hok2
              have hnp : plen (nrem a b') = (nrem a b').length := by rw [nrem_plen, nrem_len]
              have Hnp := Lib.hid hnp
              have hmw : Hid (m + 1 = (pre ++ [a]).length + 2) := Lib.hid (by rw [List.length_append, Hm.out]; rfl)
              clear hfit2 hok2 hch hDr xc hxc ec hpq hLn hnp hn hrn hpr hnl
              go_wp2_with fail
              go_region_held3 (fun w' => w'.cell? ⟨b, off + m, none⟩ = some (.slice Ac lc' cc')) (go_keep) (first
                | (go_at_call 8; go_must (refine (degree_any _ _ _ _ _ ?_ sr (by omega)).mono ?_; (exact (H9.out.at_ ikN).below ikAt (by (repeat (first | exact Below.refl _ _ | refine Below.drew ?_ | refine Below.alloc ?_ (by first | (simp; done) | (simp; omega) | omega) _ | refine Below.setCell ?_ (by first | (simp; done) | (simp; omega) | omega) _)))); rintro e w22 ⟨he, hb8⟩; rw [HDr.out] at he; subst he; have H10 := Lib.hid (H9.out.below ikN (Below.trans (by (repeat (first | exact Below.refl _ _ | refine Below.drew ?_ | refine Below.alloc ?_ (by first | (simp; done) | (simp; omega) | omega) _ | refine Below.setCell ?_ (by first | (simp; done) | (simp; omega) | omega) _))) (hb8.mono (by simp <;> omega)))); have HC1 := Lib.hid (HC.out.below ikAt (Below.trans (by (repeat (first | exact Below.refl _ _ | refine Below.drew ?_ | refine Below.alloc ?_ (by first | (simp; done) | (simp; omega) | omega) _ | refine Below.setCell ?_ (by first | (simp; done) | (simp; omega) | omega) _))) (hb8.mono (by simp <;> omega)))); have Hbw7 := Lib.hid (Hbw6.out.trans ((Below.trans (by (repeat (first | exact Below.refl _ _ | refine Below.drew ?_ | refine Below.alloc ?_ (by first | (simp; done) | (simp; omega) | omega) _ | refine Below.setCell ?_ (by first | (simp; done) | (simp; omega) | omega) _))) (hb8.mono (by simp <;> omega))).mono Hbw6.out.size)); obtain ⟨hcx, hfx⟩ := bcellS hb8; have v0 : w22.cell? ⟨b, off + m, none⟩ = some (.slice Ac lc' cc') := (hcx _ (by go_simp)).trans (by go_simp); clear hcx hfx hb8))
                | (go_at_call 10; go_must (refine (lsigned_any ikN _ _ _ _ 1000000000 _ ?_ hdr (by omega) (by omega) hfq).mono ?_; (exact H10.out.below ikN (by (repeat (first | exact Below.refl _ _ | refine Below.drew ?_ | refine Below.alloc ?_ (by first | (simp; done) | (simp; omega) | omega) _ | refine Below.setCell ?_ (by first | (simp; done) | (simp; omega) | omega) _)))); rintro e w23 ⟨A8, l8, c8, rfl, h8, hb8⟩; rw [Hpq.out] at h8; have H8 := Lib.hid h8; have hl8 : l8 ≤ 1000000 := (by have h5 := h8.length; have h6 := HC.out.length; omega); have HC2 := Lib.hid (HC1.out.below ikAt (Below.trans (by (repeat (first | exact Below.refl _ _ | refine Below.drew ?_ | refine Below.alloc ?_ (by first | (simp; done) | (simp; omega) | omega) _ | refine Below.setCell ?_ (by first | (simp; done) | (simp; omega) | omega) _))) (hb8.mono (by simp <;> omega)))); have Hbw8 := Lib.hid (Hbw7.out.trans ((Below.trans (by (repeat (first | exact Below.refl _ _ | refine Below.drew ?_ | refine Below.alloc ?_ (by first | (simp; done) | (simp; omega) | omega) _ | refine Below.setCell ?_ (by first | (simp; done) | (simp; omega) | omega) _))) (hb8.mono (by simp <;> omega))).mono Hbw7.out.size)); obtain ⟨hcx, hfx⟩ := bcellS hb8; have v1 : w23.cell? ⟨b, off + m, none⟩ = some (.slice Ac lc' cc') := (hcx _ (by go_simp)).trans (by go_simp); clear h8 hcx hfx hb8))
                | (go_at_call 9; go_must (refine (same_any ikAt ikN _ _ _ _ _ _ _ _ _ ?_ ?_ sN sN (by omega) (by omega)).mono ?_; (exact HC2.out.below ikAt (by (repeat (first | exact Below.refl _ _ | refine Below.drew ?_ | refine Below.alloc ?_ (by first | (simp; done) | (simp; omega) | omega) _ | refine Below.setCell ?_ (by first | (simp; done) | (simp; omega) | omega) _)))); (exact H8.out.below ikN (by (repeat (first | exact Below.refl _ _ | refine Below.drew ?_ | refine Below.alloc ?_ (by first | (simp; done) | (simp; omega) | omega) _ | refine Below.setCell ?_ (by first | (simp; done) | (simp; omega) | omega) _)))); rintro e w24 ⟨he, hb9⟩; rw [dec_self] at he; subst he; have Hbw9 := Lib.hid (Hbw8.out.trans ((Below.trans (by (repeat (first | exact Below.refl _ _ | refine Below.drew ?_ | refine Below.alloc ?_ (by first | (simp; done) | (simp; omega) | omega) _ | refine Below.setCell ?_ (by first | (simp; done) | (simp; omega) | omega) _))) (hb9.mono (by simp <;> omega))).mono Hbw8.out.size)); obtain ⟨hcx, hfx⟩ := bcellS hb9; have v2 : w24.cell? ⟨b, off + m, none⟩ = some (.slice Ac lc' cc') := (hcx _ (by go_simp)).trans (by go_simp); clear hcx hfx hb9)))
              clear v0 v1 v2 H8 H9 H10 HC HC1 HC2 Hbw6 Hbw7 Hbw8 yc
              go_wp2
              go_roundw
              case rel => exact ⟨pre ++ [a], _, _, j, m + 1, hmw.out, by go_num, HLn.out, Hfit2.out, Hok2.out, Hpb.out, Hnp.out, Hbw9.out⟩
              case measure => simp [intOf]; omega
end Go.Proofs.Ytdihefmjfnlpcaa
