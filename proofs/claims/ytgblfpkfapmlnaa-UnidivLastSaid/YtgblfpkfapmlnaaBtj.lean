/- The walks of cylinderref08.Add, Scale, Up. -/
import Derived.Test.YtgblfpkfapmlnaaBti
namespace Go.Proofs.Ytgblfpkfapmlnaa
open Go.RowKit

/-- what the functions on polynomials of the reference return -/
def PRet (w : World) (f : List Int) (nn : Prop) (e : Ending) (w' : World) : Prop := ∃ A l c, e = .returned (.slice A l c) ∧ ZP w' A l c f ∧ (nn → ∃ b off, A = some ⟨b, off, none⟩) ∧ Below w.heap.size w w'
/-- every coefficient has at most B bits -/
def ZB (B : Nat) (f : List Int) : Prop := ∀ j, bln (f.getD j 0).natAbs ≤ B

theorem take_tab (M : Nat) (F : Nat → Int) {k : Nat} (hk : k < M) : (tab M F).take k ++ [F k] = (tab M F).take (k + 1) := by
  rw [List.take_add_one]
  simp [tab, hk]
theorem take_tab_all (M : Nat) (F : Nat → Int) : (tab M F).take M = tab M F := List.take_of_length_le (by rw [tab_length]; exact Nat.le_refl _)
theorem take_tab_len (M : Nat) (F : Nat → Int) {k : Nat} (hk : k ≤ M) : ((tab M F).take k).length = k := by rw [List.length_take, tab_length]; omega
/-- the sum as the reference makes it -/
def zps (f g : List Int) : List Int := ptrim (tab (max f.length g.length) (fun j => f.getD j 0 + g.getD j 0))
theorem zps_get (f g : List Int) (k : Nat) : (zps f g).getD k 0 = f.getD k 0 + g.getD k 0 := by
  unfold zps
  rw [ptrim_getD]
  by_cases h : k < max f.length g.length
  · rw [tab_get _ h]
  · rw [getD_out _ (by rw [tab_length]; omega), getD_out f (by omega), getD_out g (by omega)]; rfl
theorem zps_len (f g : List Int) : (zps f g).length ≤ max f.length g.length := by
  unfold zps
  rw [ptrim_length]
  have := plen_le (tab (max f.length g.length) (fun j => f.getD j 0 + g.getD j 0))
  rw [tab_length] at this
  exact this
/-- the multiple as the reference makes it -/
def zsc (f : List Int) (c : Int) : List Int := ptrim (tab f.length (fun j => f.getD j 0 * c))
theorem zsc_get (f : List Int) (c : Int) (k : Nat) : (zsc f c).getD k 0 = f.getD k 0 * c := by
  unfold zsc
  rw [ptrim_getD]
  by_cases h : k < f.length
  · rw [tab_get _ h]
  · rw [getD_out _ (by rw [tab_length]; omega), getD_out f (by omega), Int.zero_mul]
theorem zsc_len (f : List Int) (c : Int) : (zsc f c).length ≤ f.length := by
  unfold zsc
  rw [ptrim_length]
  have := plen_le (tab f.length (fun j => f.getD j 0 * c))
  rw [tab_length] at this
  exact this
theorem zps_trim (f g : List Int) : ptrim (zps f g) = zps f g := by unfold zps; rw [ptrim_ptrim]
theorem zsc_trim (f : List Int) (c : Int) : ptrim (zsc f c) = zsc f c := by unfold zsc; rw [ptrim_ptrim]
/-- the product with a power of x -/
def zup (f : List Int) (n : Nat) : List Int := if f = [] then [] else List.replicate n 0 ++ f
theorem zup_get (f : List Int) (n k : Nat) : (zup f n).getD k 0 = if k < n then 0 else f.getD (k - n) 0 := by
  unfold zup
  by_cases h : f = []
  · rw [if_pos h, h]; simp
  · rw [if_neg h, List.getD_eq_getElem?_getD]
    by_cases hk : k < n
    · rw [if_pos hk, List.getElem?_append_left (by simpa using hk)]; simp [hk]
    · rw [if_neg hk, List.getElem?_append_right (by simp; omega), List.length_replicate, ← List.getD_eq_getElem?_getD]
theorem zup_len (f : List Int) (n : Nat) : (zup f n).length ≤ n + f.length := by
  unfold zup
  split
  · simp
  · simp

set_option maxRecDepth 100000 in
set_option maxHeartbeats 4000000 in
theorem zpadd_any (A : Option Addr) (la ca : Nat) (f : List Int) (B : Option Addr) (lb cb : Nat) (g : List Int) (w : World) (hf : ZP w A la ca f) (hg : ZP w B lb cb g) (hla : la ≤ 1000) (hlb : lb ≤ 1000) (bf : ZB 900000 f) (bg : ZB 900000 g) :
    Calls Try.prog 45 #[.slice A la ca, .slice B lb cb] w (PRet w (zps f g) (0 < la ∨ 0 < lb)) := by
  have HF := Lib.hid hf
  have HG := Lib.hid hg
  have Bf := Lib.hid bf
  have Bg := Lib.hid bg
  obtain ⟨M, hM⟩ : ∃ M, M = max la lb := ⟨_, rfl⟩
  obtain ⟨F, hF⟩ : ∃ F : Nat → Int, F = fun j => f.getD j 0 + g.getD j 0 := ⟨_, rfl⟩
  have HFv := Lib.hid (fun j => (show F j = f.getD j 0 + g.getD j 0 by rw [hF]))
  have Hres := Lib.hid (show ptrim (tab M F) = zps f g by unfold zps; rw [hM, hF, hf.length, hg.length])
  have laM : la ≤ M := by omega
  have lbM : lb ≤ M := by omega
  have hM3 : M = la ∨ M = lb := by omega
  clear hM hF hf hg bf bg
  go_enter Try.func45, Try.ntmps45
  go_wp2
  go_loopw [5, 6] (fun s5 s6 wr => ∃ k : Nat, k ≤ M ∧ s6 = .int .i64 (k : Int) ∧ OwnZ wr w.heap.size s5 ((tab M F).take k) ∧ Below w.heap.size w wr) (fun _ s6 _ => M - (intOf s6).toNat)
  case atStart => exact ⟨0, Nat.zero_le _, rfl, OwnZ.nil _ _, Below.refl _ _⟩
  case round =>
    obtain ⟨k, hk, rfl, hown, hbw⟩ := hrel
    have Hown := Lib.hid hown
    have Hbw := Lib.hid hbw
    clear hown hbw
    by_cases hlt : k < M
    · have arm : (k < la ∨ ¬ k < la ∧ k < lb) := by omega
      rcases arm with t0 | ⟨t0, t00⟩
      · have t1 : (k : Int) < (la : Int) := by omega
        clear t0
        go_wp2_with fail
        refine (zat_any _ _ _ f k _ (HF.out.below Hbw.out) (by omega) (by omega)).mono ?_
        rintro e w1 ⟨s1, A1, l1, c1, rfl, h1, hb1⟩
        have H1 := Lib.hid h1
        have Hb1 := Lib.hid hb1
        have HG1 := Lib.hid (HG.out.below (Hbw.out.trans (hb1.mono Hbw.out.size)))
        clear h1 hb1
        go_wp2_with fail
        refine (zat_any _ _ _ g k _ HG1.out (by omega) (by omega)).mono ?_
        rintro e w2 ⟨s2, A2, l2, c2, rfl, h2, hb2⟩
        have H2 := Lib.hid h2
        have H1b := Lib.hid (H1.out.below hb2)
        have Hb2 := Lib.hid (Hb1.out.trans (hb2.mono Hb1.out.size))
        clear h2 hb2 H1 Hb1
        go_wp2_with fail
        refine (zadd_any _ _ _ _ _ _ _ _ _ _ _ H1b.out H2.out (by rw [H1b.out.len]; exact Bf.out k) (by rw [H2.out.len]; exact Bg.out k)).mono ?_
        rintro e w3 ⟨s3, A3, l3, c3, rfl, h3, hb3⟩
        rw [← HFv.out k] at h3
        have H3 := Lib.hid h3
        have hb4 := Hb2.out.trans (hb3.mono Hb2.out.size)
        have Ho3 := Lib.hid (Hown.out.below hb4)
        have Hb4 := Lib.hid (Hbw.out.trans (hb4.mono Hbw.out.size))
        clear h3 hb3 hb4 H1b H2 Hb2
        go_wp2_with (at_builtin; refine wpList_append_z rfl (.tmp 19) (.tmp 27) rfl w.heap.size _ ((tab M F).take k) rfl Ho3.out s3 A3 l3 c3 (F k) rfl H3.out (by rw [take_tab_len M F hk]; omega) Hb4.out.size ?_)
        intro v' w4 ho4 hb5
        rw [take_tab M F hlt] at ho4
        have Ho4 := Lib.hid ho4
        have Hb5 := Lib.hid (hb5 w Hb4.out)
        clear ho4 hb5
        go_wp2
        go_roundw
        case rel => exact ⟨k + 1, by omega, by go_num, Ho4.out, Hb5.out⟩
        case measure => simp [intOf]; omega
      · have t1 : ¬ (k : Int) < (la : Int) := by omega
        have t2 : (k : Int) < (lb : Int) := by omega
        clear t0 t00
        go_wp2_with fail
        refine (zat_any _ _ _ f k _ (HF.out.below Hbw.out) (by omega) (by omega)).mono ?_
        rintro e w1 ⟨s1, A1, l1, c1, rfl, h1, hb1⟩
        have H1 := Lib.hid h1
        have Hb1 := Lib.hid hb1
        have HG1 := Lib.hid (HG.out.below (Hbw.out.trans (hb1.mono Hbw.out.size)))
        clear h1 hb1
        go_wp2_with fail
        refine (zat_any _ _ _ g k _ HG1.out (by omega) (by omega)).mono ?_
        rintro e w2 ⟨s2, A2, l2, c2, rfl, h2, hb2⟩
        have H2 := Lib.hid h2
        have H1b := Lib.hid (H1.out.below hb2)
        have Hb2 := Lib.hid (Hb1.out.trans (hb2.mono Hb1.out.size))
        clear h2 hb2 H1 Hb1
        go_wp2_with fail
        refine (zadd_any _ _ _ _ _ _ _ _ _ _ _ H1b.out H2.out (by rw [H1b.out.len]; exact Bf.out k) (by rw [H2.out.len]; exact Bg.out k)).mono ?_
        rintro e w3 ⟨s3, A3, l3, c3, rfl, h3, hb3⟩
        rw [← HFv.out k] at h3
        have H3 := Lib.hid h3
        have hb4 := Hb2.out.trans (hb3.mono Hb2.out.size)
        have Ho3 := Lib.hid (Hown.out.below hb4)
        have Hb4 := Lib.hid (Hbw.out.trans (hb4.mono Hbw.out.size))
        clear h3 hb3 hb4 H1b H2 Hb2
        go_wp2_with (at_builtin; refine wpList_append_z rfl (.tmp 19) (.tmp 27) rfl w.heap.size _ ((tab M F).take k) rfl Ho3.out s3 A3 l3 c3 (F k) rfl H3.out (by rw [take_tab_len M F hk]; omega) Hb4.out.size ?_)
        intro v' w4 ho4 hb5
        rw [take_tab M F hlt] at ho4
        have Ho4 := Lib.hid ho4
        have Hb5 := Lib.hid (hb5 w Hb4.out)
        clear ho4 hb5
        go_wp2
        go_roundw
        case rel => exact ⟨k + 1, by omega, by go_num, Ho4.out, Hb5.out⟩
        case measure => simp [intOf]; omega
    · have hkM : k = M := by omega
      have t1 : ¬ (k : Int) < (la : Int) := by omega
      have t2 : ¬ (k : Int) < (lb : Int) := by omega
      obtain ⟨A', cap', hv, hzp, hsm⟩ := Hown.out.zp
      rw [hkM, take_tab_all, tab_length] at hv hzp hsm
      subst hv
      have Hzp := Lib.hid hzp
      have hpl : plen (tab M F) ≤ M := by have := plen_le (tab M F); rw [tab_length] at this; exact this
      have Hsm := Lib.hid (show (0 < la ∨ 0 < lb) → ∃ b off, A' = some ⟨b, off, none⟩ from fun h => by
        obtain ⟨g, hg, _⟩ := hsm (by omega)
        exact ⟨g, 0, hg⟩)
      clear hzp hsm hkM
      go_wp2_with fail
      refine (ztrim_any _ _ _ _ _ Hzp.out (by omega)).mono ?_
      rintro e w2 ⟨rfl, rfl⟩
      have Hfin := Lib.hid (Hzp.out.take hpl)
      go_wp2
      go_ret
      exact ⟨_, _, _, rfl, by rw [← Hres.out]; exact Hfin.out, Hsm.out, Hbw.out⟩
end Go.Proofs.Ytgblfpkfapmlnaa
