/- The law SturmAdds. -/
import Derived.Test.YtccapbajbniknaaGreatSgw
import Derived.Test.YtccapbajbniknaaGreatThL
import Derived.Test.YtccapbajbniknaaGreatBin
namespace Go.Proofs.YtccapbajbniknaaGreat
open Go Go.RowKit

theorem hf_len {f : List Int} (h : P9 f) (h0 : plen f ≠ 0) {P : Pt → Prop} {xs : List Pt} (hx : Lst (fun x => sgp f x = 0 ∧ P x) xs) : xs.length ≤ 8 := by
  have hp : plen f = (plen f - 1) + 1 := by omega
  have := rts_le (plen f - 1) f hp xs hx.1 (fun x hx' => ((hx.2 x).1 hx').1)
  have := h.len
  omega
theorem ncount_bd {f : List Int} (h : P9 f) {z z' : Int} {q q' : Nat} (hq : 0 < q) (hq' : 0 < q') : 0 ≤ ncount f z q z' q' ∧ ncount f z q z' q' ≤ 8 := by
  by_cases h0 : plen f = 0
  · rw [ncount_nil h0]; decide
  by_cases hlt : z * (q' : Int) < z' * (q : Int)
  · obtain ⟨xs, hx⟩ := hf_ex h0 (Pt.of ((z : Rat) / (q : Rat))) (Pt.of ((z' : Rat) / (q' : Rat)))
    rw [ncount_half h h0 hq hq' hlt hx]
    have := hf_len h h0 hx
    omega
  · unfold ncount; rw [if_neg hlt]; decide
theorem isum_abs (g : List Int) : ∀ xs : List Pt, - (xs.length : Int) ≤ isum (xs.map (sgp g)) ∧ isum (xs.map (sgp g)) ≤ xs.length
  | [] => ⟨Int.le_refl _, Int.le_refl _⟩
  | x :: xs => by
    have h := isum_abs g xs
    rw [List.map_cons, isum_cons, List.length_cons]
    rcases sgp_or g x with e | e | e <;> omega
theorem nquery_bd {f g : List Int} (h : P9 f) (l6 : plen f ≤ 6) (hg : G6 g) {z z' : Int} {q q' : Nat} (hq : 0 < q) (hq' : 0 < q') (z8 : z.natAbs ≤ 128) (q8 : q ≤ 128) (z8' : z'.natAbs ≤ 128) (q8' : q' ≤ 128) : -8 ≤ nquery f g z q z' q' ∧ nquery f g z q z' q' ≤ 8 := by
  by_cases h0 : plen f = 0
  · rw [nquery_nil h0]; decide
  by_cases hlt : z * (q' : Int) < z' * (q : Int)
  · obtain ⟨xs, hx⟩ := hf_ex h0 (Pt.of ((z : Rat) / (q : Rat))) (Pt.of ((z' : Rat) / (q' : Rat)))
    rw [nquery_sum h l6 hg h0 hq hq' z8 q8 z8' q8' hlt ((pt_lt hq hq').2 hlt) hx]
    have := hf_len h h0 hx
    have := isum_abs g xs
    omega
  · unfold nquery; rw [if_pos (.inr hlt)]; decide
theorem nbelow_bd {f : List Int} (h : P9 f) {z : Int} {q : Nat} (hq : 0 < q) : 0 ≤ nbelow f z q ∧ nbelow f z q ≤ 8 := by
  by_cases h0 : plen f = 0
  · unfold nbelow; rw [if_pos h0]; decide
  obtain ⟨xs, hx⟩ := roots_lst h0 (fun x => x < Pt.of ((z : Rat) / (q : Rat)))
  rw [nbelow_len h h0 hq hx]
  have := hf_len h h0 hx
  omega
/-- a box with three pairs -/
structure Hex (W : World) (g : Nat) (x0 x1 x2 x3 x4 x5 : Int) : Prop where
  c0 : W.cell? ⟨g, 0, none⟩ = some (.int .i8 x0)
  c1 : W.cell? ⟨g, 1, none⟩ = some (.int .i8 x1)
  c2 : W.cell? ⟨g, 2, none⟩ = some (.int .i8 x2)
  c3 : W.cell? ⟨g, 3, none⟩ = some (.int .i8 x3)
  c4 : W.cell? ⟨g, 4, none⟩ = some (.int .i8 x4)
  c5 : W.cell? ⟨g, 5, none⟩ = some (.int .i8 x5)
theorem Hex.move {W W' : World} {g : Nat} {x0 x1 x2 x3 x4 x5 : Int} (h : Hex W g x0 x1 x2 x3 x4 x5) (hb : Below W.heap.size W W') : Hex W' g x0 x1 x2 x3 x4 x5 := by
  obtain ⟨hc, _⟩ := bcellS hb
  exact ⟨(hc _ (by rw [h.c0]; rfl)).trans h.c0, (hc _ (by rw [h.c1]; rfl)).trans h.c1, (hc _ (by rw [h.c2]; rfl)).trans h.c2, (hc _ (by rw [h.c3]; rfl)).trans h.c3, (hc _ (by rw [h.c4]; rfl)).trans h.c4, (hc _ (by rw [h.c5]; rfl)).trans h.c5⟩
theorem Hex.make (W : World) (x0 x1 x2 x3 x4 x5 : Int) (t : TypeId) : Hex (W.alloc (.cells #[.int .i8 x0, .int .i8 x1, .int .i8 x2, .int .i8 x3, .int .i8 x4, .int .i8 x5] t)) W.heap.size x0 x1 x2 x3 x4 x5 := ⟨by go_simp, by go_simp, by go_simp, by go_simp, by go_simp, by go_simp⟩

theorem one_at (w : World) (t : TypeId) : I64At (w.alloc (.cells #[.int .i64 1] t)) (some ⟨w.heap.size, 0, none⟩) 1 1 [1] := ⟨rfl, Nat.le_refl _, .inr ⟨w.heap.size, 0, rfl, by simp, fun j hj => by
  obtain rfl : j = 0 := by omega
  simp⟩⟩
set_option maxRecDepth 100000 in
set_option maxHeartbeats 16000000 in
theorem law_adds (A : Option Addr) (la ca : Nat) (cs : List Int) (B : Option Addr) (lb cb : Nat) (ds : List Int) (p0 d0 p1 d1 p2 d2 : Int) (w : World) (h1 : I16At w A la ca cs) (h2 : I16At w B lb cb ds) (hla : la ≤ 9223372036854775807) (hlb : lb ≤ 9223372036854775807) (hp0 : I8 p0) (hd0 : I8 d0) (hp1 : I8 p1) (hd1 : I8 d1) (hp2 : I8 p2) (hd2 : I8 d2) :
    Calls Tryz.prog 7 #[.slice A la ca, .slice B lb cb, .agg #[.int .i8 p0, .int .i8 d0, .int .i8 p1, .int .i8 d1, .int .i8 p2, .int .i8 d2]] w fun e w' => e = .returned (.bool true) ∧ Below w.heap.size w w' := by
  have hb0 := below_new w (.cells #[.int .i8 p0, .int .i8 d0, .int .i8 p1, .int .i8 d1, .int .i8 p2, .int .i8 d2] 64)
  have HT := Lib.hid (Hex.make w p0 d0 p1 d1 p2 d2 64)
  have Hi1 := Lib.hid (h1.below hb0)
  have Hi2 := Lib.hid (h2.below hb0)
  have Hb := Lib.hid hb0
  obtain ⟨F, hF⟩ : ∃ F, F = ptrim (cs.take 6) := ⟨_, rfl⟩
  obtain ⟨G, hG⟩ : ∃ G, G = ptrim (ds.take 6) := ⟨_, rfl⟩
  have F9 : P9 F := by rw [hF]; exact short_p9 h1 (by omega)
  obtain ⟨f1, f2, f3, f4⟩ := short_bd h1 6
  obtain ⟨g1, g2, g3, g4⟩ := short_bd h2 6
  rw [← hF] at f1 f2 f3 f4
  rw [← hG] at g1 g2 g3 g4
  have cF := F9.cp
  have G6' : G6 G := ⟨by omega, fun j => Nat.le_trans (g4 j) (by rw [BB_eq]; decide)⟩
  have EF := Lib.hid hF.symm
  have EG := Lib.hid hG.symm
  have hgw : w.heap.size < (w.alloc (.cells #[.int .i8 p0, .int .i8 d0, .int .i8 p1, .int .i8 d1, .int .i8 p2, .int .i8 d2] 64)).heap.size := by simp
  clear hb0 h1 h2 hF hG
  go_enter Tryz.func7, Tryz.ntmps7
  go_wp2_with fail
  refine (awake15_any _).mono ?_
  rintro e w1 ⟨rfl, hb1⟩
  replace HT := Lib.hid (HT.out.move hb1); replace Hi1 := Lib.hid (Hi1.out.below hb1); replace Hi2 := Lib.hid (Hi2.out.below hb1); replace Hb := Lib.hid (Hb.out.trans (hb1.mono Hb.out.size)); replace hgw := Nat.lt_of_lt_of_le hgw hb1.size
  clear hb1
  obtain ⟨gt, hgt⟩ : ∃ gt, gt = w.heap.size := ⟨_, rfl⟩
  rw [← hgt] at HT hgw
  try rw [← hgt]
  clear hgt
  have k0 := HT.out.c0; have k1 := HT.out.c1; have k2 := HT.out.c2; have k3 := HT.out.c3; have k4 := HT.out.c4; have k5 := HT.out.c5
  go_wp2_with fail
  refine (less15_any p1 d1 p0 d0 _ hp1 hd1 hp0 hd0).mono ?_
  rintro e w2 ⟨rfl, hb2⟩
  replace HT := Lib.hid (HT.out.move hb2); replace Hi1 := Lib.hid (Hi1.out.below hb2); replace Hi2 := Lib.hid (Hi2.out.below hb2); replace Hb := Lib.hid (Hb.out.trans (hb2.mono Hb.out.size)); replace hgw := Nat.lt_of_lt_of_le hgw hb2.size
  clear hb2
  clear k0 k1 k2 k3 k4 k5
  have k0 := HT.out.c0; have k1 := HT.out.c1; have k2 := HT.out.c2; have k3 := HT.out.c3; have k4 := HT.out.c4; have k5 := HT.out.c5
  by_cases l01 : frn p1 d1 * frd d0 < frn p0 d0 * frd d1
  · rw [decide_eq_true l01]
    clear l01
    go_wp2_with fail
    refine (awake15_any _).mono ?_; rintro e wb ⟨rfl, hbb⟩; replace Hb := Lib.hid (Hb.out.trans (hbb.mono Hb.out.size)); go_wp2; go_ret; exact ⟨rfl, Hb.out⟩
  rw [decide_eq_false l01]
  have L01 := Lib.hid (show ¬ rtz p1 d1 * (rtq p0 d0 : Int) < rtz p0 d0 * (rtq p1 d1 : Int) from fun h => l01 ((rt_iff hp1 hd1 hp0 hd0).1 h))
  clear l01
  go_wp2_with fail
  refine (less15_any p2 d2 p1 d1 _ hp2 hd2 hp1 hd1).mono ?_
  rintro e w3 ⟨rfl, hb3⟩
  replace HT := Lib.hid (HT.out.move hb3); replace Hi1 := Lib.hid (Hi1.out.below hb3); replace Hi2 := Lib.hid (Hi2.out.below hb3); replace Hb := Lib.hid (Hb.out.trans (hb3.mono Hb.out.size)); replace hgw := Nat.lt_of_lt_of_le hgw hb3.size
  clear hb3
  clear k0 k1 k2 k3 k4 k5
  have k0 := HT.out.c0; have k1 := HT.out.c1; have k2 := HT.out.c2; have k3 := HT.out.c3; have k4 := HT.out.c4; have k5 := HT.out.c5
  by_cases l12 : frn p2 d2 * frd d1 < frn p1 d1 * frd d2
  · rw [decide_eq_true l12]
    clear l12
    go_wp2_with fail
    refine (awake15_any _).mono ?_; rintro e wb ⟨rfl, hbb⟩; replace Hb := Lib.hid (Hb.out.trans (hbb.mono Hb.out.size)); go_wp2; go_ret; exact ⟨rfl, Hb.out⟩
  rw [decide_eq_false l12]
  have L12 := Lib.hid (show ¬ rtz p2 d2 * (rtq p1 d1 : Int) < rtz p1 d1 * (rtq p2 d2 : Int) from fun h => l12 ((rt_iff hp2 hd2 hp1 hd1).1 h))
  clear l12
  go_wp2_with fail
  refine (short_any _ _ _ 6 cs _ Hi1.out (by omega) hla).mono ?_
  rintro e w4 ⟨A2, l2, c2, rfl, hf, hb4⟩
  rw [EF.out] at hf
  have hl2 : l2 ≤ 6 := by have := hf.length; omega
  have HF := Lib.hid hf
  replace HT := Lib.hid (HT.out.move hb4); replace Hi1 := Lib.hid (Hi1.out.below hb4); replace Hi2 := Lib.hid (Hi2.out.below hb4); replace Hb := Lib.hid (Hb.out.trans (hb4.mono Hb.out.size)); replace hgw := Nat.lt_of_lt_of_le hgw hb4.size
  clear hb4 hf
  go_wp2_with fail
  refine (short_any _ _ _ 6 ds _ Hi2.out (by omega) hlb).mono ?_
  rintro e w5 ⟨A3, l3, c3, rfl, hf, hb5⟩
  rw [EG.out] at hf
  have hl3 : l3 ≤ 6 := by have := hf.length; omega
  have HG := Lib.hid hf
  replace HF := Lib.hid (HF.out.below ikN hb5)
  replace HT := Lib.hid (HT.out.move hb5); replace Hi1 := Lib.hid (Hi1.out.below hb5); replace Hi2 := Lib.hid (Hi2.out.below hb5); replace Hb := Lib.hid (Hb.out.trans (hb5.mono Hb.out.size)); replace hgw := Nat.lt_of_lt_of_le hgw hb5.size
  clear hb5 hf Hi1 Hi2
  clear k0 k1 k2 k3 k4 k5
  have k0 := HT.out.c0; have k1 := HT.out.c1; have k2 := HT.out.c2; have k3 := HT.out.c3; have k4 := HT.out.c4; have k5 := HT.out.c5
  go_wp2_with fail
  refine wp_region_held_drew (S := fun w' => w'.cell? ⟨gt, 0, none⟩ = some (.int .i8 p0) ∧ w'.cell? ⟨gt, 1, none⟩ = some (.int .i8 d0) ∧ w'.cell? ⟨gt, 2, none⟩ = some (.int .i8 p1) ∧ w'.cell? ⟨gt, 3, none⟩ = some (.int .i8 d1) ∧ w'.cell? ⟨gt, 4, none⟩ = some (.int .i8 p2) ∧ w'.cell? ⟨gt, 5, none⟩ = some (.int .i8 d2)) (by kernel_rfl) (by (try dsimp only); go_keep) (fun hHeld => ?_)
  (refine take_at (i := 0) (oi := _) (v := ?_) rfl rfl (by kernel_rfl) (by kernel_rfl) (by kernel_rfl) (fun _ _ _ h => h) (Or.inl ⟨by rfl, ?_⟩) (by assumption) ?_; rotate_left; (focus (intro w hSw; (try dsimp only at hSw); go_simp; (try with_reducible rfl))); (simp only [put_lit, List.set]))
  (refine take_at (i := 1) (oi := _) (v := ?_) rfl rfl (by kernel_rfl) (by kernel_rfl) (by kernel_rfl) (fun _ _ _ h => h) (Or.inl ⟨by rfl, ?_⟩) (by assumption) ?_; rotate_left; (focus (intro w hSw; (try dsimp only at hSw); go_simp; (try with_reducible rfl))); (simp only [put_lit, List.set]))
  (refine take_at (i := 3) (oi := _) (v := ?_) rfl rfl (by kernel_rfl) (by kernel_rfl) (by kernel_rfl) (fun _ _ _ h => h) (Or.inl ⟨by rfl, ?_⟩) (by assumption) ?_; rotate_left; (focus (intro w hSw; (try dsimp only at hSw); go_simp; (try with_reducible rfl))); (simp only [put_lit, List.set]))
  (refine take_at (i := 4) (oi := _) (v := ?_) rfl rfl (by kernel_rfl) (by kernel_rfl) (by kernel_rfl) (fun _ _ _ h => h) (Or.inl ⟨by rfl, ?_⟩) (by assumption) ?_; rotate_left; (focus (intro w hSw; (try dsimp only at hSw); go_simp; (try with_reducible rfl))); (simp only [put_lit, List.set]))
  (refine take_at (i := 6) (oi := _) (v := ?_) rfl rfl (by kernel_rfl) (by kernel_rfl) (by kernel_rfl) (fun _ _ _ h => h) (Or.inl ⟨by rfl, ?_⟩) (by assumption) ?_; rotate_left; (focus (intro w hSw; (try dsimp only at hSw); go_simp; (try with_reducible rfl))); (simp only [put_lit, List.set]))
  (refine take_at (i := 7) (oi := _) (v := ?_) rfl rfl (by kernel_rfl) (by kernel_rfl) (by kernel_rfl) (fun _ _ _ h => h) (Or.inl ⟨by rfl, ?_⟩) (by assumption) ?_; rotate_left; (focus (intro w hSw; (try dsimp only at hSw); go_simp; (try with_reducible rfl))); (simp only [put_lit, List.set]))
  refine wpAnyH_inv (Inv := fun listed a w => ∃ c m s v u, BI (fun i => if i = 0 then rtz p0 d0 else if i = 1 then rtz p1 d1 else rtz p2 d2) (fun i => if i = 0 then rtq p0 d0 else if i = 1 then rtq p1 d1 else rtq p2 d2) w5.drew w c m s v u ∧ listed = #[true, true, c 0, true, true, c 1, true, true, c 2, m 0, m 1, m 2, s 0, s 1, s 2] ∧ a = ⟨#[.slice A la ca, .slice B lb cb, .agg #[.int .i8 p0, .int .i8 d0, .int .i8 p1, .int .i8 d1, .int .i8 p2, .int .i8 d2], undef, undef, .pointer (some ⟨gt, 0, none⟩), .bool false, .slice A2 l2 c2, .slice A3 l3 c3, u 0, u 1, u 2, undef, undef, undef, .bool true, .bool false, .bool false, .pointer (some ⟨gt, 2, none⟩), .agg #[.int .i8 p1, .int .i8 d1], .pointer (some ⟨gt, 0, none⟩), .agg #[.int .i8 p0, .int .i8 d0], .bool false, .bool false, .bool false, .pointer (some ⟨gt, 4, none⟩), .agg #[.int .i8 p2, .int .i8 d2], .pointer (some ⟨gt, 2, none⟩), .agg #[.int .i8 p1, .int .i8 d1], .bool false, .bool false, undef, .slice A la ca, .slice A2 l2 c2, .slice B lb cb, .slice A3 l3 c3, .pointer (some ⟨gt, 0, none⟩), .agg #[.int .i8 p0, .int .i8 d0], v 0, .pointer (some ⟨gt, 2, none⟩), .agg #[.int .i8 p1, .int .i8 d1], v 1, .pointer (some ⟨gt, 4, none⟩), .agg #[.int .i8 p2, .int .i8 d2], v 2, undef, undef, undef, undef, undef, undef, undef, undef, undef, undef, undef, undef, undef, undef, undef, undef, undef, undef, undef, undef, undef, undef, undef, undef, undef, undef, undef, undef, undef, undef, undef, undef, undef, undef, undef, undef, undef, undef, undef, undef, undef, undef, undef, undef, undef, undef, undef, undef, undef, undef, undef, undef, undef, undef, undef, undef, undef, undef, undef, undef, undef, undef, undef, undef, undef, undef, undef, undef, undef, undef, undef, undef, undef, undef, undef, undef, undef, undef, undef, undef, undef, undef, undef, undef, undef, undef, undef, undef, undef, undef, undef, undef, undef, undef, undef, undef, undef, undef, undef, undef, undef, undef, undef, undef, undef], []⟩) ?_ ?_ ?_ 9 _ _ _ (by decide +kernel) ?_
  · rintro listed a w ⟨c, m, s, v, u, hB, rfl, rfl⟩
    have hT := (Hex.mk hHeld.1 hHeld.2.1 hHeld.2.2.1 hHeld.2.2.2.1 hHeld.2.2.2.2.1 hHeld.2.2.2.2.2).move hB.b
    exact ⟨hT.c0, hT.c1, hT.c2, hT.c3, hT.c4, hT.c5⟩
  · rintro listed a w i o ⟨c, m, s, v, u, hB, rfl, rfl⟩ ho hl hdp K hK
    have hi : i < 15 := (Array.getElem?_eq_some_iff.1 ho).1
    have hi' : i = 0 ∨ i = 1 ∨ i = 2 ∨ i = 3 ∨ i = 4 ∨ i = 5 ∨ i = 6 ∨ i = 7 ∨ i = 8 ∨ i = 9 ∨ i = 10 ∨ i = 11 ∨ i = 12 ∨ i = 13 ∨ i = 14 := by omega
    rcases hi' with rfl | rfl | rfl | rfl | rfl | rfl | rfl | rfl | rfl | rfl | rfl | rfl | rfl | rfl | rfl
    · cases hl
    · cases hl
    · obtain rfl := Option.some.inj ho; go_simp
      refine (rat15_any p0 d0 _ hp0 hd0).mono ?_
      rintro e w' ⟨⟨na, B, l, da, C, k, q, rfl, hz, hq⟩, hb⟩
      exact hK.out _ _ ⟨_, _, _, _, _, hB.call hb 0 ⟨_, _, _, _, _, _, _, rfl, hz, hq⟩, rfl, rfl⟩
    · cases hl
    · cases hl
    · obtain rfl := Option.some.inj ho; go_simp
      refine (rat15_any p1 d1 _ hp1 hd1).mono ?_
      rintro e w' ⟨⟨na, B, l, da, C, k, q, rfl, hz, hq⟩, hb⟩
      exact hK.out _ _ ⟨_, _, _, _, _, hB.call hb 1 ⟨_, _, _, _, _, _, _, rfl, hz, hq⟩, rfl, rfl⟩
    · cases hl
    · cases hl
    · obtain rfl := Option.some.inj ho; go_simp
      refine (rat15_any p2 d2 _ hp2 hd2).mono ?_
      rintro e w' ⟨⟨na, B, l, da, C, k, q, rfl, hz, hq⟩, hb⟩
      exact hK.out _ _ ⟨_, _, _, _, _, hB.call hb 2 ⟨_, _, _, _, _, _, _, rfl, hz, hq⟩, rfl, rfl⟩
    · obtain rfl := Option.some.inj ho; go_simp
      exact hK.out _ _ ⟨_, _, _, _, _, hB.alloc 0 hl, rfl, rfl⟩
    · obtain rfl := Option.some.inj ho; go_simp
      exact hK.out _ _ ⟨_, _, _, _, _, hB.alloc 1 hl, rfl, rfl⟩
    · obtain rfl := Option.some.inj ho; go_simp
      exact hK.out _ _ ⟨_, _, _, _, _, hB.alloc 2 hl, rfl, rfl⟩
    · obtain rfl := Option.some.inj ho; have hm := hdp ⟨9, .data⟩ (Array.mem_of_getElem? (i := 0) rfl) (by decide +kernel); have hc := hdp ⟨2, .data⟩ (Array.mem_of_getElem? (i := 1) rfl) (by decide +kernel); obtain ⟨n, B, l, d, C, k, q, e1, hz, hq⟩ := hB.r 0 hc; obtain ⟨g, _, _, _, _, _, _, _, _, _, e2, hgk, hR, _⟩ := hB.o 0 hm; have hBs := hB.store 0 hm e2 hz hq; simp only [e1, e2]; have r0 := hR.c0; have r1 := hR.c1; have r2 := hR.c2; have r3 := hR.f0; have r4 := hR.f1; have r5 := hR.f2; go_simp; exact hK.out _ _ ⟨_, _, _, _, _, hBs, rfl, by simp only [e1, e2]⟩
    · obtain rfl := Option.some.inj ho; have hm := hdp ⟨10, .data⟩ (Array.mem_of_getElem? (i := 0) rfl) (by decide +kernel); have hc := hdp ⟨5, .data⟩ (Array.mem_of_getElem? (i := 1) rfl) (by decide +kernel); obtain ⟨n, B, l, d, C, k, q, e1, hz, hq⟩ := hB.r 1 hc; obtain ⟨g, _, _, _, _, _, _, _, _, _, e2, hgk, hR, _⟩ := hB.o 1 hm; have hBs := hB.store 1 hm e2 hz hq; simp only [e1, e2]; have r0 := hR.c0; have r1 := hR.c1; have r2 := hR.c2; have r3 := hR.f0; have r4 := hR.f1; have r5 := hR.f2; go_simp; exact hK.out _ _ ⟨_, _, _, _, _, hBs, rfl, by simp only [e1, e2]⟩
    · obtain rfl := Option.some.inj ho; have hm := hdp ⟨11, .data⟩ (Array.mem_of_getElem? (i := 0) rfl) (by decide +kernel); have hc := hdp ⟨8, .data⟩ (Array.mem_of_getElem? (i := 1) rfl) (by decide +kernel); obtain ⟨n, B, l, d, C, k, q, e1, hz, hq⟩ := hB.r 2 hc; obtain ⟨g, _, _, _, _, _, _, _, _, _, e2, hgk, hR, _⟩ := hB.o 2 hm; have hBs := hB.store 2 hm e2 hz hq; simp only [e1, e2]; have r0 := hR.c0; have r1 := hR.c1; have r2 := hR.c2; have r3 := hR.f0; have r4 := hR.f1; have r5 := hR.f2; go_simp; exact hK.out _ _ ⟨_, _, _, _, _, hBs, rfl, by simp only [e1, e2]⟩
  · rintro listed a wz ⟨c, m, s, v, u, hB, rfl, rfl⟩ hr
    have hall := ready_nil_all (by kernel_rfl) rfl hr
    have mm0 : m 0 = true := hall 9 (by simp)
    have mm1 : m 1 = true := hall 10 (by simp)
    have mm2 : m 2 = true := hall 11 (by simp)
    have s0 : s 0 = true := hall 12 (by simp)
    have s1 : s 1 = true := hall 13 (by simp)
    have s2 : s 2 = true := hall 14 (by simp)
    obtain ⟨g0, n0, B0, l0, c0, C0, m0', d0', z0, q0, e0, _, R0, f0'⟩ := hB.o 0 mm0
    obtain ⟨g1, n1, B1, l1, c1, C1, m1', d1', z1, q1, e1, _, R1, f1'⟩ := hB.o 1 mm1
    obtain ⟨g2, n2, B2, l4, c4, C2, m2', d2', z2, q2, e2, _, R2, f2'⟩ := hB.o 2 mm2
    obtain ⟨hz0, hq0⟩ := f0' s0
    obtain ⟨hz1, hq1⟩ := f1' s1
    obtain ⟨hz2, hq2⟩ := f2' s2
    replace hz0 : z0 = rtz p0 d0 := hz0
    replace hz1 : z1 = rtz p1 d1 := hz1
    replace hz2 : z2 = rtz p2 d2 := hz2
    replace hq0 : q0 = rtq p0 d0 := hq0
    replace hq1 : q1 = rtq p1 d1 := hq1
    replace hq2 : q2 = rtq p2 d2 := hq2
    have hb4 : Below w5.heap.size w5 wz := (Below.trans (by (repeat (first | exact Below.refl _ _ | refine Below.drew ?_ | refine Below.alloc ?_ (by first | (simp; done) | (simp; omega) | omega) _ | refine Below.setCell ?_ (by first | (simp; done) | (simp; omega) | omega) _))) (hB.b.mono (by simp <;> omega)))
    simp only [e0, e1, e2]
    generalize v 0 = y0
    generalize v 1 = y1
    generalize v 2 = y2
    clear hall mm0 mm1 mm2 s0 s1 s2 f0' f1' f2' e0 e1 e2 hB hr hHeld k0 k1 k2 k3 k4 k5 c m s v u HT
    obtain ⟨wB, hwB⟩ : ∃ wB, wB = wz := ⟨_, rfl⟩
    rw [← hwB] at R0 R1 R2 hb4 ⊢
    replace HF := Lib.hid (HF.out.below ikN hb4)
    replace HG := Lib.hid (HG.out.below ikN hb4)
    replace Hb := Lib.hid (Hb.out.trans (hb4.mono Hb.out.size))
    clear hb4 hwB hgw
    have a0 := at_ok hp0 hd0
    have a1 := at_ok hp1 hd1
    have a2 := at_ok hp2 hd2
    have l01 := L01.out
    have l12 := L12.out
    rw [← hz0, ← hq0] at a0
    rw [← hz1, ← hq1] at a1
    rw [← hz2, ← hq2] at a2
    rw [← hz0, ← hq0, ← hz1, ← hq1] at l01
    rw [← hz1, ← hq1, ← hz2, ← hq2] at l12
    clear hz0 hz1 hz2 hq0 hq1 hq2 L01 L12
    replace R0 := Lib.hid R0
    replace R1 := Lib.hid R1
    replace R2 := Lib.hid R2
    have hlF : l2 ≤ 1000000 := by omega
    have e1 := ncount_add F9 a0.1.pos a1.1.pos a2.1.pos a0.2.1 a0.2.2 a1.2.1 a1.2.2 a2.2.1 a2.2.2 (by omega) (by omega)
    have e2 := nquery_add F9 f1 G6' a0.1.pos a1.1.pos a2.1.pos a0.2.1 a0.2.2 a1.2.1 a1.2.2 a2.2.1 a2.2.2 (by omega) (by omega)
    have b1 := ncount_bd F9 (z := z0) (z' := z2) a0.1.pos a2.1.pos
    have b2 := nquery_bd F9 f1 G6' (z := z0) (z' := z2) a0.1.pos a2.1.pos a0.2.1 a0.2.2 a2.2.1 a2.2.2
    obtain ⟨N1, hN1⟩ : ∃ N, N = ncount F z0 q0 z1 q1 := ⟨_, rfl⟩
    obtain ⟨N2, hN2⟩ : ∃ N, N = ncount F z1 q1 z2 q2 := ⟨_, rfl⟩
    obtain ⟨N3, hN3⟩ : ∃ N, N = ncount F z0 q0 z2 q2 := ⟨_, rfl⟩
    obtain ⟨M1, hM1⟩ : ∃ N, N = nquery F G z0 q0 z1 q1 := ⟨_, rfl⟩
    obtain ⟨M2, hM2⟩ : ∃ N, N = nquery F G z1 q1 z2 q2 := ⟨_, rfl⟩
    obtain ⟨M3, hM3⟩ : ∃ N, N = nquery F G z0 q0 z2 q2 := ⟨_, rfl⟩
    rw [← hN1, ← hN2, ← hN3] at e1
    rw [← hM1, ← hM2, ← hM3] at e2
    rw [← hN3] at b1
    rw [← hM3] at b2
    have HC1 := Lib.hid hN1.symm
    have HC2 := Lib.hid hN2.symm
    have HC3 := Lib.hid hN3.symm
    have HQ1 := Lib.hid hM1.symm
    have HQ2 := Lib.hid hM2.symm
    have HQ3 := Lib.hid hM3.symm
    have w1 : IntKind.i64.wrap (N1 + N2) = N3 := by rw [e1]; exact IntWalk.i64_in _ (by omega)
    have w2 : IntKind.i64.wrap (M1 + M2) = M3 := by rw [e2]; exact IntWalk.i64_in _ (by omega)
    clear e1 e2 hN1 hN2 hN3 hM1 hM2 hM3
    have j0 := R0.out.c0; have j1 := R0.out.c1; have j2 := R0.out.c2; have j3 := R1.out.c0; have j4 := R1.out.c1; have j5 := R1.out.c2; have j6 := R2.out.c0; have j7 := R2.out.c1; have j8 := R2.out.c2
    have G40 : Hid (Below wB.heap.size wB wB) := Lib.hid (Below.refl _ _)
    go_wp2_with fail
    go_region_held3 (fun w' => w'.cell? ⟨g0, 0, none⟩ = some (.bool n0) ∧ w'.cell? ⟨g0, 1, none⟩ = some (.slice B0 l0 c0) ∧ w'.cell? ⟨g0, 2, none⟩ = some (.slice C0 m0' d0') ∧ w'.cell? ⟨g1, 0, none⟩ = some (.bool n1) ∧ w'.cell? ⟨g1, 1, none⟩ = some (.slice B1 l1 c1) ∧ w'.cell? ⟨g1, 2, none⟩ = some (.slice C1 m1' d1') ∧ w'.cell? ⟨g2, 0, none⟩ = some (.bool n2) ∧ w'.cell? ⟨g2, 1, none⟩ = some (.slice B2 l4 c4) ∧ w'.cell? ⟨g2, 2, none⟩ = some (.slice C2 m2' d2')) (go_keep) (first
      | (go_at_call 30; (have _hx := G45); go_must (refine (query_any ikN ikN _ _ _ F _ _ _ G _ _ _ _ _ _ _ _ _ _ _ _ _ _ _ _ _ _ _ ?_ ?_ hlF F9 f1 G6' ?_ ?_ ?_ ?_ a0.1 a2.1 a0.2.1 a0.2.2 a2.2.1 a2.2.2).mono ?_; (exact (HF.out.below ikN G45.out).below ikN (by (repeat (first | exact Below.refl _ _ | refine Below.drew ?_ | refine Below.alloc ?_ (by first | (simp; done) | (simp; omega) | omega) _ | refine Below.setCell ?_ (by first | (simp; done) | (simp; omega) | omega) _)))); (exact (HG.out.below ikN G45.out).below ikN (by (repeat (first | exact Below.refl _ _ | refine Below.drew ?_ | refine Below.alloc ?_ (by first | (simp; done) | (simp; omega) | omega) _ | refine Below.setCell ?_ (by first | (simp; done) | (simp; omega) | omega) _)))); (exact (R0.out.move G45.out).hz.below (by (repeat (first | exact Below.refl _ _ | refine Below.drew ?_ | refine Below.alloc ?_ (by first | (simp; done) | (simp; omega) | omega) _ | refine Below.setCell ?_ (by first | (simp; done) | (simp; omega) | omega) _)))); (exact (R0.out.move G45.out).hq.below (by (repeat (first | exact Below.refl _ _ | refine Below.drew ?_ | refine Below.alloc ?_ (by first | (simp; done) | (simp; omega) | omega) _ | refine Below.setCell ?_ (by first | (simp; done) | (simp; omega) | omega) _)))); (exact (R2.out.move G45.out).hz.below (by (repeat (first | exact Below.refl _ _ | refine Below.drew ?_ | refine Below.alloc ?_ (by first | (simp; done) | (simp; omega) | omega) _ | refine Below.setCell ?_ (by first | (simp; done) | (simp; omega) | omega) _)))); (exact (R2.out.move G45.out).hq.below (by (repeat (first | exact Below.refl _ _ | refine Below.drew ?_ | refine Below.alloc ?_ (by first | (simp; done) | (simp; omega) | omega) _ | refine Below.setCell ?_ (by first | (simp; done) | (simp; omega) | omega) _)))); rintro e w46 ⟨rfl, hb46⟩; rw [HQ3.out]; have G46 : Hid (Below wB.heap.size wB w46) := Lib.hid (G45.out.trans ((Below.trans (by (repeat (first | exact Below.refl _ _ | refine Below.drew ?_ | refine Below.alloc ?_ (by first | (simp; done) | (simp; omega) | omega) _ | refine Below.setCell ?_ (by first | (simp; done) | (simp; omega) | omega) _))) (hb46.mono (by simp <;> omega))).mono G45.out.size)); have j0_46 := (R0.out.move G46.out).c0; have j1_46 := (R0.out.move G46.out).c1; have j2_46 := (R0.out.move G46.out).c2; have j3_46 := (R1.out.move G46.out).c0; have j4_46 := (R1.out.move G46.out).c1; have j5_46 := (R1.out.move G46.out).c2; have j6_46 := (R2.out.move G46.out).c0; have j7_46 := (R2.out.move G46.out).c1; have j8_46 := (R2.out.move G46.out).c2; clear hb46))
      | (go_at_call 30; (have _hx := G44); go_must (refine (query_any ikN ikN _ _ _ F _ _ _ G _ _ _ _ _ _ _ _ _ _ _ _ _ _ _ _ _ _ _ ?_ ?_ hlF F9 f1 G6' ?_ ?_ ?_ ?_ a1.1 a2.1 a1.2.1 a1.2.2 a2.2.1 a2.2.2).mono ?_; (exact (HF.out.below ikN G44.out).below ikN (by (repeat (first | exact Below.refl _ _ | refine Below.drew ?_ | refine Below.alloc ?_ (by first | (simp; done) | (simp; omega) | omega) _ | refine Below.setCell ?_ (by first | (simp; done) | (simp; omega) | omega) _)))); (exact (HG.out.below ikN G44.out).below ikN (by (repeat (first | exact Below.refl _ _ | refine Below.drew ?_ | refine Below.alloc ?_ (by first | (simp; done) | (simp; omega) | omega) _ | refine Below.setCell ?_ (by first | (simp; done) | (simp; omega) | omega) _)))); (exact (R1.out.move G44.out).hz.below (by (repeat (first | exact Below.refl _ _ | refine Below.drew ?_ | refine Below.alloc ?_ (by first | (simp; done) | (simp; omega) | omega) _ | refine Below.setCell ?_ (by first | (simp; done) | (simp; omega) | omega) _)))); (exact (R1.out.move G44.out).hq.below (by (repeat (first | exact Below.refl _ _ | refine Below.drew ?_ | refine Below.alloc ?_ (by first | (simp; done) | (simp; omega) | omega) _ | refine Below.setCell ?_ (by first | (simp; done) | (simp; omega) | omega) _)))); (exact (R2.out.move G44.out).hz.below (by (repeat (first | exact Below.refl _ _ | refine Below.drew ?_ | refine Below.alloc ?_ (by first | (simp; done) | (simp; omega) | omega) _ | refine Below.setCell ?_ (by first | (simp; done) | (simp; omega) | omega) _)))); (exact (R2.out.move G44.out).hq.below (by (repeat (first | exact Below.refl _ _ | refine Below.drew ?_ | refine Below.alloc ?_ (by first | (simp; done) | (simp; omega) | omega) _ | refine Below.setCell ?_ (by first | (simp; done) | (simp; omega) | omega) _)))); rintro e w45 ⟨rfl, hb45⟩; rw [HQ2.out]; have G45 : Hid (Below wB.heap.size wB w45) := Lib.hid (G44.out.trans ((Below.trans (by (repeat (first | exact Below.refl _ _ | refine Below.drew ?_ | refine Below.alloc ?_ (by first | (simp; done) | (simp; omega) | omega) _ | refine Below.setCell ?_ (by first | (simp; done) | (simp; omega) | omega) _))) (hb45.mono (by simp <;> omega))).mono G44.out.size)); have j0_45 := (R0.out.move G45.out).c0; have j1_45 := (R0.out.move G45.out).c1; have j2_45 := (R0.out.move G45.out).c2; have j3_45 := (R1.out.move G45.out).c0; have j4_45 := (R1.out.move G45.out).c1; have j5_45 := (R1.out.move G45.out).c2; have j6_45 := (R2.out.move G45.out).c0; have j7_45 := (R2.out.move G45.out).c1; have j8_45 := (R2.out.move G45.out).c2; clear hb45))
      | (go_at_call 30; (have _hx := G43); go_must (refine (query_any ikN ikN _ _ _ F _ _ _ G _ _ _ _ _ _ _ _ _ _ _ _ _ _ _ _ _ _ _ ?_ ?_ hlF F9 f1 G6' ?_ ?_ ?_ ?_ a0.1 a1.1 a0.2.1 a0.2.2 a1.2.1 a1.2.2).mono ?_; (exact (HF.out.below ikN G43.out).below ikN (by (repeat (first | exact Below.refl _ _ | refine Below.drew ?_ | refine Below.alloc ?_ (by first | (simp; done) | (simp; omega) | omega) _ | refine Below.setCell ?_ (by first | (simp; done) | (simp; omega) | omega) _)))); (exact (HG.out.below ikN G43.out).below ikN (by (repeat (first | exact Below.refl _ _ | refine Below.drew ?_ | refine Below.alloc ?_ (by first | (simp; done) | (simp; omega) | omega) _ | refine Below.setCell ?_ (by first | (simp; done) | (simp; omega) | omega) _)))); (exact (R0.out.move G43.out).hz.below (by (repeat (first | exact Below.refl _ _ | refine Below.drew ?_ | refine Below.alloc ?_ (by first | (simp; done) | (simp; omega) | omega) _ | refine Below.setCell ?_ (by first | (simp; done) | (simp; omega) | omega) _)))); (exact (R0.out.move G43.out).hq.below (by (repeat (first | exact Below.refl _ _ | refine Below.drew ?_ | refine Below.alloc ?_ (by first | (simp; done) | (simp; omega) | omega) _ | refine Below.setCell ?_ (by first | (simp; done) | (simp; omega) | omega) _)))); (exact (R1.out.move G43.out).hz.below (by (repeat (first | exact Below.refl _ _ | refine Below.drew ?_ | refine Below.alloc ?_ (by first | (simp; done) | (simp; omega) | omega) _ | refine Below.setCell ?_ (by first | (simp; done) | (simp; omega) | omega) _)))); (exact (R1.out.move G43.out).hq.below (by (repeat (first | exact Below.refl _ _ | refine Below.drew ?_ | refine Below.alloc ?_ (by first | (simp; done) | (simp; omega) | omega) _ | refine Below.setCell ?_ (by first | (simp; done) | (simp; omega) | omega) _)))); rintro e w44 ⟨rfl, hb44⟩; rw [HQ1.out]; have G44 : Hid (Below wB.heap.size wB w44) := Lib.hid (G43.out.trans ((Below.trans (by (repeat (first | exact Below.refl _ _ | refine Below.drew ?_ | refine Below.alloc ?_ (by first | (simp; done) | (simp; omega) | omega) _ | refine Below.setCell ?_ (by first | (simp; done) | (simp; omega) | omega) _))) (hb44.mono (by simp <;> omega))).mono G43.out.size)); have j0_44 := (R0.out.move G44.out).c0; have j1_44 := (R0.out.move G44.out).c1; have j2_44 := (R0.out.move G44.out).c2; have j3_44 := (R1.out.move G44.out).c0; have j4_44 := (R1.out.move G44.out).c1; have j5_44 := (R1.out.move G44.out).c2; have j6_44 := (R2.out.move G44.out).c0; have j7_44 := (R2.out.move G44.out).c1; have j8_44 := (R2.out.move G44.out).c2; clear hb44))
      | (go_at_call 23; (have _hx := G42); go_must (refine (count_q ikN _ _ _ F _ _ _ _ _ _ _ _ _ _ _ _ _ _ _ _ _ _ _ ?_ hlF F9 ?_ ?_ ?_ ?_ a0.1 a2.1 a0.2.1 a0.2.2 a2.2.1 a2.2.2).mono ?_; (exact (HF.out.below ikN G42.out).below ikN (by (repeat (first | exact Below.refl _ _ | refine Below.drew ?_ | refine Below.alloc ?_ (by first | (simp; done) | (simp; omega) | omega) _ | refine Below.setCell ?_ (by first | (simp; done) | (simp; omega) | omega) _)))); (exact (R0.out.move G42.out).hz.below (by (repeat (first | exact Below.refl _ _ | refine Below.drew ?_ | refine Below.alloc ?_ (by first | (simp; done) | (simp; omega) | omega) _ | refine Below.setCell ?_ (by first | (simp; done) | (simp; omega) | omega) _)))); (exact (R0.out.move G42.out).hq.below (by (repeat (first | exact Below.refl _ _ | refine Below.drew ?_ | refine Below.alloc ?_ (by first | (simp; done) | (simp; omega) | omega) _ | refine Below.setCell ?_ (by first | (simp; done) | (simp; omega) | omega) _)))); (exact (R2.out.move G42.out).hz.below (by (repeat (first | exact Below.refl _ _ | refine Below.drew ?_ | refine Below.alloc ?_ (by first | (simp; done) | (simp; omega) | omega) _ | refine Below.setCell ?_ (by first | (simp; done) | (simp; omega) | omega) _)))); (exact (R2.out.move G42.out).hq.below (by (repeat (first | exact Below.refl _ _ | refine Below.drew ?_ | refine Below.alloc ?_ (by first | (simp; done) | (simp; omega) | omega) _ | refine Below.setCell ?_ (by first | (simp; done) | (simp; omega) | omega) _)))); rintro e w43 ⟨rfl, hb43⟩; rw [HC3.out]; have G43 : Hid (Below wB.heap.size wB w43) := Lib.hid (G42.out.trans ((Below.trans (by (repeat (first | exact Below.refl _ _ | refine Below.drew ?_ | refine Below.alloc ?_ (by first | (simp; done) | (simp; omega) | omega) _ | refine Below.setCell ?_ (by first | (simp; done) | (simp; omega) | omega) _))) (hb43.mono (by simp <;> omega))).mono G42.out.size)); have j0_43 := (R0.out.move G43.out).c0; have j1_43 := (R0.out.move G43.out).c1; have j2_43 := (R0.out.move G43.out).c2; have j3_43 := (R1.out.move G43.out).c0; have j4_43 := (R1.out.move G43.out).c1; have j5_43 := (R1.out.move G43.out).c2; have j6_43 := (R2.out.move G43.out).c0; have j7_43 := (R2.out.move G43.out).c1; have j8_43 := (R2.out.move G43.out).c2; clear hb43))
      | (go_at_call 23; (have _hx := G41); go_must (refine (count_q ikN _ _ _ F _ _ _ _ _ _ _ _ _ _ _ _ _ _ _ _ _ _ _ ?_ hlF F9 ?_ ?_ ?_ ?_ a1.1 a2.1 a1.2.1 a1.2.2 a2.2.1 a2.2.2).mono ?_; (exact (HF.out.below ikN G41.out).below ikN (by (repeat (first | exact Below.refl _ _ | refine Below.drew ?_ | refine Below.alloc ?_ (by first | (simp; done) | (simp; omega) | omega) _ | refine Below.setCell ?_ (by first | (simp; done) | (simp; omega) | omega) _)))); (exact (R1.out.move G41.out).hz.below (by (repeat (first | exact Below.refl _ _ | refine Below.drew ?_ | refine Below.alloc ?_ (by first | (simp; done) | (simp; omega) | omega) _ | refine Below.setCell ?_ (by first | (simp; done) | (simp; omega) | omega) _)))); (exact (R1.out.move G41.out).hq.below (by (repeat (first | exact Below.refl _ _ | refine Below.drew ?_ | refine Below.alloc ?_ (by first | (simp; done) | (simp; omega) | omega) _ | refine Below.setCell ?_ (by first | (simp; done) | (simp; omega) | omega) _)))); (exact (R2.out.move G41.out).hz.below (by (repeat (first | exact Below.refl _ _ | refine Below.drew ?_ | refine Below.alloc ?_ (by first | (simp; done) | (simp; omega) | omega) _ | refine Below.setCell ?_ (by first | (simp; done) | (simp; omega) | omega) _)))); (exact (R2.out.move G41.out).hq.below (by (repeat (first | exact Below.refl _ _ | refine Below.drew ?_ | refine Below.alloc ?_ (by first | (simp; done) | (simp; omega) | omega) _ | refine Below.setCell ?_ (by first | (simp; done) | (simp; omega) | omega) _)))); rintro e w42 ⟨rfl, hb42⟩; rw [HC2.out]; have G42 : Hid (Below wB.heap.size wB w42) := Lib.hid (G41.out.trans ((Below.trans (by (repeat (first | exact Below.refl _ _ | refine Below.drew ?_ | refine Below.alloc ?_ (by first | (simp; done) | (simp; omega) | omega) _ | refine Below.setCell ?_ (by first | (simp; done) | (simp; omega) | omega) _))) (hb42.mono (by simp <;> omega))).mono G41.out.size)); have j0_42 := (R0.out.move G42.out).c0; have j1_42 := (R0.out.move G42.out).c1; have j2_42 := (R0.out.move G42.out).c2; have j3_42 := (R1.out.move G42.out).c0; have j4_42 := (R1.out.move G42.out).c1; have j5_42 := (R1.out.move G42.out).c2; have j6_42 := (R2.out.move G42.out).c0; have j7_42 := (R2.out.move G42.out).c1; have j8_42 := (R2.out.move G42.out).c2; clear hb42))
      | (go_at_call 23; (have _hx := G40); go_must (refine (count_q ikN _ _ _ F _ _ _ _ _ _ _ _ _ _ _ _ _ _ _ _ _ _ _ ?_ hlF F9 ?_ ?_ ?_ ?_ a0.1 a1.1 a0.2.1 a0.2.2 a1.2.1 a1.2.2).mono ?_; (exact (HF.out.below ikN G40.out).below ikN (by (repeat (first | exact Below.refl _ _ | refine Below.drew ?_ | refine Below.alloc ?_ (by first | (simp; done) | (simp; omega) | omega) _ | refine Below.setCell ?_ (by first | (simp; done) | (simp; omega) | omega) _)))); (exact (R0.out.move G40.out).hz.below (by (repeat (first | exact Below.refl _ _ | refine Below.drew ?_ | refine Below.alloc ?_ (by first | (simp; done) | (simp; omega) | omega) _ | refine Below.setCell ?_ (by first | (simp; done) | (simp; omega) | omega) _)))); (exact (R0.out.move G40.out).hq.below (by (repeat (first | exact Below.refl _ _ | refine Below.drew ?_ | refine Below.alloc ?_ (by first | (simp; done) | (simp; omega) | omega) _ | refine Below.setCell ?_ (by first | (simp; done) | (simp; omega) | omega) _)))); (exact (R1.out.move G40.out).hz.below (by (repeat (first | exact Below.refl _ _ | refine Below.drew ?_ | refine Below.alloc ?_ (by first | (simp; done) | (simp; omega) | omega) _ | refine Below.setCell ?_ (by first | (simp; done) | (simp; omega) | omega) _)))); (exact (R1.out.move G40.out).hq.below (by (repeat (first | exact Below.refl _ _ | refine Below.drew ?_ | refine Below.alloc ?_ (by first | (simp; done) | (simp; omega) | omega) _ | refine Below.setCell ?_ (by first | (simp; done) | (simp; omega) | omega) _)))); rintro e w41 ⟨rfl, hb41⟩; rw [HC1.out]; have G41 : Hid (Below wB.heap.size wB w41) := Lib.hid (G40.out.trans ((Below.trans (by (repeat (first | exact Below.refl _ _ | refine Below.drew ?_ | refine Below.alloc ?_ (by first | (simp; done) | (simp; omega) | omega) _ | refine Below.setCell ?_ (by first | (simp; done) | (simp; omega) | omega) _))) (hb41.mono (by simp <;> omega))).mono G40.out.size)); have j0_41 := (R0.out.move G41.out).c0; have j1_41 := (R0.out.move G41.out).c1; have j2_41 := (R0.out.move G41.out).c2; have j3_41 := (R1.out.move G41.out).c0; have j4_41 := (R1.out.move G41.out).c1; have j5_41 := (R1.out.move G41.out).c2; have j6_41 := (R2.out.move G41.out).c0; have j7_41 := (R2.out.move G41.out).c1; have j8_41 := (R2.out.move G41.out).c2; clear hb41)))
    rename_i hHeld
    clear hHeld
    replace R0 := Lib.hid (R0.out.move G46.out); replace R1 := Lib.hid (R1.out.move G46.out); replace R2 := Lib.hid (R2.out.move G46.out); replace HF := Lib.hid (HF.out.below ikN G46.out); replace HG := Lib.hid (HG.out.below ikN G46.out); replace Hb := Lib.hid (Hb.out.trans (G46.out.mono Hb.out.size))
    clear j0_41 j1_41 j2_41 j3_41 j4_41 j5_41 j6_41 j7_41 j8_41 j0_42 j1_42 j2_42 j3_42 j4_42 j5_42 j6_42 j7_42 j8_42 j0_43 j1_43 j2_43 j3_43 j4_43 j5_43 j6_43 j7_43 j8_43 j0_44 j1_44 j2_44 j3_44 j4_44 j5_44 j6_44 j7_44 j8_44 j0_45 j1_45 j2_45 j3_45 j4_45 j5_45 j6_45 j7_45 j8_45 j0_46 j1_46 j2_46 j3_46 j4_46 j5_46 j6_46 j7_46 j8_46 j0 j1 j2 j3 j4 j5 j6 j7 j8 G40 G41 G42 G43 G44 G45 G46
    go_wp2_with fail
    refine (signs_any _ _ _ F _ _ _ G _ HF.out HG.out F9 f1 G6' hlF).mono ?_
    rintro e w47 ⟨⟨sa, sb, sc, rfl, hsg, ba, bb, bc⟩, hb47⟩
    replace R0 := Lib.hid (R0.out.move hb47); replace R1 := Lib.hid (R1.out.move hb47); replace R2 := Lib.hid (R2.out.move hb47); replace HF := Lib.hid (HF.out.below ikN hb47); replace HG := Lib.hid (HG.out.below ikN hb47); replace Hb := Lib.hid (Hb.out.trans (hb47.mono Hb.out.size))
    obtain ⟨NA, hNA⟩ : ∃ N, N = nall F := ⟨_, rfl⟩
    obtain ⟨NQ, hNQ⟩ : ∃ N, N = nq F G := ⟨_, rfl⟩
    have t1 := hsg.s
    have t2 := hsg.d
    have t3 := hsg.a0
    have t4 := hsg.b0
    have t5 := hsg.c0
    rw [← hNA] at t1
    rw [← hNQ] at t2
    have HNA := Lib.hid hNA.symm
    have HNQ := Lib.hid hNQ.symm
    have x1 : IntKind.i64.wrap (sa + sb) = sa + sb := IntWalk.i64_in _ (by omega)
    have x2 : IntKind.i64.wrap (sa + sb + sc) = NA := by rw [t1.symm]; exact IntWalk.i64_in _ (by omega)
    have x3 : IntKind.i64.wrap (sc - sa) = NQ := by rw [t2.symm]; exact IntWalk.i64_in _ (by omega)
    have y3 : ¬ sa < 0 := by omega
    have y4 : ¬ sb < 0 := by omega
    have y5 : ¬ sc < 0 := by omega
    clear hb47 hsg hNA hNQ t1 t2 t3 t4 t5
    go_wp2_with fail
    refine (all_q ikN _ _ _ F _ HF.out F9 hlF).mono ?_
    rintro e w48 ⟨rfl, hb48⟩
    rw [HNA.out]
    replace R0 := Lib.hid (R0.out.move hb48); replace R1 := Lib.hid (R1.out.move hb48); replace R2 := Lib.hid (R2.out.move hb48); replace HF := Lib.hid (HF.out.below ikN hb48); replace HG := Lib.hid (HG.out.below ikN hb48); replace Hb := Lib.hid (Hb.out.trans (hb48.mono Hb.out.size))
    clear hb48
    go_wp2_with fail
    refine (qall_any ikN ikN _ _ _ F _ _ _ G _ HF.out HG.out F9 f1 G6' hlF).mono ?_
    rintro e w49 ⟨rfl, hb49⟩
    rw [HNQ.out]
    replace R0 := Lib.hid (R0.out.move hb49); replace R1 := Lib.hid (R1.out.move hb49); replace R2 := Lib.hid (R2.out.move hb49); replace HF := Lib.hid (HF.out.below ikN hb49); replace HG := Lib.hid (HG.out.below ikN hb49); replace Hb := Lib.hid (Hb.out.trans (hb49.mono Hb.out.size))
    clear hb49
    have G1' : G6 [1] := ⟨by decide, fun j => by
      match j with
      | 0 => show (1 : Int).natAbs ≤ BB; rw [BB_eq]; decide
      | j + 1 => simp⟩
    have HQO := Lib.hid ((nquery_one F9 f1 a0.1.pos a2.1.pos a0.2.1 a0.2.2 a2.2.1 a2.2.2).trans HC3.out)
    have sF := cF.fit.smp
    have Q9 : P9 (qpart F) := ⟨by have := F9.part_l; omega, fun j => by
      by_cases h0 : plen F = 0
      · rw [qpart_nil h0]; simp
      · exact Nat.le_trans ((q_facts F9.q h0).b 1 (fun j => Nat.le_trans (pprim_abs F j) (Nat.le_trans (f4 j) (by rw [BB_eq]; decide))) j) (bbk_le (by decide))⟩
    have HCP := Lib.hid ((ncount_part F9 Q9 (za := z0) (zc := z2) a0.1.pos a2.1.pos).trans HC3.out)
    have lQ : (qpart F).length ≤ 10 := by rw [← F9.part_t, ptrim_length]; have := F9.part_l; omega
    have hbl := below_le F9 (zb := z1) (zc := z2) a1.1.pos a2.1.pos
    have hbb := nbelow_bd F9 (z := z1) a1.1.pos
    have hcb := ncount_bd F9 (z := z1) (z' := z2) a1.1.pos a2.1.pos
    rw [HC2.out] at hbl hcb
    rw [HNA.out] at hbl
    obtain ⟨V5, hV5⟩ : ∃ V, V = nbelow F z1 q1 := ⟨_, rfl⟩
    rw [← hV5] at hbl hbb
    have HBL := Lib.hid hV5.symm
    have x4 : IntKind.i64.wrap (V5 + N2) = V5 + N2 := IntWalk.i64_in _ (by omega)
    clear hV5 hbb hcb
    obtain ⟨wC, hwC⟩ : ∃ wC, wC = w49 := ⟨_, rfl⟩
    rw [← hwC] at R0 R1 R2 HF HG Hb ⊢
    clear hwC
    have j0 := R0.out.c0; have j1 := R0.out.c1; have j2 := R0.out.c2; have j3 := R1.out.c0; have j4 := R1.out.c1; have j5 := R1.out.c2; have j6 := R2.out.c0; have j7 := R2.out.c1; have j8 := R2.out.c2
    have G60 : Hid (Below wC.heap.size wC wC) := Lib.hid (Below.refl _ _)
    go_wp2_with fail
    go_region_held3 (fun w' => w'.cell? ⟨g0, 0, none⟩ = some (.bool n0) ∧ w'.cell? ⟨g0, 1, none⟩ = some (.slice B0 l0 c0) ∧ w'.cell? ⟨g0, 2, none⟩ = some (.slice C0 m0' d0') ∧ w'.cell? ⟨g1, 0, none⟩ = some (.bool n1) ∧ w'.cell? ⟨g1, 1, none⟩ = some (.slice B1 l1 c1) ∧ w'.cell? ⟨g1, 2, none⟩ = some (.slice C1 m1' d1') ∧ w'.cell? ⟨g2, 0, none⟩ = some (.bool n2) ∧ w'.cell? ⟨g2, 1, none⟩ = some (.slice B2 l4 c4) ∧ w'.cell? ⟨g2, 2, none⟩ = some (.slice C2 m2' d2')) (go_keep) (first
      | (go_at_call 25; (have _hx := G68); go_must (refine (all_q ikN _ _ _ F _ ?_ F9 hlF).mono ?_; (exact (HF.out.below ikN G68.out).below ikN (by (repeat (first | exact Below.refl _ _ | refine Below.drew ?_ | refine Below.alloc ?_ (by first | (simp; done) | (simp; omega) | omega) _ | refine Below.setCell ?_ (by first | (simp; done) | (simp; omega) | omega) _)))); rintro e w69 ⟨rfl, hb69⟩; rw [HNA.out]; have G69 : Hid (Below wC.heap.size wC w69) := Lib.hid (G68.out.trans ((Below.trans (by (repeat (first | exact Below.refl _ _ | refine Below.drew ?_ | refine Below.alloc ?_ (by first | (simp; done) | (simp; omega) | omega) _ | refine Below.setCell ?_ (by first | (simp; done) | (simp; omega) | omega) _))) (hb69.mono (by simp <;> omega))).mono G68.out.size)); have j0_69 := (R0.out.move G69.out).c0; have j1_69 := (R0.out.move G69.out).c1; have j2_69 := (R0.out.move G69.out).c2; have j3_69 := (R1.out.move G69.out).c0; have j4_69 := (R1.out.move G69.out).c1; have j5_69 := (R1.out.move G69.out).c2; have j6_69 := (R2.out.move G69.out).c0; have j7_69 := (R2.out.move G69.out).c1; have j8_69 := (R2.out.move G69.out).c2; clear hb69))
      | (go_at_call 23; (have _hx := G67); go_must (refine (count_q ikN _ _ _ F _ _ _ _ _ _ _ _ _ _ _ _ _ _ _ _ _ _ _ ?_ hlF F9 ?_ ?_ ?_ ?_ a1.1 a2.1 a1.2.1 a1.2.2 a2.2.1 a2.2.2).mono ?_; (exact (HF.out.below ikN G67.out).below ikN (by (repeat (first | exact Below.refl _ _ | refine Below.drew ?_ | refine Below.alloc ?_ (by first | (simp; done) | (simp; omega) | omega) _ | refine Below.setCell ?_ (by first | (simp; done) | (simp; omega) | omega) _)))); (exact (R1.out.move G67.out).hz.below (by (repeat (first | exact Below.refl _ _ | refine Below.drew ?_ | refine Below.alloc ?_ (by first | (simp; done) | (simp; omega) | omega) _ | refine Below.setCell ?_ (by first | (simp; done) | (simp; omega) | omega) _)))); (exact (R1.out.move G67.out).hq.below (by (repeat (first | exact Below.refl _ _ | refine Below.drew ?_ | refine Below.alloc ?_ (by first | (simp; done) | (simp; omega) | omega) _ | refine Below.setCell ?_ (by first | (simp; done) | (simp; omega) | omega) _)))); (exact (R2.out.move G67.out).hz.below (by (repeat (first | exact Below.refl _ _ | refine Below.drew ?_ | refine Below.alloc ?_ (by first | (simp; done) | (simp; omega) | omega) _ | refine Below.setCell ?_ (by first | (simp; done) | (simp; omega) | omega) _)))); (exact (R2.out.move G67.out).hq.below (by (repeat (first | exact Below.refl _ _ | refine Below.drew ?_ | refine Below.alloc ?_ (by first | (simp; done) | (simp; omega) | omega) _ | refine Below.setCell ?_ (by first | (simp; done) | (simp; omega) | omega) _)))); rintro e w68 ⟨rfl, hb68⟩; rw [HC2.out]; have G68 : Hid (Below wC.heap.size wC w68) := Lib.hid (G67.out.trans ((Below.trans (by (repeat (first | exact Below.refl _ _ | refine Below.drew ?_ | refine Below.alloc ?_ (by first | (simp; done) | (simp; omega) | omega) _ | refine Below.setCell ?_ (by first | (simp; done) | (simp; omega) | omega) _))) (hb68.mono (by simp <;> omega))).mono G67.out.size)); have j0_68 := (R0.out.move G68.out).c0; have j1_68 := (R0.out.move G68.out).c1; have j2_68 := (R0.out.move G68.out).c2; have j3_68 := (R1.out.move G68.out).c0; have j4_68 := (R1.out.move G68.out).c1; have j5_68 := (R1.out.move G68.out).c2; have j6_68 := (R2.out.move G68.out).c0; have j7_68 := (R2.out.move G68.out).c1; have j8_68 := (R2.out.move G68.out).c2; clear hb68))
      | (go_at_call 27; (have _hx := G66); go_must (refine (below_any _ _ _ F _ _ _ _ _ _ _ _ _ _ ?_ hlF F9 ?_ ?_ a1.1 a1.2.1 a1.2.2).mono ?_; (exact (HF.out.below ikN G66.out).below ikN (by (repeat (first | exact Below.refl _ _ | refine Below.drew ?_ | refine Below.alloc ?_ (by first | (simp; done) | (simp; omega) | omega) _ | refine Below.setCell ?_ (by first | (simp; done) | (simp; omega) | omega) _)))); (exact (R1.out.move G66.out).hz.below (by (repeat (first | exact Below.refl _ _ | refine Below.drew ?_ | refine Below.alloc ?_ (by first | (simp; done) | (simp; omega) | omega) _ | refine Below.setCell ?_ (by first | (simp; done) | (simp; omega) | omega) _)))); (exact (R1.out.move G66.out).hq.below (by (repeat (first | exact Below.refl _ _ | refine Below.drew ?_ | refine Below.alloc ?_ (by first | (simp; done) | (simp; omega) | omega) _ | refine Below.setCell ?_ (by first | (simp; done) | (simp; omega) | omega) _)))); rintro e w67 ⟨rfl, hb67⟩; rw [HBL.out]; have G67 : Hid (Below wC.heap.size wC w67) := Lib.hid (G66.out.trans ((Below.trans (by (repeat (first | exact Below.refl _ _ | refine Below.drew ?_ | refine Below.alloc ?_ (by first | (simp; done) | (simp; omega) | omega) _ | refine Below.setCell ?_ (by first | (simp; done) | (simp; omega) | omega) _))) (hb67.mono (by simp <;> omega))).mono G66.out.size)); have j0_67 := (R0.out.move G67.out).c0; have j1_67 := (R0.out.move G67.out).c1; have j2_67 := (R0.out.move G67.out).c2; have j3_67 := (R1.out.move G67.out).c0; have j4_67 := (R1.out.move G67.out).c1; have j5_67 := (R1.out.move G67.out).c2; have j6_67 := (R2.out.move G67.out).c0; have j7_67 := (R2.out.move G67.out).c1; have j8_67 := (R2.out.move G67.out).c2; clear hb67))
      | (go_at_call 23; (have _hx := G65); go_must (refine (count_q ikN _ _ _ F _ _ _ _ _ _ _ _ _ _ _ _ _ _ _ _ _ _ _ ?_ hlF F9 ?_ ?_ ?_ ?_ a0.1 a2.1 a0.2.1 a0.2.2 a2.2.1 a2.2.2).mono ?_; (exact (HF.out.below ikN G65.out).below ikN (by (repeat (first | exact Below.refl _ _ | refine Below.drew ?_ | refine Below.alloc ?_ (by first | (simp; done) | (simp; omega) | omega) _ | refine Below.setCell ?_ (by first | (simp; done) | (simp; omega) | omega) _)))); (exact (R0.out.move G65.out).hz.below (by (repeat (first | exact Below.refl _ _ | refine Below.drew ?_ | refine Below.alloc ?_ (by first | (simp; done) | (simp; omega) | omega) _ | refine Below.setCell ?_ (by first | (simp; done) | (simp; omega) | omega) _)))); (exact (R0.out.move G65.out).hq.below (by (repeat (first | exact Below.refl _ _ | refine Below.drew ?_ | refine Below.alloc ?_ (by first | (simp; done) | (simp; omega) | omega) _ | refine Below.setCell ?_ (by first | (simp; done) | (simp; omega) | omega) _)))); (exact (R2.out.move G65.out).hz.below (by (repeat (first | exact Below.refl _ _ | refine Below.drew ?_ | refine Below.alloc ?_ (by first | (simp; done) | (simp; omega) | omega) _ | refine Below.setCell ?_ (by first | (simp; done) | (simp; omega) | omega) _)))); (exact (R2.out.move G65.out).hq.below (by (repeat (first | exact Below.refl _ _ | refine Below.drew ?_ | refine Below.alloc ?_ (by first | (simp; done) | (simp; omega) | omega) _ | refine Below.setCell ?_ (by first | (simp; done) | (simp; omega) | omega) _)))); rintro e w66 ⟨rfl, hb66⟩; rw [HC3.out]; have G66 : Hid (Below wC.heap.size wC w66) := Lib.hid (G65.out.trans ((Below.trans (by (repeat (first | exact Below.refl _ _ | refine Below.drew ?_ | refine Below.alloc ?_ (by first | (simp; done) | (simp; omega) | omega) _ | refine Below.setCell ?_ (by first | (simp; done) | (simp; omega) | omega) _))) (hb66.mono (by simp <;> omega))).mono G65.out.size)); have j0_66 := (R0.out.move G66.out).c0; have j1_66 := (R0.out.move G66.out).c1; have j2_66 := (R0.out.move G66.out).c2; have j3_66 := (R1.out.move G66.out).c0; have j4_66 := (R1.out.move G66.out).c1; have j5_66 := (R1.out.move G66.out).c2; have j6_66 := (R2.out.move G66.out).c0; have j7_66 := (R2.out.move G66.out).c1; have j8_66 := (R2.out.move G66.out).c2; clear hb66))
      | (go_at_call 23; (have _hx := G64); go_must (refine (count_q ikN _ _ _ (qpart F) _ _ _ _ _ _ _ _ _ _ _ _ _ _ _ _ _ _ _ ?_ hl64 Q9 ?_ ?_ ?_ ?_ a0.1 a2.1 a0.2.1 a0.2.2 a2.2.1 a2.2.2).mono ?_; (exact H64.out.below ikN (by (repeat (first | exact Below.refl _ _ | refine Below.drew ?_ | refine Below.alloc ?_ (by first | (simp; done) | (simp; omega) | omega) _ | refine Below.setCell ?_ (by first | (simp; done) | (simp; omega) | omega) _)))); (exact (R0.out.move G64.out).hz.below (by (repeat (first | exact Below.refl _ _ | refine Below.drew ?_ | refine Below.alloc ?_ (by first | (simp; done) | (simp; omega) | omega) _ | refine Below.setCell ?_ (by first | (simp; done) | (simp; omega) | omega) _)))); (exact (R0.out.move G64.out).hq.below (by (repeat (first | exact Below.refl _ _ | refine Below.drew ?_ | refine Below.alloc ?_ (by first | (simp; done) | (simp; omega) | omega) _ | refine Below.setCell ?_ (by first | (simp; done) | (simp; omega) | omega) _)))); (exact (R2.out.move G64.out).hz.below (by (repeat (first | exact Below.refl _ _ | refine Below.drew ?_ | refine Below.alloc ?_ (by first | (simp; done) | (simp; omega) | omega) _ | refine Below.setCell ?_ (by first | (simp; done) | (simp; omega) | omega) _)))); (exact (R2.out.move G64.out).hq.below (by (repeat (first | exact Below.refl _ _ | refine Below.drew ?_ | refine Below.alloc ?_ (by first | (simp; done) | (simp; omega) | omega) _ | refine Below.setCell ?_ (by first | (simp; done) | (simp; omega) | omega) _)))); rintro e w65 ⟨rfl, hb65⟩; rw [HCP.out]; have G65 : Hid (Below wC.heap.size wC w65) := Lib.hid (G64.out.trans ((Below.trans (by (repeat (first | exact Below.refl _ _ | refine Below.drew ?_ | refine Below.alloc ?_ (by first | (simp; done) | (simp; omega) | omega) _ | refine Below.setCell ?_ (by first | (simp; done) | (simp; omega) | omega) _))) (hb65.mono (by simp <;> omega))).mono G64.out.size)); have j0_65 := (R0.out.move G65.out).c0; have j1_65 := (R0.out.move G65.out).c1; have j2_65 := (R0.out.move G65.out).c2; have j3_65 := (R1.out.move G65.out).c0; have j4_65 := (R1.out.move G65.out).c1; have j5_65 := (R1.out.move G65.out).c2; have j6_65 := (R2.out.move G65.out).c0; have j7_65 := (R2.out.move G65.out).c1; have j8_65 := (R2.out.move G65.out).c2; clear hb65))
      | (go_at_call 33; (have _hx := G63); go_must (refine (part_q ikN _ _ _ F _ ?_ sF (fun _ => F9.q) hlF).mono ?_; (exact (HF.out.below ikN G63.out).below ikN (by (repeat (first | exact Below.refl _ _ | refine Below.drew ?_ | refine Below.alloc ?_ (by first | (simp; done) | (simp; omega) | omega) _ | refine Below.setCell ?_ (by first | (simp; done) | (simp; omega) | omega) _)))); rintro e w64 ⟨A64, l64, c64, rfl, h64, hb64⟩; have H64 := Lib.hid h64; have hl64 : l64 ≤ 1000000 := (by have := h64.length; omega); clear h64; have G64 : Hid (Below wC.heap.size wC w64) := Lib.hid (G63.out.trans ((Below.trans (by (repeat (first | exact Below.refl _ _ | refine Below.drew ?_ | refine Below.alloc ?_ (by first | (simp; done) | (simp; omega) | omega) _ | refine Below.setCell ?_ (by first | (simp; done) | (simp; omega) | omega) _))) (hb64.mono (by simp <;> omega))).mono G63.out.size)); have j0_64 := (R0.out.move G64.out).c0; have j1_64 := (R0.out.move G64.out).c1; have j2_64 := (R0.out.move G64.out).c2; have j3_64 := (R1.out.move G64.out).c0; have j4_64 := (R1.out.move G64.out).c1; have j5_64 := (R1.out.move G64.out).c2; have j6_64 := (R2.out.move G64.out).c0; have j7_64 := (R2.out.move G64.out).c1; have j8_64 := (R2.out.move G64.out).c2; clear hb64))
      | (go_at_call 23; (have _hx := G62); go_must (refine (count_q ikN _ _ _ F _ _ _ _ _ _ _ _ _ _ _ _ _ _ _ _ _ _ _ ?_ hlF F9 ?_ ?_ ?_ ?_ a0.1 a2.1 a0.2.1 a0.2.2 a2.2.1 a2.2.2).mono ?_; (exact (HF.out.below ikN G62.out).below ikN (by (repeat (first | exact Below.refl _ _ | refine Below.drew ?_ | refine Below.alloc ?_ (by first | (simp; done) | (simp; omega) | omega) _ | refine Below.setCell ?_ (by first | (simp; done) | (simp; omega) | omega) _)))); (exact (R0.out.move G62.out).hz.below (by (repeat (first | exact Below.refl _ _ | refine Below.drew ?_ | refine Below.alloc ?_ (by first | (simp; done) | (simp; omega) | omega) _ | refine Below.setCell ?_ (by first | (simp; done) | (simp; omega) | omega) _)))); (exact (R0.out.move G62.out).hq.below (by (repeat (first | exact Below.refl _ _ | refine Below.drew ?_ | refine Below.alloc ?_ (by first | (simp; done) | (simp; omega) | omega) _ | refine Below.setCell ?_ (by first | (simp; done) | (simp; omega) | omega) _)))); (exact (R2.out.move G62.out).hz.below (by (repeat (first | exact Below.refl _ _ | refine Below.drew ?_ | refine Below.alloc ?_ (by first | (simp; done) | (simp; omega) | omega) _ | refine Below.setCell ?_ (by first | (simp; done) | (simp; omega) | omega) _)))); (exact (R2.out.move G62.out).hq.below (by (repeat (first | exact Below.refl _ _ | refine Below.drew ?_ | refine Below.alloc ?_ (by first | (simp; done) | (simp; omega) | omega) _ | refine Below.setCell ?_ (by first | (simp; done) | (simp; omega) | omega) _)))); rintro e w63 ⟨rfl, hb63⟩; rw [HC3.out]; have G63 : Hid (Below wC.heap.size wC w63) := Lib.hid (G62.out.trans ((Below.trans (by (repeat (first | exact Below.refl _ _ | refine Below.drew ?_ | refine Below.alloc ?_ (by first | (simp; done) | (simp; omega) | omega) _ | refine Below.setCell ?_ (by first | (simp; done) | (simp; omega) | omega) _))) (hb63.mono (by simp <;> omega))).mono G62.out.size)); have j0_63 := (R0.out.move G63.out).c0; have j1_63 := (R0.out.move G63.out).c1; have j2_63 := (R0.out.move G63.out).c2; have j3_63 := (R1.out.move G63.out).c0; have j4_63 := (R1.out.move G63.out).c1; have j5_63 := (R1.out.move G63.out).c2; have j6_63 := (R2.out.move G63.out).c0; have j7_63 := (R2.out.move G63.out).c1; have j8_63 := (R2.out.move G63.out).c2; clear hb63))
      | (go_at_call 30; (have _hx := G61); go_must (refine (query_any ikN ikN _ _ _ F _ _ _ [1] _ _ _ _ _ _ _ _ _ _ _ _ _ _ _ _ _ _ _ ?_ ?_ hlF F9 f1 G1' ?_ ?_ ?_ ?_ a0.1 a2.1 a0.2.1 a0.2.2 a2.2.1 a2.2.2).mono ?_; (exact (HF.out.below ikN G61.out).below ikN (by (repeat (first | exact Below.refl _ _ | refine Below.drew ?_ | refine Below.alloc ?_ (by first | (simp; done) | (simp; omega) | omega) _ | refine Below.setCell ?_ (by first | (simp; done) | (simp; omega) | omega) _)))); (exact H61.out.below ikN (by (repeat (first | exact Below.refl _ _ | refine Below.drew ?_ | refine Below.alloc ?_ (by first | (simp; done) | (simp; omega) | omega) _ | refine Below.setCell ?_ (by first | (simp; done) | (simp; omega) | omega) _)))); (exact (R0.out.move G61.out).hz.below (by (repeat (first | exact Below.refl _ _ | refine Below.drew ?_ | refine Below.alloc ?_ (by first | (simp; done) | (simp; omega) | omega) _ | refine Below.setCell ?_ (by first | (simp; done) | (simp; omega) | omega) _)))); (exact (R0.out.move G61.out).hq.below (by (repeat (first | exact Below.refl _ _ | refine Below.drew ?_ | refine Below.alloc ?_ (by first | (simp; done) | (simp; omega) | omega) _ | refine Below.setCell ?_ (by first | (simp; done) | (simp; omega) | omega) _)))); (exact (R2.out.move G61.out).hz.below (by (repeat (first | exact Below.refl _ _ | refine Below.drew ?_ | refine Below.alloc ?_ (by first | (simp; done) | (simp; omega) | omega) _ | refine Below.setCell ?_ (by first | (simp; done) | (simp; omega) | omega) _)))); (exact (R2.out.move G61.out).hq.below (by (repeat (first | exact Below.refl _ _ | refine Below.drew ?_ | refine Below.alloc ?_ (by first | (simp; done) | (simp; omega) | omega) _ | refine Below.setCell ?_ (by first | (simp; done) | (simp; omega) | omega) _)))); rintro e w62 ⟨rfl, hb62⟩; rw [HQO.out]; have G62 : Hid (Below wC.heap.size wC w62) := Lib.hid (G61.out.trans ((Below.trans (by (repeat (first | exact Below.refl _ _ | refine Below.drew ?_ | refine Below.alloc ?_ (by first | (simp; done) | (simp; omega) | omega) _ | refine Below.setCell ?_ (by first | (simp; done) | (simp; omega) | omega) _))) (hb62.mono (by simp <;> omega))).mono G61.out.size)); have j0_62 := (R0.out.move G62.out).c0; have j1_62 := (R0.out.move G62.out).c1; have j2_62 := (R0.out.move G62.out).c2; have j3_62 := (R1.out.move G62.out).c0; have j4_62 := (R1.out.move G62.out).c1; have j5_62 := (R1.out.move G62.out).c2; have j6_62 := (R2.out.move G62.out).c0; have j7_62 := (R2.out.move G62.out).c1; have j8_62 := (R2.out.move G62.out).c2; clear hb62))
      | (go_at_call 32; (have _hx := G60); go_must (refine (pof_any _ _ _ [1] _ ?_ ?_ ?_).mono ?_; (first | exact one_at _ _ | exact (one_at _ _).below ((Below.refl _ _).drew)); (intro c hc; simp at hc; subst hc; unfold I64; omega); omega; rintro e w61 ⟨A61, l61, c61, rfl, h61, hb61⟩; rw [show ptrim [(1 : Int)] = [1] from rfl] at h61; have H61 := Lib.hid h61; clear h61; have G61 : Hid (Below wC.heap.size wC w61) := Lib.hid (G60.out.trans ((Below.trans (by (repeat (first | exact Below.refl _ _ | refine Below.drew ?_ | refine Below.alloc ?_ (by first | (simp; done) | (simp; omega) | omega) _ | refine Below.setCell ?_ (by first | (simp; done) | (simp; omega) | omega) _))) (hb61.mono (by simp <;> omega))).mono G60.out.size)); have j0_61 := (R0.out.move G61.out).c0; have j1_61 := (R0.out.move G61.out).c1; have j2_61 := (R0.out.move G61.out).c2; have j3_61 := (R1.out.move G61.out).c0; have j4_61 := (R1.out.move G61.out).c1; have j5_61 := (R1.out.move G61.out).c2; have j6_61 := (R2.out.move G61.out).c0; have j7_61 := (R2.out.move G61.out).c1; have j8_61 := (R2.out.move G61.out).c2; clear hb61)))
    rename_i hHeld
    clear hHeld
    have HbE := Lib.hid (Hb.out.trans (G69.out.mono Hb.out.size))
    clear R0 R1 R2 HF HG Hb
    go_wp2
    go_ret
    exact ⟨rfl, HbE.out⟩
  · exact ⟨fun _ => false, fun _ => false, fun _ => false, fun _ => undef, fun _ => undef, ⟨Below.refl _ _, fun _ h => (by cases h), fun _ h => (by cases h), fun _ _ _ h => (by cases h), fun _ h => (by cases h)⟩, rfl, rfl⟩
end Go.Proofs.YtccapbajbniknaaGreat
