/- The walks of cylinderref09.Over and Primitive. -/
import Derived.Test.YtgblfpkfapmlnaaGreatZcn
import Derived.Test.YtgblfpkfapmlnaaGreatBto
namespace Go.Proofs.YtgblfpkfapmlnaaGreat
open Go Go.RowKit


set_option maxRecDepth 100000 in
set_option maxHeartbeats 4000000 in
theorem zover_fr (A : Option Addr) (la ca : Nat) (f : List Int) (s : Int) (B : Option Addr) (lb cb : Nat) (c : Int) (w : World) (hf : ZP w A la ca f) (hc : ZAt w s B lb cb c) (hla : la ≤ 1000) (bf : ZB 400000 f) (bc : lb ≤ 400000) (c0 : c ≠ 0) :
    Calls Tryz.prog 38 #[.slice A la ca, .agg #[.int .i64 s, .slice B lb cb]] w fun e w' => ∃ A' l' c', e = .returned (.slice A' l' c') ∧ ZP w' A' l' c' (f.map (·.tdiv c)) ∧ (0 < la → ∃ g, A' = some ⟨g, 0, none⟩ ∧ w.heap.size ≤ g) ∧ Below w.heap.size w w' := by
  have hb0 : Below w.heap.size w (w.alloc (zbox s B lb cb)) := (Below.refl _ _).alloc (Nat.le_refl _) _
  have HF := Lib.hid (hf.below hb0)
  have HF0 := Lib.hid hf
  have HC := Lib.hid (hc.below hb0)
  have Bf := Lib.hid bf
  have Hb0 := Lib.hid hb0
  have W0 : (w.alloc (zbox s B lb cb)).heap.size = w.heap.size + 1 := World.size_alloc _ _
  have HWs := Lib.hid W0
  obtain ⟨F, hF⟩ : ∃ F : Nat → Int, F = fun j => (f.getD j 0).tdiv c := ⟨_, rfl⟩
  have HFv := Lib.hid (fun j => (show F j = (f.getD j 0).tdiv c by rw [hF]))
  have Hres := Lib.hid (show tab la F = f.map (·.tdiv c) by
    rw [hF, ← hf.length, ← tab_self (f.map (·.tdiv c)), List.length_map]
    exact tab_ext fun j _ => by
      rw [List.getD_eq_getElem?_getD, List.getD_eq_getElem?_getD, List.getElem?_map]
      cases f[j]? <;> simp)
  have k0 : (w.alloc (zbox s B lb cb)).cell? ⟨w.heap.size, 0, none⟩ = some (.int .i64 s) := by go_simp
  have k1 : (w.alloc (zbox s B lb cb)).cell? ⟨w.heap.size, 1, none⟩ = some (.slice B lb cb) := by go_simp
  have K0 := Lib.hid k0
  have K1 := Lib.hid k1
  have C0 := Lib.hid c0
  clear hF hf bf hb0 hc k0 k1 W0 c0
  go_enter Tryz.func38, Tryz.ntmps38
  go_wp2
  go_loopw [5, 6] (fun s5 s6 wr => ∃ k : Nat, k ≤ la ∧ s6 = .int .i64 (k : Int) ∧ OwnZ wr (w.heap.size + 1) s5 ((tab la F).take k) ∧ Below (w.heap.size + 1) (w.alloc (zbox s B lb cb)) wr) (fun _ s6 _ => la - (intOf s6).toNat)
  case atStart => exact ⟨0, Nat.zero_le _, rfl, OwnZ.nil _ _, Below.refl _ _⟩
  case round =>
    obtain ⟨k, hk, rfl, hown, hbw⟩ := hrel
    have hbs : w.heap.size + 1 ≤ wr.heap.size := by have := hbw.size; rw [HWs.out] at this; exact this
    have Hown := Lib.hid hown
    have Hbw := Lib.hid hbw
    clear hown
    by_cases hlt : k < la
    · obtain ⟨c1, o1, rfl, hb1, hc1⟩ := HF0.out.at_ (by omega)
      obtain ⟨c1', o1', hA', hb1', hc1'⟩ := HF.out.at_ (by omega)
      cases hA'
      obtain ⟨s1, A1, l1, d1, e0, e1, hz1⟩ := hc1' k hlt
      have e0 := (hbw.cell (p := ⟨c1, o1 + k * 2, none⟩) (by simp; omega)).trans e0
      have e1 := (hbw.cell (p := ⟨c1, o1 + k * 2 + 1, none⟩) (by simp; omega)).trans e1
      have e2 := (hbw.cell (p := ⟨w.heap.size, 0, none⟩) (by simp)).trans K0.out
      have e3 := (hbw.cell (p := ⟨w.heap.size, 1, none⟩) (by simp)).trans K1.out
      have hz2 := HC.out
      rw [← HWs.out] at hbw
      have HZ1 := Lib.hid (hz1.below hbw)
      have HZ2 := Lib.hid (hz2.below hbw)
      have t1 : (k : Int) < (la : Int) := by omega
      have Hl1 := Lib.hid (show l1 ≤ 800000 by have := hz1.len; have := Bf.out k; omega)
      clear hc1 hc1' hz1 hz2 hbw
      go_wp2_with fail
      go_cut [7] (fun s7 wx => ∃ g s3 A3 l3 c3, s7 = .pointer (some ⟨g, 0, none⟩) ∧ ZBox wx g s3 A3 l3 c3 (F k) ∧ Below wr.heap.size wr wx)
      case first =>
        refine wp_region_held_drew (S := fun w' => (w'.cell? ⟨c1, o1 + k * 2, none⟩ = some (.int .i64 s1) ∧ w'.cell? ⟨c1, o1 + k * 2 + 1, none⟩ = some (.slice A1 l1 d1)) ∧ w'.cell? ⟨w.heap.size, 0, none⟩ = some (.int .i64 s) ∧ w'.cell? ⟨w.heap.size, 1, none⟩ = some (.slice B lb cb)) (by kernel_rfl) (by (try dsimp only); go_keep) (fun hHeld => ?_)
        (refine take_at (i := 0) (oi := _) (v := ?_) rfl rfl (by kernel_rfl) (by kernel_rfl) (by kernel_rfl) (fun _ _ _ h => h) (Or.inl ⟨by rfl, ?_⟩) (by assumption) ?_; rotate_left; (focus (intro w hSw; (try dsimp only at hSw); go_simp; (try with_reducible rfl))); (simp only [put_lit, List.set]))
        (refine take_at (i := 1) (oi := _) (v := ?_) rfl rfl (by kernel_rfl) (by kernel_rfl) (by kernel_rfl) (fun _ _ _ h => h) (Or.inl ⟨by rfl, ?_⟩) (by assumption) ?_; rotate_left; (focus (intro w hSw; (try dsimp only at hSw); go_simp; (try with_reducible rfl))); (simp only [put_lit, List.set]))
        (refine take_at (i := 2) (oi := _) (v := ?_) rfl rfl (by kernel_rfl) (by kernel_rfl) (by kernel_rfl) (fun _ _ _ h => h) (Or.inl ⟨by rfl, ?_⟩) (by assumption) ?_; rotate_left; (focus (intro w hSw; (try dsimp only at hSw); go_simp; (try with_reducible rfl))); (simp only [put_lit, List.set]))
        (refine take_at (i := 3) (oi := _) (v := ?_) rfl rfl (by kernel_rfl) (by kernel_rfl) (by kernel_rfl) (fun _ _ _ h => h) (Or.inl ⟨by rfl, ?_⟩) (by assumption) ?_; rotate_left; (focus (intro w hSw; (try dsimp only at hSw); go_simp; (try with_reducible rfl))); (simp only [put_lit, List.set]))
        (refine take_at (i := 4) (oi := _) (v := ?_) rfl rfl (by kernel_rfl) (by kernel_rfl) (by kernel_rfl) (fun _ _ _ h => h) (Or.inl ⟨by rfl, ?_⟩) (by assumption) ?_; rotate_left; (focus (intro w hSw; (try dsimp only at hSw); go_simp; (try with_reducible rfl))); (simp only [put_lit, List.set]))
        refine wpAnyH_inv (Inv := fun listed act w' => ∃ (cc m ss : Nat → Bool) (v u : Nat → Value) (Y Z0 Z1 : Bool) (t21 t15 y22 y23 : Value), BZ (fun i => if i = 0 then (f.getD k 0).tdiv c else (f.getD k 0).tmod c) wr.heap.size wr.drew w' cc m ss v u ∧ (cc 0 = true → cc 0 = true ∧ cc 1 = true ∧ t21 = .tuple #[v 0, v 1]) ∧ (Y = true → cc 0 = true ∧ t15 = .tuple #[v 0, v 1]) ∧ (Z0 = true → cc 0 = true ∧ y22 = v 0) ∧ (Z1 = true → cc 0 = true ∧ y23 = v 1) ∧ listed = #[true, true, true, true, true, cc 0, Y, Z0, Z1, m 0, m 1, ss 0, ss 1] ∧ act = ⟨#[.slice (some ⟨c1, o1, none⟩) la ca, .agg #[.int .i64 s, .slice B lb cb], undef, .pointer (some ⟨w.heap.size, 0, none⟩), .slice none 0 0, u5, .int .i64 (k : Int), u 0, u 1, .int .i64 (k : Int), .slice (some ⟨c1, o1, none⟩) la ca, .int .i64 (la : Int), .bool true, u13, u14, t15, .slice (some ⟨c1, o1, none⟩) la ca, .int .i64 (k : Int), .pointer (some ⟨c1, o1 + k * 2, none⟩), .agg #[.int .i64 s1, .slice A1 l1 d1], .agg #[.int .i64 s, .slice B lb cb], t21, y22, y23, u24, u25, u26, u27, undef], []⟩) ?_ ?_ ?_ 8 _ _ _ (by decide +kernel) ?_
        · rintro listed act w' ⟨cc, m, ss, v, u, Y, Z0, Z1, t21, t15, y22, y23, hB, hC, hY, hZ0, hZ1, rfl, rfl⟩
          have hh : ∀ b o, b < wr.heap.size → w'.cell? ⟨b, o, none⟩ = wr.drew.cell? ⟨b, o, none⟩ := fun b o h => hB.b.cell (p := ⟨b, o, none⟩) h
          exact ⟨⟨(hh _ _ (by omega)).trans hHeld.1.1, (hh _ _ (by omega)).trans hHeld.1.2⟩, (hh _ _ (by omega)).trans hHeld.2.1, (hh _ _ (by omega)).trans hHeld.2.2⟩
        · rintro listed act w' i o ⟨cc, m, ss, v, u, Y, Z0, Z1, t21, t15, y22, y23, hB, hC, hY, hZ0, hZ1, rfl, rfl⟩ ho hl hdp K hK
          have hi : i < 13 := (Array.getElem?_eq_some_iff.1 ho).1
          have hi' : i = 0 ∨ i = 1 ∨ i = 2 ∨ i = 3 ∨ i = 4 ∨ i = 5 ∨ i = 6 ∨ i = 7 ∨ i = 8 ∨ i = 9 ∨ i = 10 ∨ i = 11 ∨ i = 12 := by omega
          have hW : Below wr.heap.size wr w' := ((Below.refl _ _).drew).trans hB.b
          rcases hi' with rfl | rfl | rfl | rfl | rfl | rfl | rfl | rfl | rfl | rfl | rfl | rfl | rfl
          · cases hl
          · cases hl
          · cases hl
          · cases hl
          · cases hl
          · obtain rfl := Option.some.inj ho
            have hc0 : cc 0 = false := hl
            have hnc : ∀ {P : Prop}, cc 0 = true → P := fun h => by rw [hc0] at h; cases h
            go_simp
            refine (zquo_any _ _ _ _ (f.getD k 0) _ _ _ _ c _ (HZ1.out.below hW) (HZ2.out.below hW) Hl1.out (by omega) C0.out).mono ?_
            rintro e w3 ⟨s3, A3, l3, c3, s4, A4, l4, c4, rfl, h3, h4, hb3⟩
            exact hK.out _ _ ⟨_, m, ss, _, u, Y, Z0, Z1, _, t15, y22, y23, (hB.call hb3 0 ⟨_, _, _, _, rfl, h3⟩).call (Below.refl _ _) 1 ⟨_, _, _, _, rfl, h4⟩, fun _ => ⟨rfl, rfl, rfl⟩, fun h => hnc (hY h).1, fun h => hnc (hZ0 h).1, fun h => hnc (hZ1 h).1, rfl, rfl⟩
          · obtain rfl := Option.some.inj ho
            have hc0 : cc 0 = true := hdp ⟨5, .data⟩ (Array.mem_of_getElem? (i := 0) rfl) (by decide +kernel)
            go_simp
            exact hK.out _ _ ⟨cc, m, ss, v, u, true, Z0, Z1, t21, .tuple #[v 0, v 1], y22, y23, hB, hC, fun _ => ⟨hc0, rfl⟩, hZ0, hZ1, rfl, by simp only [(hC hc0).2.2]⟩
          · obtain rfl := Option.some.inj ho
            have hy : Y = true := hdp ⟨6, .data⟩ (Array.mem_of_getElem? (i := 0) rfl) (by decide +kernel)
            obtain ⟨hc0, ey⟩ := hY hy
            simp only [ey]
            go_simp
            exact hK.out _ _ ⟨cc, m, ss, v, u, Y, true, Z1, t21, t15, v 0, y23, hB, hC, hY, fun _ => ⟨hc0, rfl⟩, hZ1, rfl, by simp only [ey, (hC hc0).2.2]⟩
          · obtain rfl := Option.some.inj ho
            have hy : Y = true := hdp ⟨6, .data⟩ (Array.mem_of_getElem? (i := 0) rfl) (by decide +kernel)
            obtain ⟨hc0, ey⟩ := hY hy
            simp only [ey]
            go_simp
            exact hK.out _ _ ⟨cc, m, ss, v, u, Y, Z0, true, t21, t15, y22, v 1, hB, hC, hY, hZ0, fun _ => ⟨hc0, rfl⟩, rfl, by simp only [ey, (hC hc0).2.2]⟩
          · obtain rfl := Option.some.inj ho
            go_simp
            exact hK.out _ _ ⟨cc, _, ss, v, _, Y, Z0, Z1, t21, t15, y22, y23, hB.alloc 0 hl, hC, hY, hZ0, hZ1, rfl, rfl⟩
          · obtain rfl := Option.some.inj ho
            go_simp
            exact hK.out _ _ ⟨cc, _, ss, v, _, Y, Z0, Z1, t21, t15, y22, y23, hB.alloc 1 hl, hC, hY, hZ0, hZ1, rfl, rfl⟩
          · obtain rfl := Option.some.inj ho; have hm := hdp ⟨9, .data⟩ (Array.mem_of_getElem? (i := 0) rfl) (by decide +kernel); have hz := hdp ⟨7, .data⟩ (Array.mem_of_getElem? (i := 1) rfl) (by decide +kernel); obtain ⟨hc0, ez⟩ := hZ0 hz; obtain ⟨s9, A9, l9, c9, e1, hz9⟩ := hB.r 0 (hC hc0).1; obtain ⟨g, _, _, _, _, _, e2, hgk, hR9, _⟩ := hB.o 0 hm; have hBs := hB.store 0 hm e2 hz9; simp only [ez, e1, e2]; have r0 := hR9.c0; have r1 := hR9.c1; have r3 := hR9.f0; have r4 := hR9.f1; go_simp; exact hK.out _ _ ⟨_, _, _, _, _, Y, Z0, Z1, t21, t15, y22, y23, hBs, hC, hY, hZ0, hZ1, rfl, by simp only [(hC hc0).2.2, ez, e1, e2]⟩
          · obtain rfl := Option.some.inj ho; have hm := hdp ⟨10, .data⟩ (Array.mem_of_getElem? (i := 0) rfl) (by decide +kernel); have hz := hdp ⟨8, .data⟩ (Array.mem_of_getElem? (i := 1) rfl) (by decide +kernel); obtain ⟨hc0, ez⟩ := hZ1 hz; obtain ⟨s9, A9, l9, c9, e1, hz9⟩ := hB.r 1 (hC hc0).2.1; obtain ⟨g, _, _, _, _, _, e2, hgk, hR9, _⟩ := hB.o 1 hm; have hBs := hB.store 1 hm e2 hz9; simp only [ez, e1, e2]; have r0 := hR9.c0; have r1 := hR9.c1; have r3 := hR9.f0; have r4 := hR9.f1; go_simp; exact hK.out _ _ ⟨_, _, _, _, _, Y, Z0, Z1, t21, t15, y22, y23, hBs, hC, hY, hZ0, hZ1, rfl, by simp only [(hC hc0).2.2, ez, e1, e2]⟩
        · rintro listed act wz ⟨cc, m, ss, v, u, Y, Z0, Z1, t21, t15, y22, y23, hB, hC, hY, hZ0, hZ1, rfl, rfl⟩ hr
          have hall := ready_nil_allM (by kernel_rfl) rfl hr
          have m0 : m 0 = true := hall 9 (by simp)
          have s0 : ss 0 = true := hall 11 (by simp)
          obtain ⟨gx, sx, Ax, lx, cx, zx, ex, kx, RX, fx⟩ := hB.o 0 m0
          replace fx : zx = (f.getD k 0).tdiv c := fx s0
          rw [fx, ← HFv.out k] at RX
          have hWz : Below wr.heap.size wr wz := ((Below.refl _ _).drew).trans hB.b
          simp only [ex]
          have HX := Lib.hid RX
          have HW := Lib.hid hWz
          clear hall m0 s0 fx hB hr hHeld hWz RX hC hY hZ0 hZ1
          go_wp2_with fail
          go_meet
          exact ⟨_, _, _, _, _, rfl, HX.out, HW.out⟩
        · exact ⟨fun _ => false, fun _ => false, fun _ => false, fun i => if i = 0 then u22 else u23, fun i => if i = 0 then u7 else u8, false, false, false, u21, u15, u22, u23, ⟨Below.refl _ _, Nat.le_refl _, fun _ h => (by cases h), fun _ h => (by cases h), fun _ _ _ h => (by cases h), fun _ h => (by cases h)⟩, fun h => (by cases h), fun h => (by cases h), fun h => (by cases h), fun h => (by cases h), rfl, rfl⟩
      case rest =>
        obtain ⟨g, s3, A3, l3, c3, rfl, hX, hw⟩ := hcut
        have x0 := hX.c0
        have x1 := hX.c1
        have Ho3 := Lib.hid (Hown.out.below hw)
        have Hb3 := Lib.hid (Hbw.out.trans (hw.mono hbs))
        have H3 := Lib.hid hX.hz
        clear hX hw HZ1 HZ2 e0 e1 e2 e3
        go_wp2_with (at_builtin; refine wpList_append_z rfl (.tmp 24) (.tmp 26) rfl (w.heap.size + 1) _ ((tab la F).take k) rfl Ho3.out s3 A3 l3 c3 (F k) rfl H3.out (by rw [take_tab_len la F hk]; omega) (by have := Hb3.out.size; rw [HWs.out] at this; exact this) ?_)
        intro v' w4 ho4 hb5
        rw [take_tab la F hlt] at ho4
        have Ho4 := Lib.hid ho4
        have Hb5 := Lib.hid (hb5 _ Hb3.out)
        clear ho4 hb5
        go_wp2
        go_roundw
        case rel => exact ⟨k + 1, by omega, by go_num, Ho4.out, Hb5.out⟩
        case measure => simp [intOf]; omega
    · have hkM : k = la := by omega
      have t1 : ¬ (k : Int) < (la : Int) := by omega
      obtain ⟨A', cap', hv, hzp, hsm⟩ := Hown.out.zp
      rw [hkM, take_tab_all, tab_length] at hv hzp hsm
      subst hv
      have Hzp := Lib.hid hzp
      have Hsm := Lib.hid (show 0 < la → ∃ g, A' = some ⟨g, 0, none⟩ ∧ w.heap.size ≤ g from fun h => by
        obtain ⟨g, hg, hg2⟩ := hsm h
        exact ⟨g, hg, by omega⟩)
      clear hzp hsm hkM hbw
      go_wp2
      go_ret
      exact ⟨_, _, _, rfl, by rw [← Hres.out]; exact Hzp.out, Hsm.out, Hb0.out.trans (Hbw.out.mono (Nat.le_succ _))⟩
theorem zover_any (A : Option Addr) (la ca : Nat) (f : List Int) (s : Int) (B : Option Addr) (lb cb : Nat) (c : Int) (w : World) (hf : ZP w A la ca f) (hc : ZAt w s B lb cb c) (hla : la ≤ 1000) (bf : ZB 400000 f) (bc : lb ≤ 400000) (c0 : c ≠ 0) :
    Calls Tryz.prog 38 #[.slice A la ca, .agg #[.int .i64 s, .slice B lb cb]] w (PRet w (f.map (·.tdiv c)) (0 < la)) :=
  (zover_fr A la ca f s B lb cb c w hf hc hla bf bc c0).mono fun _ _ ⟨A', l', c', h1, h2, h3, h4⟩ => ⟨A', l', c', h1, h2, fun h => (let ⟨g, hg, _⟩ := h3 h; ⟨g, 0, hg⟩), h4⟩

theorem pover_lead_sg {f : List Int} (hf : plen f ≠ 0) : (pover f).getD (plen f - 1) 0 < 0 ↔ plead f < 0 := by
  have h1 := pover_get f (plen f - 1)
  have h2 := pcont_ne hf
  have h3 : (0 : Int) < (pcont f : Int) := by omega
  have h4 : plead f = (pcont f : Int) * (pover f).getD (plen f - 1) 0 := h1
  rw [h4]
  constructor
  · intro h; exact Int.mul_neg_of_pos_of_neg h3 h
  · intro h
    refine Classical.byContradiction fun hn => ?_
    have := Int.mul_nonneg (show (0 : Int) ≤ (pcont f : Int) by omega) (show 0 ≤ (pover f).getD (plen f - 1) 0 by omega)
    omega
theorem plen_zsc {f : List Int} {c : Int} (hc : c ≠ 0) : plen (zsc f c) = plen f := by
  have h1 : plen (zsc f c) ≤ plen f := plen_le_of fun k hk => by rw [zsc_get, getD_ge_plen f k hk, Int.zero_mul]
  have h2 : plen f ≤ plen (zsc f c) := plen_le_of fun k hk => by
    have := getD_ge_plen (zsc f c) k hk
    rw [zsc_get] at this
    exact (Int.mul_eq_zero.1 this).resolve_right hc
  omega
/-- what the reference takes for the primitive part is the primitive part -/
theorem rprim_pos {f : List Int} (tf : ptrim f = f) (hf : plen f ≠ 0) (h : ¬ plead f < 0) : pover f = pprim f := by
  have h0 : plead f ≠ 0 := plead_ne hf
  unfold pprim
  rw [if_neg hf, tf, sg_pos (by omega), Int.one_mul]; rfl
theorem rprim_neg {f : List Int} (tf : ptrim f = f) (hf : plen f ≠ 0) (h : plead f < 0) : zsc (pover f) (-1) = pprim f := by
  refine eq_of_trim (zsc_trim _ _) ?_ fun k => ?_
  · unfold pprim
    rw [if_neg hf, tf]
    have hl : (f.map (·.tdiv (sg (plead f) * (pcont f : Int)))).length = plen f := by
      rw [List.length_map]; have := congrArg List.length tf; rw [ptrim_length] at this; omega
    unfold ptrim
    rw [List.take_of_length_le]
    rw [hl]
    refine Classical.byContradiction fun hn => ?_
    have h1 : (f.map (·.tdiv (sg (plead f) * (pcont f : Int)))).getD (plen f - 1) 0 = 0 := getD_ge_plen _ _ (by omega)
    have h2 : (f.map (·.tdiv (sg (plead f) * (pcont f : Int)))).getD (plen f - 1) 0 = (plead f).tdiv (sg (plead f) * (pcont f : Int)) := by
      rw [List.getD_eq_getElem?_getD, List.getElem?_map]
      unfold plead
      rw [List.getD_eq_getElem?_getD]
      cases f[plen f - 1]? <;> simp
    rw [h2, sg_neg h, Int.neg_mul, Int.one_mul, Int.tdiv_neg] at h1
    have h3 := pover_get f (plen f - 1)
    have h4 : (pover f).getD (plen f - 1) 0 = (plead f).tdiv (pcont f : Int) := by
      unfold pover plead
      rw [List.getD_eq_getElem?_getD, List.getElem?_map, List.getD_eq_getElem?_getD]
      cases f[plen f - 1]? <;> simp
    rw [h4, show (plead f).tdiv (pcont f : Int) = 0 by omega, Int.mul_zero] at h3
    exact plead_ne hf h3
  · rw [zsc_get]
    unfold pprim pover
    rw [if_neg hf, tf, sg_neg h, List.getD_eq_getElem?_getD, List.getD_eq_getElem?_getD, List.getElem?_map, List.getElem?_map]
    cases f[k]? with
    | none => simp
    | some x => simp [Int.neg_mul, Int.tdiv_neg]
set_option maxRecDepth 100000 in
set_option maxHeartbeats 4000000 in
theorem zprim_any (A : Option Addr) (la ca : Nat) (f : List Int) (w : World) (hf : ZP w A la ca f) (tf : ptrim f = f) (hla : la ≤ 1000) (bf : ZB 400000 f) :
    Calls Tryz.prog 55 #[.slice A la ca] w (PRet w (pprim f) False) := by
  have HF := Lib.hid hf
  have Bf := Lib.hid bf
  have hfl := hf.length
  have Tf := Lib.hid tf
  have hpl : plen f = la := by have := congrArg List.length tf; rw [ptrim_length] at this; omega
  clear hf bf
  by_cases h0 : la = 0
  · have hz : pprim f = [] := by unfold pprim; rw [if_pos (by omega)]
    have Hz := Lib.hid hz
    have t1 : ((la : Int) == 0) = true := by rw [h0]; rfl
    clear hz hfl tf hpl
    subst h0
    go_enter Tryz.func55, Tryz.ntmps55
    go_wp2
    go_ret
    exact ⟨_, _, _, rfl, by rw [Hz.out]; exact ZP.nil _ _ _, fun h => h.elim, Below.refl _ _⟩
  · have t1 : ((la : Int) == 0) = false := by rw [beq_eq_false_iff_ne]; omega
    have hne : plen f ≠ 0 := by omega
    have Hne := Lib.hid hne
    have Hc0 := Lib.hid (show ((pcont f : Nat) : Int) ≠ 0 by have := pcont_ne hne; omega)
    have Hcb := Lib.hid (show bln (pcont f) ≤ 400000 by have := pcont_take_bln Bf.out la; rwa [List.take_of_length_le (by omega)] at this)
    have Hsg := Lib.hid (pover_lead_sg hne)
    have Hpl := Lib.hid hpl
    clear hne hfl tf hpl
    go_enter Tryz.func55, Tryz.ntmps55
    go_wp2_with fail
    refine (zcontent_any _ _ _ f _ HF.out hla Bf.out).mono ?_
    rintro e w1 ⟨s1, A1, l1, c1, rfl, h1, hb1⟩
    have L1 : l1 ≤ 400000 := by have := h1.len; rw [Int.natAbs_natCast] at this; have := Hcb.out; omega
    have H1 := Lib.hid h1
    have HF1 := Lib.hid (HF.out.below hb1)
    have Hb1 := Lib.hid hb1
    clear h1 hb1
    go_wp2_with fail
    refine (zover_any _ _ _ f _ _ _ _ ((pcont f : Nat) : Int) _ HF1.out H1.out hla Bf.out L1 Hc0.out).mono ?_
    rintro e w2 ⟨A2, l2, c2, rfl, h2, hs2, hb2⟩
    have H2 := Lib.hid (show ZP w2 A2 l2 c2 (pover f) from h2)
    have hl2 : l2 = la := by have := h2.length; rw [List.length_map] at this; have := HF.out.length; omega
    subst hl2
    have Hb2 := Lib.hid (Hb1.out.trans (hb2.mono Hb1.out.size))
    have Bo := Lib.hid (show ZB 400000 (pover f) from fun k => by
      refine Nat.le_trans (bln_mono ?_) (Bf.out k)
      have h3 := pover_get f k
      rw [h3, Int.natAbs_mul, Int.natAbs_natCast]
      exact Nat.le_mul_of_pos_left _ (by have := Hc0.out; omega))
    clear h2 hs2 hb2 Hb1 H1 HF1
    go_wp2_with fail
    refine (zlead_any _ _ _ (pover f) _ H2.out hla (by omega)).mono ?_
    rintro e w3 ⟨s3, A3, l3, c3, rfl, h3, hb3⟩
    have hsg := h3.sign
    have H2b := Lib.hid (H2.out.below hb3)
    have Hb3 := Lib.hid (Hb2.out.trans (hb3.mono Hb2.out.size))
    rw [← Hpl.out] at hsg
    have hfd : ∀ w : World, (Instr.field 50 (.agg #[.int .i64 s3, .slice A3 l3 c3]) 0).run Tryz.prog w = .ok (.int .i64 s3) w := fun _ => by kernel_rfl
    clear h3 hb3 H2 Hb2
    by_cases hn : plead f < 0
    · have hs : s3 = -1 := by rw [hsg]; exact sg_neg (Hsg.out.2 hn)
      have Hres := Lib.hid (rprim_neg Tf.out Hne.out hn)
      subst hs
      clear hsg hn
      go_wp2_with fail
      refine (zneg_any _ _ _ (pover f) _ H2b.out hla Bo.out).mono ?_
      rintro e w4 ⟨A4, l4, c4, rfl, h4, hs4, hb4⟩
      have H4 := Lib.hid h4
      have Hb4 := Lib.hid (Hb3.out.trans (hb4.mono Hb3.out.size))
      clear h4 hs4 hb4
      go_wp2
      go_ret
      exact ⟨_, _, _, rfl, by rw [← Hres.out]; exact H4.out, fun h => h.elim, Hb4.out⟩
    · have hs : ¬ s3 < 0 := by
        rw [hsg]
        rcases sg_cases ((pover f).getD (plen f - 1) 0) with ⟨h1, e⟩ | ⟨h1, e⟩ | ⟨h1, e⟩
        · exact absurd (Hsg.out.1 h1) hn
        · omega
        · omega
      have Hres := Lib.hid (rprim_pos Tf.out Hne.out hn)
      clear hsg hn
      go_wp2
      go_ret
      exact ⟨_, _, _, rfl, by rw [← Hres.out]; exact H2b.out, fun h => h.elim, Hb3.out⟩
end Go.Proofs.YtgblfpkfapmlnaaGreat
