/- The walks of cylinderref03.Abs and Gcd. -/
import Derived.Test.YtgblfpkfapmlnaaGreatBuc
import Derived.Deep.LoopGhost
namespace Go.Proofs.YtgblfpkfapmlnaaGreat
open Go Go.RowKit


set_option maxRecDepth 100000 in
set_option maxHeartbeats 1000000 in
theorem zabs_any (p : Int) (A : Option Addr) (la ca : Nat) (a : Int) (w : World) (ha : ZAt w p A la ca a) (hm : la ≤ 1000000) :
    Calls Tryz.prog 84 #[.agg #[.int .i64 p, .slice A la ca]] w (ZRet w (a.natAbs : Int)) := by
  have hb0 : Below w.heap.size w ((w.alloc (zbox p A la ca)).alloc (zbox 0 none 0 0)) := below_two w _ _ (Nat.le_refl _)
  have HA := Lib.hid (ha.bits.below hb0)
  have HT := Lib.hid (ha.typ.below hb0)
  have Hb0 := Lib.hid hb0
  clear ha hb0
  go_enter Tryz.func84, Tryz.ntmps84
  go_wp2_with fail
  refine (zmake_any false _ _ _ a.natAbs _ HA.out HT.out (by omega)).mono ?_
  rintro e w2 ⟨s2, A2, l2, c2, rfl, h2, hb2⟩
  rw [sgn_false] at h2
  obtain ⟨hc, hf⟩ := bcell hb2
  have hsz := hb2.size
  simp only [World.size_alloc] at hsz
  have H2 := Lib.hid h2
  have Hb2 := Lib.hid hb2
  have Hc := Lib.hid hc
  clear h2 hb2
  go_wp2
  refine bodyPost_ret (v := .agg #[.int .i64 s2, .slice A2 l2 c2]) (by simp [results, Tryz.results84, go_sem, hc]) rfl ⟨_, _, _, _, rfl, H2.out.ret _ _ (A0 := none) (l0 := 0) (c0 := 0) ?_ ?_, ?_⟩
  · rw [Hc.out _ _ (by simp)]; go_simp
  · rw [Hc.out _ _ (by simp)]; go_simp
  · exact ((Hb0.out.trans (Hb2.out.mono Hb0.out.size)).setCell (by first | (simp; done) | (simp; omega) | omega) _).setCell (by first | (simp; done) | (simp; omega) | omega) _

set_option maxRecDepth 100000 in
set_option maxHeartbeats 4000000 in
theorem zgcd_any (p : Int) (A : Option Addr) (la ca : Nat) (a : Int) (q : Int) (B : Option Addr) (lb cb : Nat) (b : Int) (w : World) (ha : ZAt w p A la ca a) (hb : ZAt w q B lb cb b) (hma : la ≤ 800000) (hmb : lb ≤ 800000) :
    Calls Tryz.prog 53 #[.agg #[.int .i64 p, .slice A la ca], .agg #[.int .i64 q, .slice B lb cb]] w (ZRet w (Nat.gcd a.natAbs b.natAbs : Nat)) := by
  have hb0 : Below w.heap.size w (((w.alloc (zbox p A la ca)).alloc (zbox q B lb cb)).alloc (zbox 0 none 0 0)) := below_three w _ _ _ (Nat.le_refl _)
  have HA := Lib.hid (ha.below hb0)
  have HB := Lib.hid (hb.below hb0)
  have hR := ZBox.nil ((w.alloc (zbox p A la ca)).alloc (zbox q B lb cb))
  simp only [World.size_alloc] at hR
  have HR := Lib.hid hR
  have Hb0 := Lib.hid hb0
  obtain ⟨G, hG⟩ : ∃ G, G = Nat.gcd a.natAbs b.natAbs := ⟨_, rfl⟩
  rw [← hG]
  have HG := Lib.hid hG
  have Hla := Lib.hid ha.len
  have Hlb := Lib.hid hb.len
  clear ha hb hb0 hG hR
  go_enter Tryz.func53, Tryz.ntmps53
  go_wp2_with fail
  obtain ⟨W, hW⟩ : ∃ W, W = (((w.alloc (zbox p A la ca)).alloc (zbox q B lb cb)).alloc (zbox 0 none 0 0)) := ⟨_, rfl⟩
  have W0 : W.heap.size = w.heap.size + 1 + 1 + 1 := by rw [hW]; simp
  have a0 : W.cell? ⟨w.heap.size, 0, none⟩ = some (.int .i64 p) := by rw [hW]; go_simp
  have a1 : W.cell? ⟨w.heap.size, 1, none⟩ = some (.slice A la ca) := by rw [hW]; go_simp
  have b0 : W.cell? ⟨w.heap.size + 1, 0, none⟩ = some (.int .i64 q) := by rw [hW]; go_simp
  have b1 : W.cell? ⟨w.heap.size + 1, 1, none⟩ = some (.slice B lb cb) := by rw [hW]; go_simp
  rw [← hW] at HA HB HR Hb0 ⊢
  clear hW
  refine wp_region_held_drew (S := fun w' => (w'.cell? ⟨w.heap.size, 0, none⟩ = some (.int .i64 p) ∧ w'.cell? ⟨w.heap.size, 1, none⟩ = some (.slice A la ca)) ∧ w'.cell? ⟨w.heap.size + 1, 0, none⟩ = some (.int .i64 q) ∧ w'.cell? ⟨w.heap.size + 1, 1, none⟩ = some (.slice B lb cb)) (by kernel_rfl) (by (try dsimp only); go_keep) (fun hHeld => ?_)
  (refine take_at (i := 0) (oi := _) (v := ?_) rfl rfl (by kernel_rfl) (by kernel_rfl) (by kernel_rfl) (fun _ _ _ h => h) (Or.inl ⟨by rfl, ?_⟩) (by assumption) ?_; rotate_left; (focus (intro w hSw; (try dsimp only at hSw); go_simp; (try with_reducible rfl))); (simp only [put_lit, List.set]))
  (refine take_at (i := 2) (oi := _) (v := ?_) rfl rfl (by kernel_rfl) (by kernel_rfl) (by kernel_rfl) (fun _ _ _ h => h) (Or.inl ⟨by rfl, ?_⟩) (by assumption) ?_; rotate_left; (focus (intro w hSw; (try dsimp only at hSw); go_simp; (try with_reducible rfl))); (simp only [put_lit, List.set]))
  obtain ⟨k9, hk9⟩ : ∃ k9, k9 = w.heap.size + 1 + 1 + 1 := ⟨_, rfl⟩
  refine wpAnyH_inv (Inv := fun listed act w' => ∃ (c m s : Nat → Bool) (v u : Nat → Value), BZ (fun i => if i = 0 then (a.natAbs : Int) else (b.natAbs : Int)) k9 W.drew w' c m s v u ∧ listed = #[true, c 0, true, c 1, m 0, m 1, s 0, s 1] ∧ act = ⟨#[.agg #[.int .i64 p, .slice A la ca], .agg #[.int .i64 q, .slice B lb cb], .pointer (some ⟨w.heap.size, 0, none⟩), .pointer (some ⟨w.heap.size + 1, 0, none⟩), .pointer (some ⟨w.heap.size + 1 + 1, 0, none⟩), u 0, u 1, undef, undef, .agg #[.int .i64 p, .slice A la ca], v 0, .agg #[.int .i64 q, .slice B lb cb], v 1, undef, undef, undef, undef, undef, undef, undef, undef, undef, undef, undef, undef], []⟩) ?_ ?_ ?_ 6 _ _ _ (by decide +kernel) ?_
  · rintro listed act w' ⟨c, m, s, v, u, hB, rfl, rfl⟩
    exact ⟨⟨(hB.b.cell (p := ⟨_, _, none⟩) (by rw [hk9]; (first | (simp; done) | (simp; omega) | omega))).trans hHeld.1.1, (hB.b.cell (p := ⟨_, _, none⟩) (by rw [hk9]; (first | (simp; done) | (simp; omega) | omega))).trans hHeld.1.2⟩, (hB.b.cell (p := ⟨_, _, none⟩) (by rw [hk9]; (first | (simp; done) | (simp; omega) | omega))).trans hHeld.2.1, (hB.b.cell (p := ⟨_, _, none⟩) (by rw [hk9]; (first | (simp; done) | (simp; omega) | omega))).trans hHeld.2.2⟩
  · rintro listed act w' i o ⟨c, m, s, v, u, hB, rfl, rfl⟩ ho hl hd K hK
    have hi : i < 8 := (Array.getElem?_eq_some_iff.1 ho).1
    have hi' : i = 0 ∨ i = 1 ∨ i = 2 ∨ i = 3 ∨ i = 4 ∨ i = 5 ∨ i = 6 ∨ i = 7 := by omega
    have hW : Below W.heap.size W w' := ((Below.refl _ _).drew).trans (hB.b.mono (by rw [hk9, W0]; exact Nat.le_refl _))
    rcases hi' with rfl | rfl | rfl | rfl | rfl | rfl | rfl | rfl
    · cases hl
    · obtain rfl := Option.some.inj ho
      go_simp
      refine (zabs_any _ _ _ _ a _ (HA.out.below hW) (by omega)).mono ?_
      rintro e w3 ⟨s3, A3, l3, c3, rfl, h3, hb3⟩
      exact hK.out _ _ ⟨_, _, _, _, _, hB.call hb3 0 ⟨_, _, _, _, rfl, h3⟩, rfl, rfl⟩
    · cases hl
    · obtain rfl := Option.some.inj ho
      go_simp
      refine (zabs_any _ _ _ _ b _ (HB.out.below hW) (by omega)).mono ?_
      rintro e w3 ⟨s3, A3, l3, c3, rfl, h3, hb3⟩
      exact hK.out _ _ ⟨_, _, _, _, _, hB.call hb3 1 ⟨_, _, _, _, rfl, h3⟩, rfl, rfl⟩
    · obtain rfl := Option.some.inj ho
      go_simp
      exact hK.out _ _ ⟨_, _, _, _, _, hB.alloc 0 hl, rfl, rfl⟩
    · obtain rfl := Option.some.inj ho
      go_simp
      exact hK.out _ _ ⟨_, _, _, _, _, hB.alloc 1 hl, rfl, rfl⟩
    · obtain rfl := Option.some.inj ho; have hm := hd ⟨4, .data⟩ (Array.mem_of_getElem? (i := 0) rfl) (by decide +kernel); have hc := hd ⟨1, .data⟩ (Array.mem_of_getElem? (i := 1) rfl) (by decide +kernel); obtain ⟨s9, A9, l9, c9, e1, hz9⟩ := hB.r 0 hc; obtain ⟨g, _, _, _, _, _, e2, hgk, hR9, _⟩ := hB.o 0 hm; have hBs := hB.store 0 hm e2 hz9; simp only [e1, e2]; have r0 := hR9.c0; have r1 := hR9.c1; have r3 := hR9.f0; have r4 := hR9.f1; go_simp; exact hK.out _ _ ⟨_, _, _, _, _, hBs, rfl, by simp only [e1, e2]⟩
    · obtain rfl := Option.some.inj ho; have hm := hd ⟨5, .data⟩ (Array.mem_of_getElem? (i := 0) rfl) (by decide +kernel); have hc := hd ⟨3, .data⟩ (Array.mem_of_getElem? (i := 1) rfl) (by decide +kernel); obtain ⟨s9, A9, l9, c9, e1, hz9⟩ := hB.r 1 hc; obtain ⟨g, _, _, _, _, _, e2, hgk, hR9, _⟩ := hB.o 1 hm; have hBs := hB.store 1 hm e2 hz9; simp only [e1, e2]; have r0 := hR9.c0; have r1 := hR9.c1; have r3 := hR9.f0; have r4 := hR9.f1; go_simp; exact hK.out _ _ ⟨_, _, _, _, _, hBs, rfl, by simp only [e1, e2]⟩
  · rintro listed act wz ⟨c, m, s, v, u, hB, rfl, rfl⟩ hr
    have hall := ready_nil_all (by kernel_rfl) rfl hr
    have m0 : m 0 = true := hall 4 (by simp)
    have m1 : m 1 = true := hall 5 (by simp)
    have s0 : s 0 = true := hall 6 (by simp)
    have s1 : s 1 = true := hall 7 (by simp)
    obtain ⟨gx, sx, Ax, lx, cx, zx, ex, kx, RX, fx⟩ := hB.o 0 m0
    obtain ⟨gy, sy, Ay, ly, cy, zy, ey, ky, RY, fy⟩ := hB.o 1 m1
    replace fx : zx = (a.natAbs : Int) := fx s0
    replace fy : zy = (b.natAbs : Int) := fy s1
    rw [fx] at RX
    rw [fy] at RY
    have hxy : gx ≠ gy := fun e => hB.d 0 1 (by decide) m0 m1 (by rw [ex, ey, e])
    have hWz : Below W.heap.size W wz := ((Below.refl _ _).drew).trans (hB.b.mono (by rw [hk9, W0]; exact Nat.le_refl _))
    simp only [ex, ey]
    generalize v 0 = y0
    generalize v 1 = y1
    rw [hk9] at kx ky
    have hR2 := HR.out.move hWz
    have hbz := Hb0.out.trans (hWz.mono Hb0.out.size)
    have HR2 := Lib.hid hR2
    have Hbz := Lib.hid hbz
    have HX := Lib.hid RX
    have HY := Lib.hid RY
    clear hall m0 m1 s0 s1 fx fy ex ey hB hr hHeld hWz hR2 hbz RX RY hk9 c m s v u a0 a1 b0 b1 HA HB HR Hb0 W0
    have La : bln a.natAbs ≤ 800000 := by have := Hla.out; omega
    have Lb : bln b.natAbs ≤ 800000 := by have := Hlb.out; omega
    clear Hla Hlb
    go_wp2_with fail
    go_loopg [7, 8] b.natAbs (fun k s7 s8 wr => ∃ sx Ax lx cx M sy Ay ly cy, ZBox wr gx sx Ax lx cx ((M : Nat) : Int) ∧ ZBox wr gy sy Ay ly cy ((k : Nat) : Int) ∧ Nat.gcd M k = G ∧ bln M ≤ 800000 ∧ bln k ≤ 800000 ∧ ZBox wr (w.heap.size + 1 + 1) 0 none 0 0 0 ∧ Below w.heap.size w wr)
    case atStart => exact ⟨sx, Ax, lx, cx, a.natAbs, sy, Ay, ly, cy, HX.out, HY.out, HG.out.symm, La, Lb, HR2.out, Hbz.out⟩
    case round =>
      clear HX HY HR2 Hbz HG La Lb
      obtain ⟨sx, Ax, lx, cx, M, sy, Ay, ly, cy, hX, hY, hg, hM, hk, hR, hbw⟩ := hrel
      have HX := Lib.hid hX
      have HY := Lib.hid hY
      have HR := Lib.hid hR
      have Hbw := Lib.hid hbw
      have Hg := Lib.hid hg
      have x0 := hX.c0
      have x1 := hX.c1
      have y0' := hY.c0
      have y1' := hY.c1
      have hsy := hY.hz.sign
      have hws := hbw.size
      clear hX hY hR hbw hg
      by_cases h0 : gk = 0
      · subst h0
        have hs0 : sy = 0 := by rw [hsy]; rfl
        subst hs0
        have hMG : (M : Int) = (G : Int) := by rw [← Hg.out, Nat.gcd_zero_right]
        have d0 := HR.out.c0
        have d1 := HR.out.c1
        have d2 := HR.out.f0
        have d3 := HR.out.f1
        clear hsy Hg
        go_wp2
        refine bodyPost_ret (v := .agg #[.int .i64 sx, .slice Ax lx cx]) (by simp [results, Tryz.results53, go_sem, d0, d1]) rfl ⟨_, _, _, _, rfl, by rw [← hMG]; exact HX.out.hz.put HR.out _ _, (Hbw.out.setCell (p := ⟨w.heap.size + 1 + 1, 0, none⟩) (by first | (simp; done) | (simp; omega) | omega) _).setCell (p := ⟨w.heap.size + 1 + 1, 1, none⟩) (by first | (simp; done) | (simp; omega) | omega) _⟩
      · have hsn : (sy == 0) = false := by
          rw [beq_eq_false_iff_ne, hsy, sg_pos (by omega)]; decide
        have hsn2 : (sy != 0) = true := by
          rw [bne_iff_ne, hsy, sg_pos (by omega)]; decide
        have hk0 : ((gk : Nat) : Int) ≠ 0 := by omega
        have Hr2 := Lib.hid (show (M : Int).tmod (gk : Int) = ((M % gk : Nat) : Int) from rfl)
        have Hg2 := Lib.hid (show Nat.gcd gk (M % gk) = G by rw [← Hg.out, Nat.gcd_comm M gk, Nat.gcd_rec gk M, Nat.gcd_comm])
        have Hm := Lib.hid (show bln (M % gk) ≤ 800000 from Nat.le_trans (bln_mono (Nat.mod_le _ _)) hM)
        have Hlt := Lib.hid (show M % gk < gk from Nat.mod_lt _ (by omega))
        have hlx : lx ≤ 800000 := by have := HX.out.hz.len; rw [Int.natAbs_natCast] at this; omega
        have hly : ly ≤ 800000 := by have := HY.out.hz.len; rw [Int.natAbs_natCast] at this; omega
        clear hsy h0 Hg
        go_wp2_with fail
        refine (zquo_any _ _ _ _ (M : Int) _ _ _ _ (gk : Int) _ HX.out.hz HY.out.hz hlx hly hk0).mono ?_
        rintro e w1 ⟨s1, A1, l1, c1, s2, A2, l2, c2, rfl, h1, h2, hb1⟩
        rw [Hr2.out] at h2
        have HX1 := Lib.hid (HX.out.move hb1)
        have HY1 := Lib.hid (HY.out.move hb1)
        have HR1 := Lib.hid (HR.out.move hb1)
        have Hb1 := Lib.hid (Hbw.out.trans (hb1.mono hws))
        have hs1 := hb1.size
        have H2 := Lib.hid h2
        have x0 := HX1.out.c0
        have x1 := HX1.out.c1
        have x2 := HX1.out.f0
        have x3 := HX1.out.f1
        have z0 := HY1.out.c0
        have z1 := HY1.out.c1
        have z2 := HY1.out.f0
        have z3 := HY1.out.f1
        have lx1 := HX1.out.lt
        have ly1 := HY1.out.lt
        have nxy : gy ≠ gx := fun e => hxy e.symm
        clear h1 h2 hb1 HX HY HR Hbw hlx hly y0' y1'
        go_wp2
        have rx : w.heap.size + 1 + 1 ≠ gx := by omega
        have ry : w.heap.size + 1 + 1 ≠ gy := by omega
        have X2 := HX1.out.put HY1.out.hz
        have Y2 := HY1.out.far HX1.out nxy (.int .i64 sy) (.slice Ay ly cy)
        have R2 := HR1.out.far HX1.out rx (.int .i64 sy) (.slice Ay ly cy)
        have H2b := H2.out.put HX1.out (.int .i64 sy) (.slice Ay ly cy)
        have B2 := (Hb1.out.setCell (p := ⟨gx, 0, none⟩) (by show _ ≤ gx; omega) (.int .i64 sy)).setCell (p := ⟨gx, 1, none⟩) (by show _ ≤ gx; omega) (.slice Ay ly cy)
        have X3 := X2.far Y2 hxy (.int .i64 s2) (.slice A2 l2 c2)
        have Y3 := Y2.put H2b
        have R3 := R2.far Y2 ry (.int .i64 s2) (.slice A2 l2 c2)
        have B3 := (B2.setCell (p := ⟨gy, 0, none⟩) (by show _ ≤ gy; omega) (.int .i64 s2)).setCell (p := ⟨gy, 1, none⟩) (by show _ ≤ gy; omega) (.slice A2 l2 c2)
        clear X2 Y2 R2 H2b B2
        have hz3 := B3.size
        go_roundg (M % gk)
        case measure => exact Hlt.out
        case rel => exact ⟨_, _, _, _, gk, _, _, _, _, X3.move (by (repeat (first | exact Below.refl _ _ | refine Below.drew ?_ | refine Below.alloc ?_ (by first | (simp; done) | (simp; omega) | omega) _ | refine Below.setCell ?_ (by first | (simp; done) | (simp; omega) | omega) _))), Y3.move (by (repeat (first | exact Below.refl _ _ | refine Below.drew ?_ | refine Below.alloc ?_ (by first | (simp; done) | (simp; omega) | omega) _ | refine Below.setCell ?_ (by first | (simp; done) | (simp; omega) | omega) _))), Hg2.out, hk, Hm.out, R3.move (by (repeat (first | exact Below.refl _ _ | refine Below.drew ?_ | refine Below.alloc ?_ (by first | (simp; done) | (simp; omega) | omega) _ | refine Below.setCell ?_ (by first | (simp; done) | (simp; omega) | omega) _))), (B3.alloc hz3 _).alloc (by simp; simp at hz3; omega) _⟩
  · exact ⟨fun _ => false, fun _ => false, fun _ => false, fun _ => undef, fun _ => undef, ⟨Below.refl _ _, by rw [hk9]; show _ ≤ W.heap.size; omega, fun _ h => (by cases h), fun _ h => (by cases h), fun _ _ _ h => (by cases h), fun _ h => (by cases h)⟩, rfl, rfl⟩
end Go.Proofs.YtgblfpkfapmlnaaGreat
