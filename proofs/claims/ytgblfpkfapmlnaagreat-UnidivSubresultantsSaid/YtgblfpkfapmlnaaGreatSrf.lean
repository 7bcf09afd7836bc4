/- The walk of cylinderref09.Subresultants. -/
import Derived.Test.YtgblfpkfapmlnaaGreatSsq
import Derived.Test.YtgblfpkfapmlnaaGreatSrl
import Derived.Test.YtgblfpkfapmlnaaGreatSpw
import Derived.Test.YtgblfpkfapmlnaaGreatZov
import Derived.Test.YtgblfpkfapmlnaaGreatBtm
import Derived.BigQuiet
namespace Go.Proofs.YtgblfpkfapmlnaaGreat
open Go Go.RowKit

theorem neg1pow : ∀ d : Nat, d < 7 → (-1 : Int) ^ (d + 1) = if d % 2 = 0 then -1 else 1 := by decide
/-- what holds at the head of the loop -/
structure SrI (f g : List Int) (base gp : Nat) (w wr : World) (i dd kk : Nat) (v : Value) (ps : List (List Int)) (t : RS) (psi : Int) (s : Int) (A : Option Addr) (l c : Nat) : Prop where
  own : OwnP wr base gp v ps
  box : ZBox wr gp s A l c psi
  bel : Below base w wr
  st : QSt t
  len : ps.length = i + 1
  a : ps.getD (i - 1) [] = t.a
  b : ps.getD i [] = t.b
  seq : rseq 20 f g = ps ++ rsq kk t
  kk : t.b.length ≤ kk
  i1 : 1 ≤ i
  i8 : i + t.b.length ≤ 8
  psi : PsiAt i dd psi t
  dd : dd ≤ 6

set_option maxRecDepth 100000 in
set_option maxHeartbeats 8000000 in
theorem zsr_any (A : Option Addr) (la ca : Nat) (f : List Int) (B : Option Addr) (lb cb : Nat) (g : List Int) (w : World) (hf : ZP w A la ca (ptrim f)) (hg : ZP w B lb cb (ptrim g)) (f7 : Few7 f) (g7 : Few7 g) (g0 : plen g ≠ 0) (hfg : plen g ≤ plen f) :
    Calls Tryz.prog 10 #[.slice A la ca, .slice B lb cb] w fun e w' => ∃ v gp, e = .returned v ∧ OwnP w' w.heap.size gp v (rseq 20 f g) ∧ Below w.heap.size w w' := by
  have hla : la = plen f := by rw [← hf.length, ptrim_length]
  have hlb : lb = plen g := by rw [← hg.length, ptrim_length]
  subst hla
  subst hlb
  have hba : Below w.heap.size w (w.alloc (.cells #[.slice A (plen f) ca, .slice B (plen g) cb] 27)) := (Below.refl _ _).alloc (Nat.le_refl _) _
  have hk0 : Blk (w.alloc (.cells #[.slice A (plen f) ca, .slice B (plen g) cb] 27)) w.heap.size 27 #[.slice A (plen f) ca, .slice B (plen g) cb] := Blk.new _ _ _
  have HS := Lib.hid (QSt.start f7 g7 g0 hfg)
  have HF := Lib.hid hf
  have HG := Lib.hid hg
  have Hba := Lib.hid hba
  have Hk0 := Lib.hid hk0
  have L7 := f7.1
  have M7 := g7.1
  clear hf hg hba hk0 f7 g7
  go_enter Tryz.func10, Tryz.ntmps10
  go_wp2_with fail
  refine (zsmall_any (-1) _ (by decide)).mono ?_
  rintro e w2 ⟨s2, A2, l2, c2, rfl, h2, hb2⟩
  have hs2 := hb2.size
  simp only [World.size_alloc] at hs2
  obtain ⟨W3, hW3⟩ : ∃ W3, W3 = w2.alloc (zbox s2 A2 l2 c2) := ⟨_, rfl⟩
  obtain ⟨gp, hgp⟩ : ∃ gp, gp = w2.heap.size := ⟨_, rfl⟩
  have hb3 : Below w2.heap.size w2 W3 := by rw [hW3]; exact (Below.refl _ _).alloc (Nat.le_refl _) _
  have HB := Lib.hid (show ZBox W3 gp s2 A2 l2 c2 (-1) by rw [hW3, hgp]; exact ZBox.make h2)
  have HO := Lib.hid (show OwnP W3 w.heap.size gp (.slice (some ⟨w.heap.size, 0, none⟩) 2 2) [ptrim f, ptrim g] from by
    have hm : ∀ {A : Option Addr} {l c : Nat} {p : List Int}, ZP w A l c p → ZP W3 A l c p ∧ ZNe A l gp := fun {A l c p} h => by
      refine ⟨((h.below Hba.out).below hb2).below hb3, fun b off hl hA => ?_⟩
      rcases h.elems with h0 | ⟨b2, off2, hA2, hlt, _⟩
      · omega
      · rw [hA] at hA2; cases hA2; omega
    refine ⟨w.heap.size, #[.slice A (plen f) ca, .slice B (plen g) cb], rfl, Nat.le_refl _, (Hk0.out.below hb2 Hk0.out.lt).below hb3 (by omega), by simp, fun j hj => ?_, fun j hj => ?_⟩
    · match j, hj with
      | 0, _ => exact ⟨_, _, _, rfl⟩
      | 1, _ => exact ⟨_, _, _, rfl⟩
    · match j, hj with
      | 0, _ => exact ⟨_, _, _, rfl, hm HF.out⟩
      | 1, _ => exact ⟨_, _, _, rfl, hm HG.out⟩)
  have HW := Lib.hid (show Below w.heap.size w W3 from (Hba.out.trans (hb2.mono (by simp))).trans (hb3.mono (by omega)))
  have hgpw : w.heap.size + 1 ≤ gp := by omega
  go_wp2
  rw [← hW3, ← hgp]
  clear h2 hb2 hb3 hW3 hgp HF HG Hba Hk0
  go_loopw [5, 7, 8] (fun s5 s7 s8 wr => ∃ (i dd kk : Nat) (ps : List (List Int)) (t : RS) (psi : Int) (s : Int) (A : Option Addr) (l c : Nat), s7 = .int .i64 (dd : Int) ∧ s8 = .int .i64 (i : Int) ∧ SrI f g w.heap.size gp w wr i dd kk s5 ps t psi s A l c) (fun _ _ s8 _ => 20 - (intOf s8).toNat)
  case atStart =>
    refine ⟨1, 0, 20, _, ⟨ptrim f, ptrim g, -1, (-1) ^ (plen f - plen g + 1)⟩, -1, _, _, _, _, rfl, rfl, ⟨HO.out, HB.out, HW.out, HS.out, rfl, rfl, rfl, rfl, ?_, Nat.le_refl _, ?_, .inl ⟨rfl, rfl, rfl, ?_⟩, by omega⟩⟩
    · dsimp only; rw [ptrim_length]; omega
    · dsimp only; rw [ptrim_length]; omega
    · show (-1 : Int) ^ (plen f - plen g + 1) = (-1) ^ ((ptrim f).length - (ptrim g).length + 1)
      rw [ptrim_length, ptrim_length]
  case round =>
    clear HO HB HW HS
    obtain ⟨i, dd, kk, ps, t, psi, s, A0, l0, c0, rfl, rfl, hI⟩ := hrel
    have HI := Lib.hid hI
    have hq := hI.st.facts
    have HQ := Lib.hid hq
    have hi1 := hI.i1
    have hi8 := hI.i8
    obtain ⟨j, rfl⟩ : ∃ j, i = j + 1 := ⟨i - 1, by omega⟩
    obtain ⟨gl, cap, rfl, hcap, hgl, hels⟩ := hI.own.at_
    have hlen := hI.len
    obtain ⟨Aa, xa, ya, e0, hza⟩ := hels j (by omega)
    obtain ⟨Ab, xb, yb, e1, hzb⟩ := hels (j + 1) (by omega)
    have hta := hI.a
    rw [Nat.add_sub_cancel] at hta
    rw [hta] at hza
    rw [hI.b] at hzb
    have lxa := hza.length
    have lxb := hzb.length
    have la7 := hq.la
    have lba := hq.lb
    have lb1 := hq.b1
    have hdd := hI.dd
    obtain ⟨d, hd⟩ : ∃ d, d = xa - xb := ⟨_, rfl⟩
    have i1 : ((j + 1 : Nat) : Int) - 1 = (j : Int) := by omega
    have i2 : IntKind.i64.wrap (j : Int) = (j : Int) := IntWalk.i64_in _ (by omega)
    have i3 : (xa : Int) - (xb : Int) = (d : Int) := by omega
    have i4 : IntKind.i64.wrap (d : Int) = (d : Int) := IntWalk.i64_in _ (by omega)
    have HA := Lib.hid hza
    have HB := Lib.hid hzb
    have hd6 : d ≤ 6 := by omega
    have Hd := Lib.hid hd
    have Hlen := Lib.hid hlen
    have HT := Lib.hid (And.intro hta hI.b)
    have hpl : j + 1 < ps.length ∧ j < ps.length ∧ ps.length ≤ 9 := by omega
    obtain ⟨n, hn⟩ : ∃ n, n = ps.length := ⟨_, rfl⟩
    rw [← hn] at hcap hpl ⊢
    have Hn := Lib.hid hn
    obtain ⟨m, hm⟩ : ∃ m, m = j + 1 := ⟨_, rfl⟩
    rw [← hm] at e1 i1 hpl ⊢
    have Hm := Lib.hid hm
    have hpl1 := hpl.1
    have hpl2 := hpl.2.1
    have hn9 := hpl.2.2
    have Hlx := Lib.hid (And.intro lxa lxb)
    have hxa : xa ≤ 7 := by omega
    have hxb : 1 ≤ xb := by omega
    have hxx : xb ≤ xa := by omega
    clear hI hq hels hza hzb hlen hta hd hn hm hi8 hi1 lxa lxb hpl
    go_wp2_with fail
    go_quiet (fail)
    go_wp2_with fail
    refine (zsmall_any 1 _ (by decide)).mono ?_
    rintro e w4 ⟨s4, A4, l4, c4, rfl, h4, hb4⟩
    have hb5 : Below wr.heap.size wr w4 := (below_drewN (Below.refl _ _) nq).trans hb4
    obtain ⟨W5, hW5⟩ : ∃ W5, W5 = w4.alloc (zbox s4 A4 l4 c4) := ⟨_, rfl⟩
    obtain ⟨gb, hgb⟩ : ∃ gb, gb = w4.heap.size := ⟨_, rfl⟩
    have hb6 : Below gb w4 W5 := by rw [hW5, hgb]; exact (Below.refl _ _).alloc (Nat.le_refl _) _
    have hb7 : Below wr.heap.size wr W5 := hb5.trans (hb6.mono (by rw [hgb]; exact hb5.size))
    have hx4 := HI.out.box.move hb5
    have hgpb : gp < gb := by rw [hgb]; exact hx4.lt
    have HBb := Lib.hid (show ZBox W5 gb s4 A4 l4 c4 1 by rw [hW5, hgb]; exact ZBox.make h4)
    have HL := Lib.hid (show ∀ wx, Below gb w4 wx → OwnP wx w.heap.size gp (.slice (some ⟨gl, 0, none⟩) n cap) ps ∧ ZBox wx gp s A0 l0 c0 psi ∧ Below w.heap.size w wx ∧ ZP wx Aa xa ya t.a ∧ OwnP wx w.heap.size gb (.slice (some ⟨gl, 0, none⟩) n cap) ps from fun wx hx => by
      have ho4 := (HI.out.own.below hb5).new (g' := gb) (by omega)
      rw [hgb] at hx ho4 ⊢
      have h7 := hb5.trans (hx.mono hb5.size)
      rw [Hn.out]
      exact ⟨HI.out.own.below h7, HI.out.box.move h7, HI.out.bel.trans (h7.mono HI.out.bel.size), HA.out.below h7, ho4.below hx⟩)
    have HB6 := Lib.hid hb6
    have e0 := (hb7.cell (p := ⟨gl, j, none⟩) hgl).trans e0
    have hgl5 := Nat.lt_of_lt_of_le hgl hb7.size
    have hgbs := HBb.out.lt
    have hwb : w.heap.size ≤ gb := by have := HI.out.bel.size; have := hb5.size; omega
    have HQ2 := Lib.hid HI.out.psi
    go_upto_if 36 with (fail)
    rw [← hW5, ← hgb]
    clear hx4 h4 hb4 hb5 hb6 hb7 hW5 hgb HB e1
    go_cut [] (fun wx => ∃ s5 A5 l5 c5 s6 A6 l6 c6, ZBox wx gb s5 A5 l5 c5 t.dv ∧ ZBox wx gp s6 A6 l6 c6 t.s ∧ OwnP wx w.heap.size gp (.slice (some ⟨gl, 0, none⟩) n cap) ps ∧ Below w.heap.size w wx)
    case first =>
      clear HI
      have p0 := HBb.out.c0
      have p1 := HBb.out.c1
      have p2 := HBb.out.f0
      have p3 := HBb.out.f1
      by_cases hj : j = 0
      · have t1 : ((m : Int) == 1) = true := by rw [beq_iff_eq]; have := Hm.out; omega
        obtain ⟨hs1, hdv⟩ : psi = t.s ∧ t.dv = (-1) ^ (d + 1) := by
          rcases HQ2.out with ⟨_, h1, _, h2⟩ | ⟨h1, _⟩
          · refine ⟨h1, ?_⟩
            rw [h2, Hd.out]
            unfold RS.d
            rw [Hlx.out.1, Hlx.out.2]
          · omega
        have hpw := neg1pow d (by omega)
        by_cases hev : d % 2 = 0
        · have t2 : Int.tmod (d : Int) 2 = 0 := by rw [show (2 : Int) = ((2 : Nat) : Int) from rfl, ← Int.ofNat_tmod, hev]; rfl
          rw [if_pos hev] at hpw
          have Hdv := Lib.hid (hdv.trans hpw)
          have Hs1 := Lib.hid hs1
          clear hs1 hdv hpw hev hj
          go_wp2_with fail
          refine (zsmall_any (-1) _ (by decide)).mono ?_
          rintro e w6 ⟨s6, A6, l6, c6, rfl, h6, hb6⟩
          have hb0 := HBb.out.move hb6
          have p0 := hb0.c0
          have p1 := hb0.c1
          have p2 := hb0.f0
          have p3 := hb0.f1
          have hsz := hb6.size
          have H6 := Lib.hid (hb0.put h6)
          have Hz := Lib.hid (((HB6.out.trans (hb6.mono (by omega))).setCell (p := ⟨gb, 0, none⟩) (Nat.le_refl _) (.int .i64 s6)).setCell (p := ⟨gb, 1, none⟩) (Nat.le_refl _) (.slice A6 l6 c6))
          clear h6 hb6 hb0
          go_wp2
          go_meet
          obtain ⟨o1, o2, o3, _, _⟩ := HL.out _ Hz.out
          exact ⟨_, _, _, _, _, _, _, _, by rw [Hdv.out]; exact H6.out, by rw [← Hs1.out]; exact o2, o1, o3⟩
        · have t2 : Int.tmod (d : Int) 2 = 1 := by rw [show (2 : Int) = ((2 : Nat) : Int) from rfl, ← Int.ofNat_tmod, show d % 2 = 1 by omega]; rfl
          rw [if_neg hev] at hpw
          have Hdv := Lib.hid (hdv.trans hpw)
          have Hs1 := Lib.hid hs1
          clear hs1 hdv hpw hev hj
          go_wp2
          go_meet
          obtain ⟨o1, o2, o3, _, _⟩ := HL.out _ HB6.out
          exact ⟨_, _, _, _, _, _, _, _, by rw [Hdv.out]; exact HBb.out, by rw [← Hs1.out]; exact o2, o1, o3⟩
      · have t1 : ((m : Int) == 1) = false := by rw [beq_eq_false_iff_ne]; have := Hm.out; omega
        obtain ⟨t0, h1, h2, h3, h4, h5⟩ : ∃ t0, t = t0.next ∧ psi = t0.s ∧ dd = t0.d ∧ t0.goes ∧ QSt t0 := by
          rcases HQ2.out with ⟨h1, _⟩ | ⟨_, h1⟩
          · omega
          · exact h1
        have H0 := Lib.hid h4
        have Hpsi := Lib.hid h2
        have Hdd := Lib.hid h3
        have Hnx := Lib.hid h1
        have hpla : t.a.getD (xa - 1) 0 = plead t.a := by
          unfold plead
          rw [HQ.out.pl.2, Hlx.out.1]
        have Hpa := Lib.hid hpla
        have Hfl := Lib.hid (show Fit (-(plead t.a)) by
          have := HQ.out.fa (plen t.a - 1)
          unfold Fit at this ⊢
          rw [Int.natAbs_neg]; exact this)
        obtain ⟨o1, o2, o3, o4, o5⟩ := HL.out _ HB6.out
        have HA5 := Lib.hid o4
        clear h1 h2 h3 h4 h5 hpla o1 o2 o3 o4 o5 hj
        go_wp2_with fail
        refine (zlead_any _ _ _ t.a _ HA5.out (by omega) (by omega)).mono ?_
        rintro e w6 ⟨s6, A6, l6, c6, rfl, h6, hb6⟩
        rw [Hpa.out] at h6
        have H6 := Lib.hid h6
        have hz6 := hb6.size
        have B6 := Lib.hid (HB6.out.trans (hb6.mono (by omega)))
        have HBb6 := Lib.hid (HBb.out.move hb6)
        clear h6 hb6
        go_wp2_with fail
        refine (zminus_any _ _ _ _ _ _ H6.out).mono ?_
        rintro e w7 ⟨s7, A7, l7, c7, rfl, h7, hb7⟩
        have hz7 := hb7.size
        obtain ⟨W8, hW8⟩ : ∃ W8, W8 = w7.alloc (zbox s7 A7 l7 c7) := ⟨_, rfl⟩
        obtain ⟨gv, hgv⟩ : ∃ gv, gv = w7.heap.size := ⟨_, rfl⟩
        have hb8 : Below w7.heap.size w7 W8 := by rw [hW8]; exact (Below.refl _ _).alloc (Nat.le_refl _) _
        have HV := Lib.hid (show ZBox W8 gv s7 A7 l7 c7 (-(plead t.a)) by rw [hW8, hgv]; exact ZBox.make h7)
        have B8 := Lib.hid (show Below gb w4 W8 from (B6.out.trans (hb7.mono (by omega))).trans (hb8.mono (by omega)))
        have HBb8 := Lib.hid ((HBb6.out.move hb7).move hb8)
        have hgv2 : gb < gv := by rw [hgv]; exact (HBb6.out.move hb7).lt
        go_upto_if 49 with (fail)
        rw [← hW8, ← hgv]
        clear h7 hb7 hb8 hW8 hgv HBb HBb6 B6 H6 HA5 HB6 p0 p1 p2 p3
        go_cut [] (fun wx => ∃ s5 A5 l5 c5 z5 s6 A6 l6 c6, ZBox wx gb s5 A5 l5 c5 z5 ∧ ZBox wx gp s6 A6 l6 c6 t.s ∧ ZBox wx gv s7 A7 l7 c7 (-(plead t.a)) ∧ OwnP wx w.heap.size gp (.slice (some ⟨gl, 0, none⟩) n cap) ps ∧ OwnP wx w.heap.size gb (.slice (some ⟨gl, 0, none⟩) n cap) ps ∧ Below w.heap.size w wx)
        case first =>
          by_cases hd0 : dd = 0
          · have t2 : decide ((0 : Int) < (dd : Int)) = false := decide_eq_false (by omega)
            have t3 : ¬ (0 : Int) < (dd : Int) := by omega
            have hts : t.s = psi := by rw [Hnx.out, next_s, if_neg (by rw [← Hdd.out]; omega), Hpsi.out]
            have Hts := Lib.hid hts
            clear hts hd0
            go_wp2
            go_meet
            obtain ⟨o1, o2, o3, _, o4⟩ := HL.out _ B8.out
            exact ⟨_, _, _, _, _, _, _, _, _, HBb8.out, by rw [Hts.out]; exact o2, HV.out, o1, o4, o3⟩
          · have t2 : (0 : Int) < (dd : Int) := by omega
            have d1 : (dd : Int) - 1 = ((dd - 1 : Nat) : Int) := by omega
            have d2 : IntKind.i64.wrap ((dd - 1 : Nat) : Int) = ((dd - 1 : Nat) : Int) := IntWalk.i64_in _ (by omega)
            obtain ⟨o1, o2, o3, _, o4⟩ := HL.out _ B8.out
            have v0 := HV.out.c0
            have v1 := HV.out.c1
            have q0 := o2.c0
            have q1 := o2.c1
            have hgv1 := HV.out.lt
            have hgp1 := o2.lt
            have hgb1 := HBb8.out.lt
            have O1 := Lib.hid o1
            have O2 := Lib.hid o2
            have O3 := Lib.hid o3
            have O4 := Lib.hid o4
            clear o1 o2 o3 o4 hd0
            go_wp2_with fail
            refine wp_region_held_drew (S := fun w' => (w'.cell? ⟨gv, 0, none⟩ = some (.int .i64 s7) ∧ w'.cell? ⟨gv, 1, none⟩ = some (.slice A7 l7 c7)) ∧ w'.cell? ⟨gp, 0, none⟩ = some (.int .i64 s) ∧ w'.cell? ⟨gp, 1, none⟩ = some (.slice A0 l0 c0)) (by kernel_rfl) (by (try dsimp only); go_keep) (fun hHeld => ?_)
            (refine take_at (i := 0) (oi := _) (v := ?_) rfl rfl (by kernel_rfl) (by kernel_rfl) (by kernel_rfl) (fun _ _ _ h => h) (Or.inl ⟨by rfl, ?_⟩) (by assumption) ?_; rotate_left; (focus (intro w hSw; (try dsimp only at hSw); go_simp; (try with_reducible rfl))); (simp only [put_lit, List.set]))
            (refine take_at (i := 1) (oi := _) (v := ?_) rfl rfl (by kernel_rfl) (by kernel_rfl) (by kernel_rfl) (fun _ _ _ h => h) (Or.inl ⟨by rfl, ?_⟩) (by assumption) ?_; rotate_left; (focus (intro w hSw; (try dsimp only at hSw); go_simp; (try with_reducible rfl))); (simp only [put_lit, List.set]))
            (refine take_at (i := 3) (oi := _) (v := ?_) rfl rfl (by kernel_rfl) (by kernel_rfl) (by kernel_rfl) (fun _ _ _ h => h) (Or.inl ⟨by rfl, ?_⟩) (by assumption) ?_; rotate_left; (focus (intro w hSw; (try dsimp only at hSw); go_simp; (try with_reducible rfl))); (simp only [put_lit, List.set]))
            (refine take_at (i := 4) (oi := _) (v := ?_) rfl rfl (by kernel_rfl) (by kernel_rfl) (by kernel_rfl) (fun _ _ _ h => h) (Or.inl ⟨by rfl, ?_⟩) (by assumption) ?_; rotate_left; (focus (intro w hSw; (try dsimp only at hSw); go_simp; (try with_reducible rfl))); (simp only [put_lit, List.set]))
            (refine take_at (i := 5) (oi := _) (v := ?_) rfl rfl (by kernel_rfl) (by kernel_rfl) (by kernel_rfl) (fun _ _ _ h => h) (Or.inl ⟨by rfl, ?_⟩) (by assumption) ?_; rotate_left; (focus (intro w hSw; (try dsimp only at hSw); go_simp; (try with_reducible rfl))); (simp only [put_lit, List.set]))
            obtain ⟨PP, hPP⟩ : ∃ PP, PP = (-(plead t.a)) ^ dd := ⟨_, rfl⟩
            obtain ⟨QQ, hQQ⟩ : ∃ QQ, QQ = psi ^ (dd - 1) := ⟨_, rfl⟩
            have HPP := Lib.hid hPP
            have HQQ := Lib.hid hQQ
            have Hfp := Lib.hid (show Fit psi by rw [Hpsi.out]; exact H0.out.sf)
            have BP := Lib.hid (show bln PP.natAbs ≤ 400000 by
              rw [hPP]
              exact Nat.le_trans (bln_pow (fit_pows Hfl.out dd)) (by have : E40 * dd ≤ 1280 * 6 := Nat.mul_le_mul (Nat.le_of_eq e40) hdd; omega))
            have BQ := Lib.hid (show bln QQ.natAbs ≤ 400000 by
              rw [hQQ]
              exact Nat.le_trans (bln_pow (fit_pows Hfp.out (dd - 1))) (by have : E40 * (dd - 1) ≤ 1280 * 6 := Nat.mul_le_mul (Nat.le_of_eq e40) (by omega); omega))
            have HQ0 := Lib.hid (show QQ ≠ 0 by rw [hQQ, Hpsi.out]; exact Int.pow_ne_zero H0.out.s)
            have Hts := Lib.hid (show PP.tdiv QQ = t.s by
              rw [hPP, hQQ]
              have h := next_s t0
              rw [← Hnx.out, ← Hdd.out, if_pos (by omega), ← Hpsi.out] at h
              exact h.symm)
            clear hPP hQQ
            refine wpAnyH_inv (Inv := fun listed act w' => ∃ (cc m9 ss : Nat → Bool) (v u : Nat → Value) (Y Z0 Z1 : Bool) (tt ty y0 y1 : Value), BZ (fun i => if i = 0 then PP.tdiv QQ else if i = 1 then PP.tmod QQ else if i = 2 then PP else QQ) W8.heap.size W8.drew w' cc m9 ss v u ∧ (cc 0 = true → cc 0 = true ∧ cc 1 = true ∧ tt = .tuple #[v 0, v 1]) ∧ (Y = true → cc 0 = true ∧ ty = .tuple #[v 0, v 1]) ∧ (Z0 = true → cc 0 = true ∧ y0 = v 0) ∧ (Z1 = true → cc 0 = true ∧ y1 = v 1) ∧ listed = #[true, true, cc 2, true, true, true, cc 3, cc 0, Y, Z0, Z1, m9 0, m9 1, ss 0, ss 1] ∧ act = ⟨#[.slice A (plen f) ca, .slice B (plen g) cb, undef, undef, u4, .slice (some ⟨gl, 0, none⟩) n cap, .pointer (some ⟨gp, 0, none⟩), .int .i64 (dd : Int), .int .i64 (m : Int), .int .i64 (d : Int), .pointer (some ⟨gb, 0, none⟩), .pointer (some ⟨gv, 0, none⟩), u 0, u 1, u14, u15, .slice A (plen f) ca, .slice B (plen g) cb, .slice (some ⟨w.heap.size, 0, none⟩) 2 2, .agg #[.int .i64 s2, .slice A2 l2 c2], u20, u21, .slice (some ⟨gl, 0, none⟩) n cap, .int .i64 (m : Int), .int .i64 (j : Int), .pointer (some ⟨gl, j, none⟩), .slice Aa xa ya, .int .i64 (xa : Int), .slice (some ⟨gl, 0, none⟩) n cap, .int .i64 (m : Int), .pointer (some ⟨gl, m, none⟩), .slice Ab xb yb, .int .i64 (xb : Int), .int .i64 (d : Int), .agg #[.int .i64 s4, .slice A4 l4 c4], .int .i64 (m : Int), .bool false, u37, u38, u39, u40, .slice (some ⟨gl, 0, none⟩) n cap, .int .i64 (m : Int), .int .i64 (j : Int), .pointer (some ⟨gl, j, none⟩), .slice Aa xa ya, .agg #[.int .i64 s6, .slice A6 l6 c6], .agg #[.int .i64 s7, .slice A7 l7 c7], .int .i64 (dd : Int), .bool true, ty, .agg #[.int .i64 s7, .slice A7 l7 c7], .int .i64 (dd : Int), v 2, .agg #[.int .i64 s, .slice A0 l0 c0], .int .i64 (dd : Int), .int .i64 ((dd - 1 : Nat) : Int), v 3, tt, y0, y1, u61, u62, u63, u64, u65, u66, u67, u68, u69, u70, u71, u72, u73, u74, u75, u76, u77, u78, u79, u80, u81, u82, u83, u84, u85, u86, u87, u88, u89, u90], []⟩) ?_ ?_ ?_ 10 _ _ _ (by decide +kernel) ?_
            · rintro listed act w' ⟨cc, m9, ss, v, u, Y, Z0, Z1, tt, ty, y0, y1, hB, hC, hY, hZ0, hZ1, rfl, rfl⟩
              have hh : ∀ b o, b < W8.heap.size → w'.cell? ⟨b, o, none⟩ = W8.drew.cell? ⟨b, o, none⟩ := fun b o h => hB.b.cell (p := ⟨b, o, none⟩) h
              exact ⟨⟨(hh _ _ (by omega)).trans hHeld.1.1, (hh _ _ (by omega)).trans hHeld.1.2⟩, (hh _ _ (by omega)).trans hHeld.2.1, (hh _ _ (by omega)).trans hHeld.2.2⟩
            · rintro listed act w' i o ⟨cc, m9, ss, v, u, Y, Z0, Z1, tt, ty, y0, y1, hB, hC, hY, hZ0, hZ1, rfl, rfl⟩ ho hl hdp K hK
              have hi : i < 15 := (Array.getElem?_eq_some_iff.1 ho).1
              have hi' : i = 0 ∨ i = 1 ∨ i = 2 ∨ i = 3 ∨ i = 4 ∨ i = 5 ∨ i = 6 ∨ i = 7 ∨ i = 8 ∨ i = 9 ∨ i = 10 ∨ i = 11 ∨ i = 12 ∨ i = 13 ∨ i = 14 := by omega
              have hW : Below W8.heap.size W8 w' := ((Below.refl _ _).drew).trans hB.b
              rcases hi' with rfl | rfl | rfl | rfl | rfl | rfl | rfl | rfl | rfl | rfl | rfl | rfl | rfl | rfl | rfl
              · cases hl
              · cases hl
              · obtain rfl := Option.some.inj ho
                go_simp
                refine (zpower_any _ _ _ _ (-(plead t.a)) dd _ (HV.out.hz.below hW) (by omega) (fit_pow Hfl.out) (by decide)).mono ?_
                rintro e w3 ⟨s3, A3, l3, c3, rfl, h3, hb3⟩
                rw [← HPP.out] at h3
                exact hK.out _ _ ⟨_, m9, ss, _, u, Y, Z0, Z1, tt, ty, y0, y1, hB.call hb3 2 ⟨_, _, _, _, rfl, h3⟩, hC, hY, hZ0, hZ1, rfl, rfl⟩
              · cases hl
              · cases hl
              · cases hl
              · obtain rfl := Option.some.inj ho
                go_simp
                refine (zpower_any _ _ _ _ psi (dd - 1) _ (O2.out.hz.below hW) (by omega) (fit_pow Hfp.out) (by decide)).mono ?_
                rintro e w3 ⟨s3, A3, l3, c3, rfl, h3, hb3⟩
                rw [← HQQ.out] at h3
                exact hK.out _ _ ⟨_, m9, ss, _, u, Y, Z0, Z1, tt, ty, y0, y1, hB.call hb3 3 ⟨_, _, _, _, rfl, h3⟩, hC, hY, hZ0, hZ1, rfl, rfl⟩
              · obtain rfl := Option.some.inj ho
                have hc0 : cc 0 = false := hl
                have hnc : ∀ {P : Prop}, cc 0 = true → P := fun h => by rw [hc0] at h; cases h
                have c2' : cc 2 = true := hdp ⟨2, .data⟩ (Array.mem_of_getElem? (i := 0) rfl) (by decide +kernel)
                have c3' : cc 3 = true := hdp ⟨6, .data⟩ (Array.mem_of_getElem? (i := 1) rfl) (by decide +kernel)
                obtain ⟨s8, A8, l8, c8, e8, hz8⟩ := hB.r 2 c2'
                obtain ⟨s9, A9, l9, c9, e9, hz9⟩ := hB.r 3 c3'
                have hz8 : ZAt w' s8 A8 l8 c8 PP := hz8
                have hz9 : ZAt w' s9 A9 l9 c9 QQ := hz9
                have h8 : l8 ≤ 800000 := by have := hz8.len; have := BP.out; omega
                have h9 : l9 ≤ 800000 := by have := hz9.len; have := BQ.out; omega
                simp only [e8, e9]
                go_simp
                refine (zquo_any _ _ _ _ PP _ _ _ _ QQ _ hz8 hz9 h8 h9 HQ0.out).mono ?_
                rintro e w3 ⟨s3, A3, l3, c3, s4', A4', l4', c4', rfl, h3, h4, hb3⟩
                exact hK.out _ _ ⟨_, m9, ss, _, u, Y, Z0, Z1, _, ty, y0, y1, (hB.call hb3 0 ⟨_, _, _, _, rfl, h3⟩).call (Below.refl _ _) 1 ⟨_, _, _, _, rfl, h4⟩, fun _ => ⟨rfl, rfl, rfl⟩, fun h => hnc (hY h).1, fun h => hnc (hZ0 h).1, fun h => hnc (hZ1 h).1, rfl, by simp only [upd, e8, e9]; rfl⟩
              · obtain rfl := Option.some.inj ho
                have hc0 : cc 0 = true := hdp ⟨7, .data⟩ (Array.mem_of_getElem? (i := 0) rfl) (by decide +kernel)
                go_simp
                exact hK.out _ _ ⟨cc, m9, ss, v, u, true, Z0, Z1, tt, .tuple #[v 0, v 1], y0, y1, hB, hC, fun _ => ⟨hc0, rfl⟩, hZ0, hZ1, rfl, by simp only [(hC hc0).2.2]⟩
              · obtain rfl := Option.some.inj ho
                have hy : Y = true := hdp ⟨8, .data⟩ (Array.mem_of_getElem? (i := 0) rfl) (by decide +kernel)
                obtain ⟨hc0, ey⟩ := hY hy
                simp only [ey]
                go_simp
                exact hK.out _ _ ⟨cc, m9, ss, v, u, Y, true, Z1, tt, ty, v 0, y1, hB, hC, hY, fun _ => ⟨hc0, rfl⟩, hZ1, rfl, by simp only [ey, (hC hc0).2.2]⟩
              · obtain rfl := Option.some.inj ho
                have hy : Y = true := hdp ⟨8, .data⟩ (Array.mem_of_getElem? (i := 0) rfl) (by decide +kernel)
                obtain ⟨hc0, ey⟩ := hY hy
                simp only [ey]
                go_simp
                exact hK.out _ _ ⟨cc, m9, ss, v, u, Y, Z0, true, tt, ty, y0, v 1, hB, hC, hY, hZ0, fun _ => ⟨hc0, rfl⟩, rfl, by simp only [ey, (hC hc0).2.2]⟩
              · obtain rfl := Option.some.inj ho
                go_simp
                exact hK.out _ _ ⟨cc, _, ss, v, _, Y, Z0, Z1, tt, ty, y0, y1, hB.alloc 0 hl, hC, hY, hZ0, hZ1, rfl, rfl⟩
              · obtain rfl := Option.some.inj ho
                go_simp
                exact hK.out _ _ ⟨cc, _, ss, v, _, Y, Z0, Z1, tt, ty, y0, y1, hB.alloc 1 hl, hC, hY, hZ0, hZ1, rfl, rfl⟩
              · obtain rfl := Option.some.inj ho; have hm := hdp ⟨11, .data⟩ (Array.mem_of_getElem? (i := 0) rfl) (by decide +kernel); have hz := hdp ⟨9, .data⟩ (Array.mem_of_getElem? (i := 1) rfl) (by decide +kernel); obtain ⟨hc0, ez⟩ := hZ0 hz; obtain ⟨s9, A9, l9, c9, e1, hz9⟩ := hB.r 0 (hC hc0).1; obtain ⟨g, _, _, _, _, _, e2, hgk, hR9, _⟩ := hB.o 0 hm; have hBs := hB.store 0 hm e2 hz9; simp only [ez, e1, e2]; have r0 := hR9.c0; have r1 := hR9.c1; have r3 := hR9.f0; have r4 := hR9.f1; go_simp; exact hK.out _ _ ⟨_, _, _, _, _, Y, Z0, Z1, tt, ty, y0, y1, hBs, hC, hY, hZ0, hZ1, rfl, by simp only [(hC hc0).2.2, ez, e1, e2]⟩
              · obtain rfl := Option.some.inj ho; have hm := hdp ⟨12, .data⟩ (Array.mem_of_getElem? (i := 0) rfl) (by decide +kernel); have hz := hdp ⟨10, .data⟩ (Array.mem_of_getElem? (i := 1) rfl) (by decide +kernel); obtain ⟨hc0, ez⟩ := hZ1 hz; obtain ⟨s9, A9, l9, c9, e1, hz9⟩ := hB.r 1 (hC hc0).2.1; obtain ⟨g, _, _, _, _, _, e2, hgk, hR9, _⟩ := hB.o 1 hm; have hBs := hB.store 1 hm e2 hz9; simp only [ez, e1, e2]; have r0 := hR9.c0; have r1 := hR9.c1; have r3 := hR9.f0; have r4 := hR9.f1; go_simp; exact hK.out _ _ ⟨_, _, _, _, _, Y, Z0, Z1, tt, ty, y0, y1, hBs, hC, hY, hZ0, hZ1, rfl, by simp only [(hC hc0).2.2, ez, e1, e2]⟩
            · rintro listed act wz ⟨cc, m9, ss, v, u, Y, Z0, Z1, tt, ty, y0, y1, hB, hC, hY, hZ0, hZ1, rfl, rfl⟩ hr
              have hall := ready_nil_allM (by kernel_rfl) rfl hr
              have m0 : m9 0 = true := hall 11 (by simp)
              have s0 : ss 0 = true := hall 13 (by simp)
              obtain ⟨gx, sx, Ax, lx, cx, zx, ex, kx, RX, fx⟩ := hB.o 0 m0
              replace fx : zx = PP.tdiv QQ := fx s0
              rw [fx, Hts.out] at RX
              have hWz : Below W8.heap.size W8 wz := ((Below.refl _ _).drew).trans hB.b
              simp only [ex]
              generalize v 2 = z2
              generalize v 3 = z3
              generalize u 1 = z4
              have x0 := RX.c0
              have x1 := RX.c1
              have o2 := O2.out.move hWz
              have q0 := o2.c0
              have q1 := o2.c1
              have q2 := o2.f0
              have q3 := o2.f1
              have hbz := HBb8.out.move hWz
              have hvz := HV.out.move hWz
              have o1 := O1.out.below hWz
              have R1 := Lib.hid (hbz.far o2 (by omega) (.int .i64 sx) (.slice Ax lx cx))
              have R2 := Lib.hid (o2.put RX.hz)
              have R3 := Lib.hid (hvz.far o2 (by omega) (.int .i64 sx) (.slice Ax lx cx))
              have R4 := Lib.hid (o1.psi o2 (.int .i64 sx) (.slice Ax lx cx))
              have R5 := Lib.hid ((O4.out.below hWz).side o1 o2 (.int .i64 sx) (.slice Ax lx cx))
              have R6 := Lib.hid (((O3.out.trans (hWz.mono O3.out.size)).setCell (p := ⟨gp, 0, none⟩) (by show w.heap.size ≤ gp; omega) (.int .i64 sx)).setCell (p := ⟨gp, 1, none⟩) (by show w.heap.size ≤ gp; omega) (.slice Ax lx cx))
              have hgpz := o2.lt
              have hgxz := RX.lt
              clear hall m0 s0 fx hB hr hHeld hWz RX hC hY hZ0 hZ1 o2 hbz hvz o1 ex v0 v1
              go_wp2
              go_meet
              exact ⟨_, _, _, _, _, _, _, _, _, R1.out, R2.out, R3.out, R4.out, R5.out, R6.out⟩
            · exact ⟨fun _ => false, fun _ => false, fun _ => false, fun i => if i = 0 then u59 else if i = 1 then u60 else if i = 2 then u53 else u57, fun i => if i = 0 then u12 else u13, false, false, false, u58, u50, u59, u60, ⟨Below.refl _ _, Nat.le_refl _, fun _ h => (by cases h), fun _ h => (by cases h), fun _ _ _ h => (by cases h), fun _ h => (by cases h)⟩, fun h => (by cases h), fun h => (by cases h), fun h => (by cases h), fun h => (by cases h), rfl, by simp; omega⟩
        case rest =>
          obtain ⟨s5, A5, l5, c5, z5, s9, A9, l9, c9, hk1, hk2, hk3, hk4, hk6, hk5⟩ := hcut
          have q0 := hk2.c0
          have q1 := hk2.c1
          have v0 := hk3.c0
          have v1 := hk3.c1
          have K1 := Lib.hid hk1
          have K2 := Lib.hid hk2
          have K3 := Lib.hid hk3
          have K4 := Lib.hid hk4
          have K5 := Lib.hid hk5
          have K6 := Lib.hid hk6
          have hgv1 := hk3.lt
          have hgp1 := hk2.lt
          have hgb1 := hk1.lt
          have Hfs := Lib.hid (show Fit t.s by rw [Hnx.out]; exact H0.out.sf')
          have Hmu := Lib.hid (show -(plead t.a) * t.s ^ d = t.dv by
            have h := next_dv t0
            rw [← Hnx.out] at h
            rw [h, Hlx.out.1, Hlx.out.2, ← Hd.out])
          have L7 : l7 ≤ 400000 := by
            have h1 := hk3.hz.len
            have h2 := bln_pow (fit_pow Hfl.out)
            have h3 := e40
            omega
          have Lp := Lib.hid (show bln (t.s ^ d).natAbs ≤ 400000 from Nat.le_trans (bln_pow (fit_pows Hfs.out d)) (by have : E40 * d ≤ 1280 * 6 := Nat.mul_le_mul (Nat.le_of_eq e40) hd6; omega))
          clear hk1 hk2 hk3 hk4 hk5 hk6 HL B8 HBb8 HV
          go_wp2_with fail
          refine wp_region_last (S := fun w' => (w'.cell? ⟨gv, 0, none⟩ = some (.int .i64 s7) ∧ w'.cell? ⟨gv, 1, none⟩ = some (.slice A7 l7 c7)) ∧ w'.cell? ⟨gp, 0, none⟩ = some (.int .i64 s9) ∧ w'.cell? ⟨gp, 1, none⟩ = some (.slice A9 l9 c9)) (by kernel_rfl) (by kernel_rfl) (by (try dsimp only); go_keep) (fun hHeld => ?_)
          simp only [List.pop_toArray, List.dropLast]
          (refine take_at (i := 0) (oi := _) (v := ?_) rfl rfl (by kernel_rfl) (by kernel_rfl) (by kernel_rfl) (fun _ _ _ h => h) (Or.inl ⟨by rfl, ?_⟩) (by assumption) ?_; rotate_left; (focus (intro w hSw; (try dsimp only at hSw); go_simp; (try with_reducible rfl))); (simp only [put_lit, List.set]))
          (refine take_at (i := 1) (oi := _) (v := ?_) rfl rfl (by kernel_rfl) (by kernel_rfl) (by kernel_rfl) (fun _ _ _ h => h) (Or.inl ⟨by rfl, ?_⟩) (by assumption) ?_; rotate_left; (focus (intro w hSw; (try dsimp only at hSw); go_simp; (try with_reducible rfl))); (simp only [put_lit, List.set]))
          (refine take_at (i := 2) (oi := _) (v := ?_) rfl rfl (by kernel_rfl) (by kernel_rfl) (by kernel_rfl) (fun _ _ _ h => h) (Or.inl ⟨by rfl, ?_⟩) (by assumption) ?_; rotate_left; (focus (intro w hSw; (try dsimp only at hSw); go_simp; (try with_reducible rfl))); (simp only [put_lit, List.set]))
          refine wpAnyH_ready (rs := [3]) (by kernel_rfl) (by simp) ?_
          refine AllReadyH.cons rfl (fun K hK => ?_) AllReadyH.nil; go_simp
          refine (zpower_any _ _ _ _ t.s d _ (K2.out.hz.below (by (repeat (first | exact Below.refl _ _ | refine Below.drew ?_ | refine Below.alloc ?_ (by first | (simp; done) | (simp; omega) | omega) _ | refine Below.setCell ?_ (by first | (simp; done) | (simp; omega) | omega) _)))) (by omega) (fit_pow Hfs.out) (by decide)).mono ?_
          rintro e w10 ⟨s10, A10, l10, c10, rfl, h10, hb10⟩
          obtain ⟨hcx, hfx⟩ := bcellS hb10
          replace K1 := Lib.hid (K1.out.move (Below.trans (by (repeat (first | exact Below.refl _ _ | refine Below.drew ?_ | refine Below.alloc ?_ (by first | (simp; done) | (simp; omega) | omega) _ | refine Below.setCell ?_ (by first | (simp; done) | (simp; omega) | omega) _))) (hb10.mono (by simp <;> omega))))
          replace K2 := Lib.hid (K2.out.move (Below.trans (by (repeat (first | exact Below.refl _ _ | refine Below.drew ?_ | refine Below.alloc ?_ (by first | (simp; done) | (simp; omega) | omega) _ | refine Below.setCell ?_ (by first | (simp; done) | (simp; omega) | omega) _))) (hb10.mono (by simp <;> omega))))
          replace K3 := Lib.hid (K3.out.move (Below.trans (by (repeat (first | exact Below.refl _ _ | refine Below.drew ?_ | refine Below.alloc ?_ (by first | (simp; done) | (simp; omega) | omega) _ | refine Below.setCell ?_ (by first | (simp; done) | (simp; omega) | omega) _))) (hb10.mono (by simp <;> omega))))
          replace K4 := Lib.hid (K4.out.below (Below.trans (by (repeat (first | exact Below.refl _ _ | refine Below.drew ?_ | refine Below.alloc ?_ (by first | (simp; done) | (simp; omega) | omega) _ | refine Below.setCell ?_ (by first | (simp; done) | (simp; omega) | omega) _))) (hb10.mono (by simp <;> omega))))
          replace K6 := Lib.hid (K6.out.below (Below.trans (by (repeat (first | exact Below.refl _ _ | refine Below.drew ?_ | refine Below.alloc ?_ (by first | (simp; done) | (simp; omega) | omega) _ | refine Below.setCell ?_ (by first | (simp; done) | (simp; omega) | omega) _))) (hb10.mono (by simp <;> omega))))
          replace K5 := Lib.hid (K5.out.trans ((Below.trans (by (repeat (first | exact Below.refl _ _ | refine Below.drew ?_ | refine Below.alloc ?_ (by first | (simp; done) | (simp; omega) | omega) _ | refine Below.setCell ?_ (by first | (simp; done) | (simp; omega) | omega) _))) (hb10.mono (by simp <;> omega))).mono K5.out.size))
          have H10 := Lib.hid h10
          have hz10 := hb10.size
          have L10 : l10 ≤ 400000 := by rw [h10.len]; exact Lp.out
          refine hK.out _ _ ?_ (fun _ => ?_)
          · ((try dsimp only); repeat' apply And.intro) <;> (rw [hcx _ (by go_simp)]; go_simp)
          clear hHeld hK K hcx hfx; rename_i hHeld
          clear h10 hb10
          refine wpAnyH_ready (rs := [4]) (by kernel_rfl) (by simp) ?_
          refine AllReadyH.cons rfl (fun K hK => ?_) AllReadyH.nil; go_simp
          refine (zmul_any _ _ _ _ (-(plead t.a)) _ _ _ _ (t.s ^ d) _ K3.out.hz H10.out L7 L10).mono ?_
          rintro e w11 ⟨s11, A11, l11, c11, rfl, h11, hb11⟩
          rw [Hmu.out] at h11
          obtain ⟨hcx, hfx⟩ := bcellS hb11
          replace K1 := Lib.hid (K1.out.move (Below.trans (by (repeat (first | exact Below.refl _ _ | refine Below.drew ?_ | refine Below.alloc ?_ (by first | (simp; done) | (simp; omega) | omega) _ | refine Below.setCell ?_ (by first | (simp; done) | (simp; omega) | omega) _))) (hb11.mono (by simp <;> omega))))
          replace K2 := Lib.hid (K2.out.move (Below.trans (by (repeat (first | exact Below.refl _ _ | refine Below.drew ?_ | refine Below.alloc ?_ (by first | (simp; done) | (simp; omega) | omega) _ | refine Below.setCell ?_ (by first | (simp; done) | (simp; omega) | omega) _))) (hb11.mono (by simp <;> omega))))
          replace K4 := Lib.hid (K4.out.below (Below.trans (by (repeat (first | exact Below.refl _ _ | refine Below.drew ?_ | refine Below.alloc ?_ (by first | (simp; done) | (simp; omega) | omega) _ | refine Below.setCell ?_ (by first | (simp; done) | (simp; omega) | omega) _))) (hb11.mono (by simp <;> omega))))
          replace K6 := Lib.hid (K6.out.below (Below.trans (by (repeat (first | exact Below.refl _ _ | refine Below.drew ?_ | refine Below.alloc ?_ (by first | (simp; done) | (simp; omega) | omega) _ | refine Below.setCell ?_ (by first | (simp; done) | (simp; omega) | omega) _))) (hb11.mono (by simp <;> omega))))
          replace K5 := Lib.hid (K5.out.trans ((Below.trans (by (repeat (first | exact Below.refl _ _ | refine Below.drew ?_ | refine Below.alloc ?_ (by first | (simp; done) | (simp; omega) | omega) _ | refine Below.setCell ?_ (by first | (simp; done) | (simp; omega) | omega) _))) (hb11.mono (by simp <;> omega))).mono K5.out.size))
          have H11 := Lib.hid h11
          refine hK.out _ _ ?_ (fun _ => ?_)
          · ((try dsimp only); repeat' apply And.intro) <;> (rw [hcx _ (by go_simp)]; go_simp)
          clear hHeld hK K hcx hfx; rename_i hHeld
          clear h11 hb11
          refine wpAnyH_done (by kernel_rfl) (lastQ_list rfl ?_) _
          have p0 := K1.out.c0
          have p1 := K1.out.c1
          have p2 := K1.out.f0
          have p3 := K1.out.f1
          have R1 := Lib.hid (K1.out.put H11.out)
          have R2 := Lib.hid (K2.out.far K1.out (by omega) (.int .i64 s11) (.slice A11 l11 c11))
          have R3 := Lib.hid (K4.out.side K6.out K1.out (.int .i64 s11) (.slice A11 l11 c11))
          have R4 := Lib.hid ((K5.out.setCell (p := ⟨gb, 0, none⟩) hwb (.int .i64 s11)).setCell (p := ⟨gb, 1, none⟩) hwb (.slice A11 l11 c11))
          clear hHeld
          go_wp2
          go_meet
          exact ⟨_, _, _, _, _, _, _, _, R1.out, R2.out, R3.out, R4.out⟩
    case rest =>
      obtain ⟨s5, A5, l5, c5, s6, A6, l6, c6, hB, hP, hO, hW⟩ := hcut
      clear HL HBb HB6 HA e0 HQ2
      obtain ⟨g9, cap9, hv9, _, hgl9, hels⟩ := hO.at_
      have hg9 := slice_block hv9
      have hlen := Hlen.out
      have hmj := Hm.out
      obtain ⟨Ba, ka, za, e0, hza⟩ := hels j (by omega)
      obtain ⟨Bb, kb, zb, e1, hzb⟩ := hels m (by omega)
      rw [HT.out.1] at hza
      rw [hmj, HT.out.2] at hzb
      rw [← hg9] at e0 e1 hgl9
      have hka : ka = xa := by rw [← hza.length, Hlx.out.1]
      have hkb : kb = xb := by rw [← hzb.length, Hlx.out.2]
      subst hka
      subst hkb
      have HA := Lib.hid hza
      have HBz := Lib.hid hzb
      have HB := Lib.hid hB
      have HP := Lib.hid hP
      have HO := Lib.hid hO
      have HW := Lib.hid hW
      have hrp : (rrun t.a t.b (kb - 1) (ka - kb) (ka + 1 - kb)).2 = psr t.a t.b := by
        have h := rrun_ps (f := t.a) (g := t.b) (by rw [HQ.out.pl.1]; exact HQ.out.b1)
        rw [HQ.out.ta, HQ.out.tb, HQ.out.pl.1, HQ.out.pl.2, Hlx.out.1, Hlx.out.2] at h
        rw [h]
      have Hrp := Lib.hid hrp
      have hgb2 := hB.lt
      have hgp2 := hP.lt
      have hd0 : t.dv ≠ 0 ∨ psr t.a t.b = [] := by
        by_cases h : psr t.a t.b = []
        · exact .inr h
        · exact .inl (HI.out.st.step h).1.dv
      have Hd0 := Lib.hid hd0
      clear hB hP hO hW hv9 hg9 hels hza hzb hrp hlen hmj hd0
      go_wp2_with fail
      refine wp_region_held_drew (S := fun w' => w'.cell? ⟨gl, j, none⟩ = some (.slice Ba ka za) ∧ w'.cell? ⟨gl, m, none⟩ = some (.slice Bb kb zb)) (by kernel_rfl) (by (try dsimp only); go_keep) (fun hHeld => ?_)
      (refine take_at (i := 0) (oi := _) (v := ?_) rfl rfl (by kernel_rfl) (by kernel_rfl) (by kernel_rfl) (fun _ _ _ h => h) (Or.inl ⟨by rfl, ?_⟩) (by assumption) ?_; rotate_left; (focus (intro w hSw; (try dsimp only at hSw); go_simp; (try with_reducible rfl))); (simp only [put_lit, List.set]))
      (refine take_at (i := 1) (oi := _) (v := ?_) rfl rfl (by kernel_rfl) (by kernel_rfl) (by kernel_rfl) (fun _ _ _ h => h) (Or.inl ⟨by rfl, ?_⟩) (by assumption) ?_; rotate_left; (focus (intro w hSw; (try dsimp only at hSw); go_simp; (try with_reducible rfl))); (simp only [put_lit, List.set]))
      (refine take_at (i := 2) (oi := _) (v := ?_) rfl rfl (by kernel_rfl) (by kernel_rfl) (by kernel_rfl) (fun _ _ _ h => h) (Or.inl ⟨by rfl, ?_⟩) (by assumption) ?_; rotate_left; (focus (intro w hSw; (try dsimp only at hSw); go_simp; (try with_reducible rfl))); (simp only [put_lit, List.set]))
      (refine take_at (i := 3) (oi := _) (v := ?_) rfl rfl (by kernel_rfl) (by kernel_rfl) (by kernel_rfl) (fun _ _ _ h => h) (Or.inl ⟨by rfl, ?_⟩) (by assumption) ?_; rotate_left; (focus (intro w hSw; (try dsimp only at hSw); go_simp; (try with_reducible rfl))); (simp only [put_lit, List.set]))
      (refine take_at (i := 4) (oi := _) (v := ?_) rfl rfl (by kernel_rfl) (by kernel_rfl) (by kernel_rfl) (fun _ _ _ h => h) (Or.inl ⟨by rfl, ?_⟩) (by assumption) ?_; rotate_left; (focus (intro w hSw; (try dsimp only at hSw); go_simp; (try with_reducible rfl))); (simp only [put_lit, List.set]))
      (refine take_at (i := 5) (oi := _) (v := ?_) rfl rfl (by kernel_rfl) (by kernel_rfl) (by kernel_rfl) (fun _ _ _ h => h) (Or.inl ⟨by rfl, ?_⟩) (by assumption) ?_; rotate_left; (focus (intro w hSw; (try dsimp only at hSw); go_simp; (try with_reducible rfl))); (simp only [put_lit, List.set]))
      (refine take_at (i := 6) (oi := _) (v := ?_) rfl rfl (by kernel_rfl) (by kernel_rfl) (by kernel_rfl) (fun _ _ _ h => h) (Or.inl ⟨by rfl, ?_⟩) (by assumption) ?_; rotate_left; (focus (intro w hSw; (try dsimp only at hSw); go_simp; (try with_reducible rfl))); (simp only [put_lit, List.set]))
      (refine take_at (i := 7) (oi := _) (v := ?_) rfl rfl (by kernel_rfl) (by kernel_rfl) (by kernel_rfl) (fun _ _ _ h => h) (Or.inl ⟨by rfl, ?_⟩) (by assumption) ?_; rotate_left; (focus (intro w hSw; (try dsimp only at hSw); go_simp; (try with_reducible rfl))); (simp only [put_lit, List.set]))
      (refine take_at (i := 8) (oi := _) (v := ?_) rfl rfl (by kernel_rfl) (by kernel_rfl) (by kernel_rfl) (fun _ _ _ h => h) (Or.inl ⟨by rfl, ?_⟩) (by assumption) ?_; rotate_left; (focus (intro w hSw; (try dsimp only at hSw); go_simp; (try with_reducible rfl))); (simp only [put_lit, List.set]))
      refine wpAnyH_ready (rs := [9]) (by kernel_rfl) (by simp) ?_
      refine AllReadyH.cons rfl (fun K hK => ?_) AllReadyH.nil; go_simp
      refine (rpseudo_any _ _ _ t.a _ _ _ t.b _ (HA.out.below (by (repeat (first | exact Below.refl _ _ | refine Below.drew ?_ | refine Below.alloc ?_ (by first | (simp; done) | (simp; omega) | omega) _ | refine Below.setCell ?_ (by first | (simp; done) | (simp; omega) | omega) _)))) (HBz.out.below (by (repeat (first | exact Below.refl _ _ | refine Below.drew ?_ | refine Below.alloc ?_ (by first | (simp; done) | (simp; omega) | omega) _ | refine Below.setCell ?_ (by first | (simp; done) | (simp; omega) | omega) _)))) (by omega) (by omega) (by omega) (M := 2 ^ E40) (E := E40) (Nat.le_refl _) (by decide) (by decide +kernel) (fitp_bd HQ.out.fa) (fitp_bd HQ.out.fb)).mono ?_
      rintro e w10 ⟨A14, l14, c14, A15, l15, c15, rfl, _, hr, hb10⟩
      rw [Hrp.out] at hr
      obtain ⟨hcx, hfx⟩ := bcellS hb10
      replace HB := Lib.hid (HB.out.move (Below.trans (by (repeat (first | exact Below.refl _ _ | refine Below.drew ?_ | refine Below.alloc ?_ (by first | (simp; done) | (simp; omega) | omega) _ | refine Below.setCell ?_ (by first | (simp; done) | (simp; omega) | omega) _))) (hb10.mono (by simp <;> omega))))
      replace HP := Lib.hid (HP.out.move (Below.trans (by (repeat (first | exact Below.refl _ _ | refine Below.drew ?_ | refine Below.alloc ?_ (by first | (simp; done) | (simp; omega) | omega) _ | refine Below.setCell ?_ (by first | (simp; done) | (simp; omega) | omega) _))) (hb10.mono (by simp <;> omega))))
      replace HO := Lib.hid (HO.out.below (Below.trans (by (repeat (first | exact Below.refl _ _ | refine Below.drew ?_ | refine Below.alloc ?_ (by first | (simp; done) | (simp; omega) | omega) _ | refine Below.setCell ?_ (by first | (simp; done) | (simp; omega) | omega) _))) (hb10.mono (by simp <;> omega))))
      replace HW := Lib.hid (HW.out.trans ((Below.trans (by (repeat (first | exact Below.refl _ _ | refine Below.drew ?_ | refine Below.alloc ?_ (by first | (simp; done) | (simp; omega) | omega) _ | refine Below.setCell ?_ (by first | (simp; done) | (simp; omega) | omega) _))) (hb10.mono (by simp <;> omega))).mono HW.out.size))
      have HR := Lib.hid hr
      have hz10 := hb10.size
      refine hK.out _ _ ?_ (fun _ => ?_)
      · ((try dsimp only); repeat' apply And.intro) <;> (rw [hcx _ (by go_simp)]; go_simp)
      clear hHeld hK K hcx hfx; rename_i hHeld
      clear hr hb10
      (refine take_at (i := 10) (oi := _) (v := ?_) rfl rfl (by kernel_rfl) (by kernel_rfl) (by kernel_rfl) (fun _ _ _ h => h) (Or.inl ⟨by rfl, ?_⟩) (by assumption) ?_; rotate_left; (focus (intro w hSw; (try dsimp only at hSw); go_simp; (try with_reducible rfl))); (simp only [put_lit, List.set]))
      (refine take_at (i := 11) (oi := _) (v := ?_) rfl rfl (by kernel_rfl) (by kernel_rfl) (by kernel_rfl) (fun _ _ _ h => h) (Or.inl ⟨by rfl, ?_⟩) (by assumption) ?_; rotate_left; (focus (intro w hSw; (try dsimp only at hSw); go_simp; (try with_reducible rfl))); (simp only [put_lit, List.set]))
      (refine take_at (i := 12) (oi := _) (v := ?_) rfl rfl (by kernel_rfl) (by kernel_rfl) (by kernel_rfl) (fun _ _ _ h => h) (Or.inl ⟨by rfl, ?_⟩) (by assumption) ?_; rotate_left; (focus (intro w hSw; (try dsimp only at hSw); go_simp; (try with_reducible rfl))); (simp only [put_lit, List.set]))
      (refine take_at (i := 13) (oi := _) (v := ?_) rfl rfl (by kernel_rfl) (by kernel_rfl) (by kernel_rfl) (fun _ _ _ h => h) (Or.inl ⟨by rfl, ?_⟩) (by assumption) ?_; rotate_left; (focus (intro w hSw; (try dsimp only at hSw); go_simp; (try with_reducible rfl))); (simp only [put_lit, List.set]))
      (refine take_at (i := 14) (oi := _) (v := ?_) rfl rfl (by kernel_rfl) (by kernel_rfl) (by kernel_rfl) (fun _ _ _ h => h) (Or.inl ⟨by rfl, ?_⟩) (by assumption) ?_; rotate_left; (focus (intro w hSw; (try dsimp only at hSw); go_simp; (try with_reducible rfl))); (simp only [put_lit, List.set]))
      refine wpAnyH_done (by kernel_rfl) ?_ _
      clear hHeld
      have hl15 := HR.out.length
      by_cases hps : psr t.a t.b = []
      · have hl0 : l15 = 0 := by rw [← hl15, hps]; rfl
        subst hl0
        have Hps := Lib.hid hps
        clear hps hl15
        go_wp2
        go_ret
        exact ⟨_, _, rfl, by rw [HI.out.seq, rsq_nil Hps.out, List.append_nil]; exact HO.out, HW.out⟩
      · have hl0 : 0 < l15 := by rw [← hl15]; exact List.length_pos_iff.2 hps
        have t1 : ((l15 : Int) == 0) = false := by rw [beq_eq_false_iff_ne]; omega
        have Hps := Lib.hid hps
        obtain ⟨hgo, hst, hrl⟩ := HI.out.st.step hps
        have hrest := QSt.rest t
        have hrlen : t.rest.length = l15 := by rw [hrest, List.length_map, hl15]
        have Hbits := Lib.hid (psr_bits HQ.out.ta HQ.out.tb (by rw [HQ.out.pl.1]; exact HQ.out.b1) HQ.out.fa HQ.out.fb HQ.out.la)
        have L5 : l5 ≤ 400000 := by rw [HB.out.hz.len]; exact dv_bits HI.out.st HI.out.psi
        have hl7 : l15 ≤ 7 := by have := HQ.out.la; have := HQ.out.lb; omega
        have hdv0 : t.dv ≠ 0 := hgo.dv
        have p0 := HB.out.c0
        have p1 := HB.out.c1
        have Hgo := Lib.hid hgo
        have Hst := Lib.hid hst
        have Hrl := Lib.hid (And.intro hrl hrlen)
        have Hrest := Lib.hid hrest
        clear hps hl15 hgo hst hrl hrest hrlen
        go_wp2_with fail
        refine (zover_fr _ _ _ (psr t.a t.b) _ _ _ _ t.dv _ HR.out HB.out.hz (by omega) Hbits.out L5 hdv0).mono ?_
        rintro e w11 ⟨A16, l16, c16, rfl, h16, hn16, hb11⟩
        rw [← Hrest.out] at h16
        obtain ⟨W12, hW12⟩ : ∃ W12, W12 = w11.alloc (.cells #[.slice A16 l16 c16] 27) := ⟨_, rfl⟩
        have hb12 : Below w11.heap.size w11 W12 := by rw [hW12]; exact (Below.refl _ _).alloc (Nat.le_refl _) _
        have hx12 : W12.cell? ⟨w11.heap.size, 0, none⟩ = some (.slice A16 l16 c16) := by rw [hW12]; go_simp
        have hgp3 := HP.out.lt
        have hne : ZNe A16 l16 gp := fun b off _ hA => by
          obtain ⟨g3, hg3, hg4⟩ := hn16 hl0
          rw [hg3] at hA
          cases hA
          omega
        have Hne := Lib.hid hne
        have H16 := Lib.hid (h16.below hb12)
        have HO3 := Lib.hid ((HO.out.below hb11).below hb12)
        have HP3 := Lib.hid ((HP.out.move hb11).move hb12)
        have HW3 := Lib.hid ((HW.out.trans (hb11.mono HW.out.size)).trans (hb12.mono (Nat.le_trans HW.out.size hb11.size)))
        have Hx12 := Lib.hid hx12
        have hsz12 : w.heap.size ≤ W12.heap.size := HW3.out.size
        have HW12 := Lib.hid hW12
        clear h16 hn16 hb11 hb12 hx12 hne HB HR HO HP HW p0 p1 hW12
        have hlen := Hlen.out
        have hps9 : ps.length ≤ 1000000 := by have := Hn.out; omega
        clear hlen
        go_wp2_with (at_builtin; rw [← HW12.out]; refine wpList_append_p rfl (.tmp 84) (.tmp 88) rfl w.heap.size gp (.slice (some ⟨gl, 0, none⟩) n cap) ps rfl HO3.out w11.heap.size A16 l16 c16 t.rest rfl Hx12.out H16.out Hne.out hps9 hsz12 ?_)
        intro v' w13 ho13 hb13 hbx
        have R1 := Lib.hid ho13
        have R2 := Lib.hid (hbx _ _ _ _ _ HP3.out)
        have R3 := Lib.hid (HW3.out.trans hb13)
        clear ho13 hb13 hbx HO3 HP3 HW3 H16
        go_wp2
        go_roundw
        case rel =>
          have hmj := Hm.out
          have hlen := Hlen.out
          have hkk := HI.out.kk
          have hi8 := HI.out.i8
          have hq1 := Hrl.out.1
          have hb1 := HQ.out.b1
          refine ⟨m + 1, d, kk - 1, ps ++ [t.rest], t.next, t.s, _, _, _, _, rfl, by go_num, ⟨R1.out, R2.out, R3.out, Hst.out, ?_, ?_, ?_, ?_, ?_, by omega, ?_, .inr ⟨by omega, t, rfl, rfl, ?_, Hgo.out, HI.out.st⟩, hd6⟩⟩
          · rw [List.length_append, hlen, hmj]; rfl
          · rw [Nat.add_sub_cancel, List.getD_eq_getElem?_getD, List.getElem?_append_left (by omega), ← List.getD_eq_getElem?_getD, hmj]
            exact HT.out.2
          · rw [List.getD_eq_getElem?_getD, List.getElem?_append_right (by omega), show m + 1 - ps.length = 0 by omega]
            rfl
          · rw [HI.out.seq, rsq_cons Hps.out (by omega), List.append_assoc]; rfl
          · show t.rest.length ≤ kk - 1; omega
          · show m + 1 + t.rest.length ≤ 8; omega
          · rw [Hd.out]; unfold RS.d; rw [Hlx.out.1, Hlx.out.2]
        case measure =>
          have hi8 := HI.out.i8
          have hmj := Hm.out
          simp [intOf]; omega
end Go.Proofs.YtgblfpkfapmlnaaGreat
