/- The walk of cylinderref01.DivMod. -/
import Derived.Test.YtgblfpkfapmlnaaGreatBth
import Derived.Test.YtgblfpkfapmlnaaGreatBua
namespace Go.Proofs.YtgblfpkfapmlnaaGreat
open Go.RowKit

theorem IRow.grown {w w' : World} {g : Nat} {zs : List Int} {row : Option Nat} (h : IRow w g zs) (hg : w.grownBy w' row) (hne : some g ≠ row) : IRow w' g zs := (hg.block g h.lt hne).trans h

/-- the rows of the division: the bits of the quotient, the remainder, the divisor -/
structure DvI (w wr : World) (gq gr gd la n b : Nat) (Q F : Nat → Int) : Prop where
  q : IRow wr gq (tab la Q)
  r : IRow wr gr (tab n F)
  d : ∀ j, j < n → wr.cell? ⟨gd, j, none⟩ = some (.int .i64 (wds b j))
  bw : Below w.heap.size w wr
section
variable {w wr : World} {gq gr gd la n b : Nat} {Q F : Nat → Int}
theorem DvI.drewN (h : DvI w wr gq gr gd la n b Q F) (nq : Nat) : DvI w (wr.drewN nq) gq gr gd la n b Q F := ⟨h.q, h.r, h.d, below_drewN h.bw _⟩
theorem DvI.congrQ (h : DvI w wr gq gr gd la n b Q F) {Q' : Nat → Int} (e : ∀ t, Q t = Q' t) : DvI w wr gq gr gd la n b Q' F := by rw [← funext e]; exact h
theorem DvI.congrF (h : DvI w wr gq gr gd la n b Q F) {F' : Nat → Int} (e : ∀ t, F t = F' t) : DvI w wr gq gr gd la n b Q F' := by rw [← funext e]; exact h
theorem DvI.congrF' (h : DvI w wr gq gr gd la n b Q F) {F' : Nat → Int} (e : ∀ t, t < n → F t = F' t) : DvI w wr gq gr gd la n b Q F' := ⟨h.q, by rw [← tab_ext e]; exact h.r, h.d, h.bw⟩
theorem IRow.far {w : World} {g g' : Nat} {zs : List Int} (h : IRow w g zs) (hne : g ≠ g') (i : Nat) (u : Value) : IRow (w.setCell ⟨g', i, none⟩ u) g zs := (heap_setCell_other w ⟨g', i, none⟩ g u hne).trans h
theorem DvI.setr (h : DvI w wr gq gr gd la n b Q F) (h1 : gq ≠ gr) (h2 : gd ≠ gr) (hb : w.heap.size ≤ gr) (i : Nat) (x : Int) : DvI w (wr.setCell ⟨gr, i, none⟩ (.int .i64 x)) gq gr gd la n b Q (fun t => if t = i then x else F t) :=
  ⟨h.q.far h1 _ _, by rw [← tab_set]; exact h.r.set_ i x, fun j hj => by
    rw [World.cell?_setCell_other _ _ _ _ (by intro e; injection e with e _; exact h2 e.symm)]; exact h.d j hj, h.bw.trans ((Below.refl _ _).setCell hb _)⟩
theorem DvI.setq (h : DvI w wr gq gr gd la n b Q F) (h1 : gq ≠ gr) (h2 : gd ≠ gq) (hb : w.heap.size ≤ gq) (i : Nat) (x : Int) : DvI w (wr.setCell ⟨gq, i, none⟩ (.int .i64 x)) gq gr gd la n b (fun t => if t = i then x else Q t) F :=
  ⟨by rw [← tab_set]; exact h.q.set_ i x, h.r.far (Ne.symm h1) _ _, fun j hj => by
    rw [World.cell?_setCell_other _ _ _ _ (by intro e; injection e with e _; exact h2 e.symm)]; exact h.d j hj, h.bw.trans ((Below.refl _ _).setCell hb _)⟩
end
/-- the bits of the quotient from the bit m on -/
def qm (a b m j : Nat) : Int := if m ≤ j then ((btn (a / b) j : Nat) : Int) else 0
theorem qm_zero {a b i : Nat} (h : btn (a / b) i = 0) (t : Nat) : qm a b (i + 1) t = qm a b i t := by
  unfold qm
  by_cases h1 : i + 1 ≤ t
  · rw [if_pos h1, if_pos (by omega)]
  · rw [if_neg h1]
    by_cases h2 : i ≤ t
    · rw [if_pos h2, show t = i by omega, h]; rfl
    · rw [if_neg h2]
theorem qm_one {a b i : Nat} (h : btn (a / b) i = 1) (t : Nat) : (if t = i then 1 else qm a b (i + 1) t) = qm a b i t := by
  unfold qm
  by_cases h0 : t = i
  · rw [if_pos h0, if_pos (by omega), h0, h]; rfl
  · rw [if_neg h0]
    by_cases h1 : i + 1 ≤ t
    · rw [if_pos h1, if_pos (by omega)]
    · rw [if_neg h1, if_neg (by omega)]

set_option maxRecDepth 100000 in
set_option maxHeartbeats 16000000 in
theorem bdivmod_any (A : Option Addr) (la ca a : Nat) (B : Option Addr) (lb cb b : Nat) (w : World) (ha : I64At w A la ca (bts a)) (hb : I64At w B lb cb (bts b)) (hma : la ≤ 800000) (hmb : lb ≤ 800000) (hb0 : 0 < b) :
    Calls Tryz.prog 70 #[.slice A la ca, .slice B lb cb] w fun e w' => ∃ A1 l1 c1 A2 l2 c2, e = .returned (.tuple #[.slice A1 l1 c1, .slice A2 l2 c2]) ∧ I64At w' A1 l1 c1 (bts (a / b)) ∧ Typ w' A1 l1 ∧ I64At w' A2 l2 c2 (bts (a % b)) ∧ Typ w' A2 l2 ∧ Below w.heap.size w w' := by
  obtain ⟨i0, hi0, hz0, hz1, hz2⟩ := info_parts info_int64
  have HA := Lib.hid ha
  have HB := Lib.hid hb
  have hla := ha.length
  have hlb := hb.length
  rw [bts_length] at hla hlb
  have halt := bln_lt a
  rw [hla] at halt
  obtain ⟨ly, hly⟩ : ∃ ly, ly = wln 15 b := ⟨_, rfl⟩
  have lyb : ly ≤ 55000 := by rw [hly]; unfold wln; omega
  have hby : b < 32768 ^ ly := by rw [hly]; exact lt_wln (s := 15) (by decide) b
  obtain ⟨n, hn⟩ : ∃ n, n = ly + 1 := ⟨_, rfl⟩
  have hnb : n ≤ 60000 := by omega
  have Hbn := Lib.hid (show 2 * b < 32768 ^ n by rw [hn, Nat.pow_succ]; omega)
  have Hbd0 := Lib.hid (show dgt 32768 b ly = 0 from dgt_zero hby)
  have n1 : (ly : Int) + 1 = (n : Int) := by omega
  have n2 : IntKind.i64.wrap (n : Int) = (n : Int) := IntWalk.i64_in _ (by omega)
  have n3 : IntKind.i64.wrap ((la : Int) - 1) = (la : Int) - 1 := IntWalk.i64_in _ (by omega)
  have HL := Lib.hid hly
  have Hn := Lib.hid hn
  have Halt := Lib.hid halt
  clear hly hla hlb ha hb hn hby halt
  go_enter Tryz.func70, Tryz.ntmps70
  go_wp2_with (at_make; refine wpList_make_int _ rfl (.tmp 19) (.tmp 19) rfl la rfl rfl (by omega) ?_)
  intro w1 hz hb1 hs1
  have s1 : w.heap.size < w1.heap.size := by omega
  clear hs1
  rw [tab_zero] at hz
  have HB1 := Lib.hid (HB.out.below hb1)
  have hb1s := hb1.size
  go_wp2_with fail
  refine (words_any _ _ _ b _ HB1.out (by omega)).mono ?_
  rintro e w2 ⟨rfl, hy, hb2⟩
  rw [← HL.out] at hy
  rw [← HL.out]
  have hlt2 := hy.lt
  have hz2' := hz.below hb2 (by omega)
  go_wp2_with (at_make; refine wpList_make_int _ rfl (.tmp 26) (.tmp 26) rfl n rfl rfl (by omega) ?_)
  intro w3 hz3 hb3 hs3
  have s3 : w2.heap.size < w3.heap.size := by omega
  clear hs3
  rw [tab_zero] at hz3
  have hq3 := hz2'.below hb3 (by omega)
  have hy3 := hy.below hb3 (by omega)
  have hb123 := (hb1.trans (hb2.mono hb1s)).trans (hb3.mono (by have := hb2.size; omega))
  have hown : w3.ownsRow w1.heap.size 3 1 (.slice (some ⟨w1.heap.size, 0, none⟩) ly ly) ly ((tab ly (wds b)).map (Value.int .i64)) :=
    ⟨by rw [List.length_map, tab_length, Nat.mul_one], .inr ⟨_, ly, _, rfl, Nat.le_refl _, hy3, Nat.le_refl _, by unfold maxLen; omega, by unfold icells; simp [tab_length], by unfold icells; rw [List.toList_toArray, Nat.mul_one]; exact List.take_of_length_le (by rw [List.length_map, tab_length]; exact Nat.le_refl _)⟩⟩
  have H3 := Lib.hid (And.intro hq3 (And.intro hz3 hb123))
  have Hown := Lib.hid hown
  have s2 := hb2.size
  clear hz hb1 hy hb2 hz2' hz3 hb3 hq3 hy3 hb123 hown
  go_wp2_with (at_builtin; go_loud (refine wpList_append_own_at _ rfl (.tmp 28) (.tmp 29) 48 rfl w1.heap.size 3 i0 (.int .i64 0) 1 8 Tryz.underlying48 hi0 hz0 hz1 hz2 rfl (by decide) _ ly _ rfl (World.ownsRow.alloc Hown.out _) ⟨w3.heap.size, 0, none⟩ 1 1 [.int .i64 0] rfl rfl (by intro j y hj; match j, hj with | 0, hj => simp at hj; subst hj; simp [Addr.add]) (by intro y hy; simp at hy; rw [hy]; rfl) (by unfold maxLen; omega) (by omega) (by simp; omega) ?_))
  intro v' w4 ho4 hg4 _ hblk
  obtain ⟨gd, cd, rfl, hgd, hgdl⟩ := World.ownsRow.form ho4 (by omega)
  rw [← Hn.out] at ho4 ⊢
  have hgd2 : gd = w1.heap.size ∨ gd = w3.heap.size + 1 := by
    rcases hblk with h | h
    · exact .inl (by simpa [Value.ownBlock] using h)
    · exact .inr (by simpa [Value.ownBlock] using h)
  obtain ⟨gq, hgq⟩ : ∃ gq, gq = w.heap.size := ⟨_, rfl⟩
  obtain ⟨gr, hgr⟩ : ∃ gr, gr = w2.heap.size := ⟨_, rfl⟩
  have hne1 : gq ≠ gr := by omega
  have hne2 : gd ≠ gr := by omega
  have hne3 : gd ≠ gq := by omega
  have hbq : w.heap.size ≤ gq := by omega
  have hbr : w.heap.size ≤ gr := by omega
  have hlb2 : (w3.alloc (Obj.cells #[Value.int .i64 0] 3)).heap.size = w3.heap.size + 1 := World.size_alloc _ _
  have hal : Below w3.heap.size w3 (w3.alloc (Obj.cells #[Value.int .i64 0] 3)) := (Below.refl _ _).alloc (Nat.le_refl _) _
  have hI4 : DvI w w4 gq gr gd la n b (qm a b la) (wds (a / 2 ^ la % b)) := by
    refine ⟨?_, ?_, fun j hj => ?_, ?_⟩
    · rw [hgq, tab_ext (G := fun _ => 0) (fun j hj => by unfold qm; rw [if_neg (by omega)])]
      exact (H3.out.1.below hal H3.out.1.lt).grown hg4 (by simp [Value.ownBlock]; omega)
    · rw [hgr, tab_ext (G := fun _ => 0) (fun j hj => by unfold wds; rw [Nat.div_eq_of_lt Halt.out, Nat.zero_mod]; unfold dgt; rw [Nat.zero_div]; rfl)]
      exact (H3.out.2.1.below hal H3.out.2.1.lt).grown hg4 (by simp [Value.ownBlock]; omega)
    · rw [World.ownsRow.cellAt ho4 j (by omega)]
      rcases Nat.lt_or_ge j ly with h1 | h1
      · rw [List.getElem?_append_left (by simp [tab_length, h1])]
        simp [tab, h1]
      · rw [List.getElem?_append_right (by simp [tab_length, h1]), List.length_map, tab_length, show j - ly = 0 by have := Hn.out; omega]
        have hjl : j = ly := by have := Hn.out; omega
        rw [hjl]
        unfold wds
        rw [Hbd0.out]; rfl
    · exact (H3.out.2.2.alloc H3.out.2.2.size _).grown hg4 (by have := H3.out.2.2.size; simp; omega) (fun j hj => by simp [Value.ownBlock] at hj; omega)
  have HI4 := Lib.hid hI4
  clear hI4 ho4 hg4 hblk hal hlb2 hgd2 hgd hgdl H3 Hown
  rw [← hgq, ← hgr]
  clear hgq hgr n1 n2
  go_wp2
  go_loopw [10] (fun s10 wr => ∃ m : Nat, m ≤ la ∧ s10 = .int .i64 ((m : Int) - 1) ∧ DvI w wr gq gr gd la n b (qm a b m) (wds (a / 2 ^ m % b))) (fun s10 _ => (intOf s10 + 1).toNat)
  case atStart => exact ⟨la, Nat.le_refl _, rfl, HI4.out⟩
  case round =>
    clear HI4 n3
    obtain ⟨m, hm, rfl, hI⟩ := hrel
    obtain ⟨wo, rfl⟩ : ∃ wo : World, wo = wr := ⟨_, rfl⟩
    have HI := Lib.hid hI
    cases m with
    | zero =>
      clear hI
      have hq := HI.out.q
      have hr := HI.out.r
      have hres : ptrim (tab la (qm a b 0)) = bts (a / b) := trim_bts (fun j hj => by
        rw [tab_length] at hj
        rw [tab_get _ hj]; unfold qm; rw [if_pos (Nat.zero_le _)]) (by rw [tab_length]; exact Nat.lt_of_le_of_lt (Nat.div_le_self _ _) Halt.out)
      rw [Nat.pow_zero, Nat.div_one] at hr
      have hat := hq.at_ (cap := la) (by rw [tab_length]; exact Nat.le_refl _)
      rw [tab_length] at hat
      have hrt := hr.at_ (cap := n) (by rw [tab_length]; exact Nat.le_refl _)
      rw [tab_length] at hrt
      have hmlt : a % b < 32768 ^ n := by have := Nat.mod_lt a hb0; have := Hbn.out; omega
      have Hmlt := Lib.hid hmlt
      have hpl : plen (tab la (qm a b 0)) ≤ la := by have := plen_le (tab la (qm a b 0)); rw [tab_length] at this; exact this
      have Hres := Lib.hid hres
      have Hty := Lib.hid (show Typ wo (some ⟨gq, 0, none⟩) (plen (tab la (qm a b 0))) from .inr ⟨_, _, _, rfl, hq⟩)
      have Hat := Lib.hid hat
      have Hrt := Lib.hid hrt
      clear hq hr hres hat hrt hmlt
      go_wp2_with fail
      refine (btrim_any _ _ _ _ _ Hat.out (by omega)).mono ?_
      rintro e w5 ⟨rfl, rfl⟩
      have hfin := Hat.out.take hpl
      rw [show (tab la (qm a b 0)).take (plen (tab la (qm a b 0))) = bts (a / b) from Hres.out] at hfin
      have Hfin := Lib.hid hfin
      clear hfin Hat
      go_wp2_with fail
      refine (bits_any _ n n (a % b) _ Hrt.out Hmlt.out (by omega)).mono ?_
      rintro e w6 ⟨A6, l6, c6, rfl, h6, ht6, hb6⟩
      have H6 := Lib.hid h6
      have Ht6 := Lib.hid ht6
      have Hf6 := Lib.hid (Hfin.out.below hb6)
      have Hty6 := Lib.hid (Hty.out.below hb6)
      have Hb6 := Lib.hid (HI.out.bw.trans (hb6.mono HI.out.bw.size))
      clear h6 ht6 hb6
      go_wp2
      exact bodyPost_ret (v := .tuple #[.slice (some ⟨gq, 0, none⟩) (plen (tab la (qm a b 0))) la, .slice A6 l6 c6]) (by simp [results, Tryz.results70, go_sem]) rfl ⟨_, _, _, _, _, _, rfl, Hf6.out, Hty6.out, H6.out, Ht6.out, Hb6.out⟩
    | succ i =>
      obtain ⟨R, hR⟩ : ∃ R, R = a / 2 ^ (i + 1) % b := ⟨_, rfl⟩
      have hRb : R < b := by rw [hR]; exact Nat.mod_lt _ hb0
      have hstep := quo_step (a := a) hb0 i
      rw [← hR] at hstep HI hI
      obtain ⟨c1, o1, rfl, hc1b, hc1⟩ := HA.out.at_ (by omega)
      have e1 := (hI.bw.cell (p := ⟨c1, o1 + i, none⟩) hc1b).trans (hc1 i (by omega))
      rw [bts_get] at e1
      have hbit := btn_lt a i
      obtain ⟨c0, hc0⟩ : ∃ c0, c0 = btn a i := ⟨_, rfl⟩
      rw [← hc0] at e1 hbit hstep
      obtain ⟨R1, hR1⟩ : ∃ R1, R1 = 2 * R + c0 := ⟨_, rfl⟩
      simp only [← hR1] at hstep
      have Hstep := Lib.hid hstep
      have hR1n : R1 < 32768 ^ n := by have := Hbn.out; omega
      have HR1n := Lib.hid hR1n
      have HRn := Lib.hid (show R < 32768 ^ n by have := Hbn.out; omega)
      have HR1 := Lib.hid hR1
      have k1 : ((i + 1 : Nat) : Int) - 1 = (i : Int) := by omega
      have k2 : (i : Int) < (la : Int) := by omega
      have k3 : (0 : Int) ≤ (i : Int) := by omega
      have k4 : IntKind.i64.wrap ((i : Int) - 1) = (i : Int) - 1 := IntWalk.i64_in _ (by omega)
      have hI0 : DvI w wo gq gr gd la n b (qm a b (i + 1)) (fun t => ((dbr 32768 R c0 0 t : Nat) : Int)) := hI.congrF (fun t => by rw [db_zero]; rfl)
      have HI0 := Lib.hid hI0
      rw [k1]
      clear hI hI0 HI hc1 hc0 hR hR1 hstep hR1n k1 hRb
      go_wp2
      go_loopw [11, 12] (fun s11 s12 wx => ∃ k c : Nat, k ≤ n ∧ s12 = .int .i64 (k : Int) ∧ s11 = .int .i64 (c : Int) ∧ c = dbT 32768 R c0 k / 32768 ^ k ∧ DvI w wx gq gr gd la n b (qm a b (i + 1)) (fun t => ((dbr 32768 R c0 k t : Nat) : Int))) (fun _ s12 _ => n - (intOf s12).toNat)
      case atStart => exact ⟨0, c0, Nat.zero_le _, rfl, rfl, by unfold dbT; rw [Nat.pow_zero, Nat.mod_one, Nat.div_one]; omega, HI0.out⟩
      case round =>
        clear HI0 e1
        obtain ⟨k, c, hk, rfl, rfl, hcc, hI⟩ := hrel
        obtain ⟨wx, rfl⟩ : ∃ wx : World, wx = wr := ⟨_, rfl⟩
        have HI := Lib.hid hI
        by_cases hkn : k < n
        · have er := hI.r.cell (i := k) (by rw [tab_length]; exact hkn)
          rw [tab_get _ hkn, show ((dbr 32768 R c0 k k : Nat) : Int) = ((dgt 32768 R k : Nat) : Int) by unfold dbr; rw [if_neg (by omega)]] at er
          have fr := hI.r.frozen k
          have xd := dgt_lt (B := 32768) (by decide) R k
          have xc := dbT_carry (B := 32768) (by decide) R k (c := c0) (by omega)
          rw [← hcc] at xc
          obtain ⟨d, hd⟩ : ∃ d, d = dgt 32768 R k := ⟨_, rfl⟩
          obtain ⟨v, hv⟩ : ∃ v, v = 2 * d + c := ⟨_, rfl⟩
          obtain ⟨st1, st2⟩ := db_step (B := 32768) (by decide) R c0 k (v := v) (by rw [hv, hd, hcc])
          rw [← hd] at er xd
          obtain ⟨vm, hvm⟩ : ∃ vm, vm = v % 32768 := ⟨_, rfl⟩
          obtain ⟨vd, hvd⟩ : ∃ vd, vd = v / 32768 := ⟨_, rfl⟩
          rw [← hvm] at st1
          rw [← hvd] at st2
          have St1 := Lib.hid st1
          have St2 := Lib.hid st2
          have i1 : IntKind.i64.wrap (2 * (d : Int)) = 2 * (d : Int) := IntWalk.i64_in _ (by omega)
          have i2 : IntKind.i64.wrap (2 * (d : Int) + (c : Int)) = (v : Int) := by rw [IntWalk.i64_in _ (by omega)]; omega
          have i2b : 2 * (d : Int) + (c : Int) = (v : Int) := by omega
          have i3 : IntKind.i64.wrap (v : Int) = (v : Int) := IntWalk.i64_in _ (by omega)
          have i4 : Int.tmod (v : Int) 32768 = (vm : Int) := by rw [hvm]; rfl
          have i5 : Int.tdiv (v : Int) 32768 = (vd : Int) := by rw [hvd]; rfl
          have i6 : IntKind.i64.wrap (vm : Int) = (vm : Int) := IntWalk.i64_in _ (by omega)
          have i7 : IntKind.i64.wrap (vd : Int) = (vd : Int) := IntWalk.i64_in _ (by omega)
          have t1 : (k : Int) < (n : Int) := by omega
          have HI2 := Lib.hid (((HI.out).setr hne1 hne2 hbr k (vm : Int)).congrF (fun t => (show (if t = k then (vm : Int) else ((dbr 32768 R c0 k t : Nat) : Int)) = ((dbr 32768 R c0 (k + 1) t : Nat) : Int) by
            rw [← St1.out t]
            split <;> rfl)))
          clear hI hcc hd hv hvm hvd st1 st2 xd xc
          go_wp2
          go_roundw
          case rel => exact ⟨k + 1, vd, by omega, by go_num, by go_num, St2.out, HI2.out⟩
          case measure => simp [intOf]; omega
        · have hkn2 : k = n := by omega
          subst hkn2
          have hI2 : DvI w wx gq gr gd la k b (qm a b (i + 1)) (wds R1) := hI.congrF' (fun t ht => by rw [db_full HRn.out t ht, ← HR1.out]; rfl)
          have HI2 := Lib.hid hI2
          obtain ⟨n9, hn9⟩ : ∃ n9, k = n9 + 1 := ⟨ly, Hn.out⟩
          have i1 : (k : Int) - 1 = (n9 : Int) := by omega
          have i2 : IntKind.i64.wrap (n9 : Int) = (n9 : Int) := IntWalk.i64_in _ (by omega)
          have Hn9 := Lib.hid hn9
          have hn9k : n9 < k := by omega
          have Hc0 := Lib.hid (show R1 / 32768 ^ (n9 + 1) = b / 32768 ^ (n9 + 1) by rw [← hn9, Nat.div_eq_of_lt HR1n.out, Nat.div_eq_of_lt (by have := Hbn.out; omega)])
          clear hI hI2 HI hcc hn9
          obtain ⟨n, rfl⟩ : ∃ n, n = k := ⟨_, rfl⟩
          go_wp2
          go_loopw [14] (fun s14 wz => ∃ k : Nat, k < n ∧ s14 = .int .i64 (k : Int) ∧ R1 / 32768 ^ (k + 1) = b / 32768 ^ (k + 1) ∧ DvI w wz gq gr gd la n b (qm a b (i + 1)) (wds R1)) (fun s14 _ => (intOf s14).toNat)
          case atStart => exact ⟨n9, hn9k, rfl, Hc0.out, HI2.out⟩
          case round =>
          clear HI2 i1 i2 Hc0 Hn9 hn9k
          obtain ⟨k, hk9, rfl, hcp, hI⟩ := hrel
          obtain ⟨wz, rfl⟩ : ∃ wz : World, wz = wr := ⟨_, rfl⟩
          have HI := Lib.hid hI
          have er := hI.r.cell (i := k) (by rw [tab_length]; exact hk9)
          rw [tab_get _ hk9] at er
          have ed := hI.d k hk9
          obtain ⟨y1, hy1⟩ : ∃ y1, y1 = dgt 32768 R1 k := ⟨_, rfl⟩
          obtain ⟨y2, hy2⟩ : ∃ y2, y2 = dgt 32768 b k := ⟨_, rfl⟩
          rw [show wds R1 k = (y1 : Int) by unfold wds; rw [hy1]] at er
          rw [show wds b k = (y2 : Int) by unfold wds; rw [hy2]] at ed
          have t5 : (k : Int) < (n : Int) := by omega
          clear hI
          rcases Nat.eq_zero_or_pos k with hk0 | hk0
          · subst hk0
            have hkk : 0 = 0 ∨ dgt 32768 R1 0 ≠ dgt 32768 b 0 := .inl rfl
            clear hk9
            have hiff := dcmp_end hcp hkk
            rw [← hy1, ← hy2] at hiff
            have HI3 := HI
            by_cases hRb : R1 < b
            · have t8 : (y1 : Int) < (y2 : Int) := by have := hiff.2 hRb; omega
              have Hq := Lib.hid (Hstep.out.1 hRb)
              clear hiff hcp hkk hy1 hy2
              go_wp2
              go_quiet (fail)
              go_wp2
              go_quiet (fail)
              go_wp2
              go_roundw
              case rel => exact ⟨i, by omega, by go_num, ((HI.out.drewN _).congrQ (fun t => qm_zero Hq.out.1 t)).congrF (fun t => by rw [Hq.out.2])⟩
              case measure => simp [intOf]
            · have t8 : ¬ (y1 : Int) < (y2 : Int) := by have := fun h => hRb (hiff.1 h); omega
              have t8d : decide (y1 < y2) = false := by rw [decide_eq_false_iff_not]; omega
              have t8n : ¬ y1 < y2 := by omega
              have hge : b ≤ R1 := by omega
              have Hq := Lib.hid (Hstep.out.2 hge)
              have Hge := Lib.hid hge
              have fq := HI.out.q.frozen i
              have eq0 := HI.out.q.cell (i := i) (by rw [tab_length]; omega)
              rw [tab_get _ (by omega)] at eq0
              clear hiff hcp hkk hge hy1 hy2
              go_wp2
              go_quiet (fail)
              go_wp2
              go_quiet (fail)
              go_wp2
              obtain ⟨Q2, hQ2⟩ : ∃ Q2 : Nat → Int, Q2 = fun t => if t = i then 1 else qm a b (i + 1) t := ⟨_, rfl⟩
              have HQ2 := Lib.hid (fun t => (show Q2 t = qm a b i t by rw [hQ2]; exact qm_one Hq.out.1 t))
              have HI4 := Lib.hid (fun nq => (show DvI w ((wz.drewN nq).setCell ⟨gq, i, none⟩ (.int .i64 1)) gq gr gd la n b Q2 (fun t => ((sbr 32768 R1 b 0 t : Nat) : Int)) from (((HI.out.drewN nq).setq hne1 hne3 hbq i 1).congrQ (fun t => by rw [hQ2])).congrF (fun t => by unfold sbr; rw [if_neg (by omega)]; rfl)))
              clear hQ2
              go_loopw [15, 16] (fun s15 s16 wy => ∃ j c : Nat, j ≤ n ∧ s16 = .int .i64 (j : Int) ∧ s15 = .int .i64 (c : Int) ∧ c = sbw 32768 R1 b j ∧ DvI w wy gq gr gd la n b Q2 (fun t => ((sbr 32768 R1 b j t : Nat) : Int))) (fun _ s16 _ => n - (intOf s16).toNat)
              case atStart => exact ⟨0, 0, Nat.zero_le _, rfl, rfl, by unfold sbw; rw [Nat.pow_zero, Nat.mod_one, Nat.mod_one]; rfl, HI4.out _⟩
              case round =>
                clear HI HI3 HI4 eq0 fq
                obtain ⟨j, c, hj, rfl, rfl, hcc, hI⟩ := hrel
                obtain ⟨wy, rfl⟩ : ∃ wy : World, wy = wr := ⟨_, rfl⟩
                have HI := Lib.hid hI
                by_cases hjn : j < n
                · have er := hI.r.cell (i := j) (by rw [tab_length]; exact hjn)
                  rw [tab_get _ hjn, show ((sbr 32768 R1 b j j : Nat) : Int) = ((dgt 32768 R1 j : Nat) : Int) by unfold sbr; rw [if_neg (by omega)]] at er
                  have fr := hI.r.frozen j
                  have ed := hI.d j hjn
                  obtain ⟨s, st1, st2, hs⟩ := sb_step (B := 32768) (by decide) Hge.out j
                  rw [← hcc] at st1 st2
                  have xa := dgt_lt (B := 32768) (by decide) R1 j
                  have xb := dgt_lt (B := 32768) (by decide) b j
                  have xs := dgt_lt (B := 32768) (by decide) (R1 - b) j
                  rw [← hs] at xs
                  have hc1 : c ≤ 1 := by rw [hcc]; unfold sbw; split <;> omega
                  obtain ⟨x1, hx1⟩ : ∃ x1, x1 = dgt 32768 R1 j := ⟨_, rfl⟩
                  obtain ⟨x2, hx2⟩ : ∃ x2, x2 = dgt 32768 b j := ⟨_, rfl⟩
                  rw [← hx1] at er st1 st2 xa
                  rw [← hx2] at st1 st2 xb
                  rw [show wds b j = (x2 : Int) by unfold wds; rw [hx2]] at ed
                  have Hs := Lib.hid hs
                  have i1 : IntKind.i64.wrap ((x1 : Int) - (x2 : Int)) = (x1 : Int) - (x2 : Int) := IntWalk.i64_in _ (by omega)
                  have i2 : IntKind.i64.wrap ((x1 : Int) - (x2 : Int) - (c : Int)) = (x1 : Int) - (x2 : Int) - (c : Int) := IntWalk.i64_in _ (by omega)
                  have t7 : (j : Int) < (n : Int) := by omega
                  clear hI hs hx1 hx2 hcc
                  by_cases hneg : x1 < x2 + c
                  · have hst := st1 (by omega)
                    have Hbn := Lib.hid hst.2
                    have t2 : ((x1 : Int) - (x2 : Int) - (c : Int) < 0) := by omega
                    have t3 : IntKind.i64.wrap ((x1 : Int) - (x2 : Int) - (c : Int) + 32768) = (s : Int) := by rw [IntWalk.i64_in _ (by omega)]; omega
                    have t3b : (x1 : Int) - (x2 : Int) - (c : Int) + 32768 = (s : Int) := by omega
                    have t5 : IntKind.i64.wrap (s : Int) = (s : Int) := IntWalk.i64_in _ (by omega)
                    clear hst st1 st2
                    go_wp2
                    go_quiet (fail)
                    go_wp2
                    have HI2 := Lib.hid (fun nq => (show DvI w ((wy.drewN nq).setCell ⟨gr, j, none⟩ (.int .i64 (s : Int))) gq gr gd la n b Q2 (fun t => ((sbr 32768 R1 b (j + 1) t : Nat) : Int)) from (((HI.out.drewN nq).setr hne1 hne2 hbr j (s : Int)).congrF (fun t => by
                      rw [← sbr_set 32768 R1 b j Hs.out t]
                      split <;> rfl))))
                    go_roundw
                    case rel => exact ⟨j + 1, 1, by omega, by go_num, by go_num, by rw [Hbn.out], HI2.out _⟩
                    case measure => simp [intOf]; omega
                  · have hst := st2 (by omega)
                    have Hbn := Lib.hid hst.2
                    have t2 : ¬ ((x1 : Int) - (x2 : Int) - (c : Int) < 0) := by omega
                    have t3 : (x1 : Int) - (x2 : Int) - (c : Int) = (s : Int) := by omega
                    have t2s : ¬ (s : Int) < 0 := by omega
                    clear t2
                    have t5 : IntKind.i64.wrap (s : Int) = (s : Int) := IntWalk.i64_in _ (by omega)
                    clear hst st1 st2
                    go_wp2
                    go_quiet (fail)
                    go_wp2
                    have HI2 := Lib.hid (fun nq => (show DvI w ((wy.drewN nq).setCell ⟨gr, j, none⟩ (.int .i64 (s : Int))) gq gr gd la n b Q2 (fun t => ((sbr 32768 R1 b (j + 1) t : Nat) : Int)) from (((HI.out.drewN nq).setr hne1 hne2 hbr j (s : Int)).congrF (fun t => by
                      rw [← sbr_set 32768 R1 b j Hs.out t]
                      split <;> rfl))))
                    go_roundw
                    case rel => exact ⟨j + 1, 0, by omega, by go_num, by go_num, by rw [Hbn.out], HI2.out _⟩
                    case measure => simp [intOf]; omega
                · have hjn2 : j = n := by omega
                  have hF := fun t (ht : t < n) => (show ((sbr 32768 R1 b j t : Nat) : Int) = wds (a / 2 ^ i % b) t by
                    unfold sbr wds
                    rw [if_pos (by omega), Hq.out.2])
                  have t7 : ¬ (j : Int) < (n : Int) := by omega
                  have HF := Lib.hid hF
                  clear hI hcc hF hjn2
                  go_wp2
                  go_roundw
                  case rel => exact ⟨i, by omega, by go_num, (HI.out.congrQ HQ2.out).congrF' HF.out⟩
                  case measure => simp [intOf]
          · have t6 : (0 : Int) < (k : Int) := by omega
            by_cases heq : y1 = y2
            · have t7 : ((y1 : Int) == (y2 : Int)) = true := by rw [heq]; simp
              have hcn := (dcmp_top hcp).1 (by rw [← hy1, ← hy2]; exact heq)
              have Hcn := Lib.hid hcn
              have i1 : IntKind.i64.wrap ((k : Int) - 1) = (k : Int) - 1 := IntWalk.i64_in _ (by omega)
              clear hcp hcn hy1 hy2 heq
              go_wp2
              go_quiet (fail)
              go_wp2
              go_roundw
              case rel => exact ⟨k - 1, by omega, by go_num, by rw [show k - 1 + 1 = k by omega]; exact Hcn.out, HI.out.drewN _⟩
              case measure => simp [intOf]; omega
            · have t7 : ((y1 : Int) == (y2 : Int)) = false := by rw [beq_eq_false_iff_ne]; omega
              have hkk : k = 0 ∨ dgt 32768 R1 k ≠ dgt 32768 b k := .inr (by rw [← hy1, ← hy2]; exact heq)
              clear heq
              clear hk9
              have hiff := dcmp_end hcp hkk
              rw [← hy1, ← hy2] at hiff
              have HI3 := HI
              by_cases hRb : R1 < b
              · have t8 : (y1 : Int) < (y2 : Int) := by have := hiff.2 hRb; omega
                have Hq := Lib.hid (Hstep.out.1 hRb)
                clear hiff hcp hkk hy1 hy2
                go_wp2
                go_quiet (fail)
                go_wp2
                go_quiet (fail)
                go_wp2
                go_roundw
                case rel => exact ⟨i, by omega, by go_num, ((HI.out.drewN _).congrQ (fun t => qm_zero Hq.out.1 t)).congrF (fun t => by rw [Hq.out.2])⟩
                case measure => simp [intOf]
              · have t8 : ¬ (y1 : Int) < (y2 : Int) := by have := fun h => hRb (hiff.1 h); omega
                have t8d : decide (y1 < y2) = false := by rw [decide_eq_false_iff_not]; omega
                have t8n : ¬ y1 < y2 := by omega
                have hge : b ≤ R1 := by omega
                have Hq := Lib.hid (Hstep.out.2 hge)
                have Hge := Lib.hid hge
                have fq := HI.out.q.frozen i
                have eq0 := HI.out.q.cell (i := i) (by rw [tab_length]; omega)
                rw [tab_get _ (by omega)] at eq0
                clear hiff hcp hkk hge hy1 hy2
                go_wp2
                go_quiet (fail)
                go_wp2
                go_quiet (fail)
                go_wp2
                obtain ⟨Q2, hQ2⟩ : ∃ Q2 : Nat → Int, Q2 = fun t => if t = i then 1 else qm a b (i + 1) t := ⟨_, rfl⟩
                have HQ2 := Lib.hid (fun t => (show Q2 t = qm a b i t by rw [hQ2]; exact qm_one Hq.out.1 t))
                have HI4 := Lib.hid (fun nq => (show DvI w ((wz.drewN nq).setCell ⟨gq, i, none⟩ (.int .i64 1)) gq gr gd la n b Q2 (fun t => ((sbr 32768 R1 b 0 t : Nat) : Int)) from (((HI.out.drewN nq).setq hne1 hne3 hbq i 1).congrQ (fun t => by rw [hQ2])).congrF (fun t => by unfold sbr; rw [if_neg (by omega)]; rfl)))
                clear hQ2
                go_loopw [15, 16] (fun s15 s16 wy => ∃ j c : Nat, j ≤ n ∧ s16 = .int .i64 (j : Int) ∧ s15 = .int .i64 (c : Int) ∧ c = sbw 32768 R1 b j ∧ DvI w wy gq gr gd la n b Q2 (fun t => ((sbr 32768 R1 b j t : Nat) : Int))) (fun _ s16 _ => n - (intOf s16).toNat)
                case atStart => exact ⟨0, 0, Nat.zero_le _, rfl, rfl, by unfold sbw; rw [Nat.pow_zero, Nat.mod_one, Nat.mod_one]; rfl, HI4.out _⟩
                case round =>
                  clear HI HI3 HI4 eq0 fq
                  obtain ⟨j, c, hj, rfl, rfl, hcc, hI⟩ := hrel
                  obtain ⟨wy, rfl⟩ : ∃ wy : World, wy = wr := ⟨_, rfl⟩
                  have HI := Lib.hid hI
                  by_cases hjn : j < n
                  · have er := hI.r.cell (i := j) (by rw [tab_length]; exact hjn)
                    rw [tab_get _ hjn, show ((sbr 32768 R1 b j j : Nat) : Int) = ((dgt 32768 R1 j : Nat) : Int) by unfold sbr; rw [if_neg (by omega)]] at er
                    have fr := hI.r.frozen j
                    have ed := hI.d j hjn
                    obtain ⟨s, st1, st2, hs⟩ := sb_step (B := 32768) (by decide) Hge.out j
                    rw [← hcc] at st1 st2
                    have xa := dgt_lt (B := 32768) (by decide) R1 j
                    have xb := dgt_lt (B := 32768) (by decide) b j
                    have xs := dgt_lt (B := 32768) (by decide) (R1 - b) j
                    rw [← hs] at xs
                    have hc1 : c ≤ 1 := by rw [hcc]; unfold sbw; split <;> omega
                    obtain ⟨x1, hx1⟩ : ∃ x1, x1 = dgt 32768 R1 j := ⟨_, rfl⟩
                    obtain ⟨x2, hx2⟩ : ∃ x2, x2 = dgt 32768 b j := ⟨_, rfl⟩
                    rw [← hx1] at er st1 st2 xa
                    rw [← hx2] at st1 st2 xb
                    rw [show wds b j = (x2 : Int) by unfold wds; rw [hx2]] at ed
                    have Hs := Lib.hid hs
                    have i1 : IntKind.i64.wrap ((x1 : Int) - (x2 : Int)) = (x1 : Int) - (x2 : Int) := IntWalk.i64_in _ (by omega)
                    have i2 : IntKind.i64.wrap ((x1 : Int) - (x2 : Int) - (c : Int)) = (x1 : Int) - (x2 : Int) - (c : Int) := IntWalk.i64_in _ (by omega)
                    have t7 : (j : Int) < (n : Int) := by omega
                    clear hI hs hx1 hx2 hcc
                    by_cases hneg : x1 < x2 + c
                    · have hst := st1 (by omega)
                      have Hbn := Lib.hid hst.2
                      have t2 : ((x1 : Int) - (x2 : Int) - (c : Int) < 0) := by omega
                      have t3 : IntKind.i64.wrap ((x1 : Int) - (x2 : Int) - (c : Int) + 32768) = (s : Int) := by rw [IntWalk.i64_in _ (by omega)]; omega
                      have t3b : (x1 : Int) - (x2 : Int) - (c : Int) + 32768 = (s : Int) := by omega
                      have t5 : IntKind.i64.wrap (s : Int) = (s : Int) := IntWalk.i64_in _ (by omega)
                      clear hst st1 st2
                      go_wp2
                      go_quiet (fail)
                      go_wp2
                      have HI2 := Lib.hid (fun nq => (show DvI w ((wy.drewN nq).setCell ⟨gr, j, none⟩ (.int .i64 (s : Int))) gq gr gd la n b Q2 (fun t => ((sbr 32768 R1 b (j + 1) t : Nat) : Int)) from (((HI.out.drewN nq).setr hne1 hne2 hbr j (s : Int)).congrF (fun t => by
                        rw [← sbr_set 32768 R1 b j Hs.out t]
                        split <;> rfl))))
                      go_roundw
                      case rel => exact ⟨j + 1, 1, by omega, by go_num, by go_num, by rw [Hbn.out], HI2.out _⟩
                      case measure => simp [intOf]; omega
                    · have hst := st2 (by omega)
                      have Hbn := Lib.hid hst.2
                      have t2 : ¬ ((x1 : Int) - (x2 : Int) - (c : Int) < 0) := by omega
                      have t3 : (x1 : Int) - (x2 : Int) - (c : Int) = (s : Int) := by omega
                      have t2s : ¬ (s : Int) < 0 := by omega
                      clear t2
                      have t5 : IntKind.i64.wrap (s : Int) = (s : Int) := IntWalk.i64_in _ (by omega)
                      clear hst st1 st2
                      go_wp2
                      go_quiet (fail)
                      go_wp2
                      have HI2 := Lib.hid (fun nq => (show DvI w ((wy.drewN nq).setCell ⟨gr, j, none⟩ (.int .i64 (s : Int))) gq gr gd la n b Q2 (fun t => ((sbr 32768 R1 b (j + 1) t : Nat) : Int)) from (((HI.out.drewN nq).setr hne1 hne2 hbr j (s : Int)).congrF (fun t => by
                        rw [← sbr_set 32768 R1 b j Hs.out t]
                        split <;> rfl))))
                      go_roundw
                      case rel => exact ⟨j + 1, 0, by omega, by go_num, by go_num, by rw [Hbn.out], HI2.out _⟩
                      case measure => simp [intOf]; omega
                  · have hjn2 : j = n := by omega
                    have hF := fun t (ht : t < n) => (show ((sbr 32768 R1 b j t : Nat) : Int) = wds (a / 2 ^ i % b) t by
                      unfold sbr wds
                      rw [if_pos (by omega), Hq.out.2])
                    have t7 : ¬ (j : Int) < (n : Int) := by omega
                    have HF := Lib.hid hF
                    clear hI hcc hF hjn2
                    go_wp2
                    go_roundw
                    case rel => exact ⟨i, by omega, by go_num, (HI.out.congrQ HQ2.out).congrF' HF.out⟩
                    case measure => simp [intOf]
end Go.Proofs.YtgblfpkfapmlnaaGreat
