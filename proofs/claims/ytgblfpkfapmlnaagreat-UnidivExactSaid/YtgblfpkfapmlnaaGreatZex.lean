/- The walk of cylinderref09.Exact. -/
import Derived.Test.YtgblfpkfapmlnaaGreatZmu
import Derived.Test.YtgblfpkfapmlnaaGreatBuc
import Derived.Deep.LoopGhost
namespace Go.Proofs.YtgblfpkfapmlnaaGreat
open Go Go.RowKit

theorem len_trim {p : List Int} (h : ptrim p = p) : plen p = p.length := by have := congrArg List.length h; rwa [ptrim_length] at this
/-- what holds in the loop -/
structure RX (f g : List Int) (X Y : Nat) (q r : List Int) : Prop where
  tr : ptrim r = r
  tq : ptrim q = q
  id : ∀ x, ev f x = ev q x * ev g x + ev r x
  rl : r.length ≤ f.length
  ql : q.length ≤ f.length + 1
  rb : Bd (X * (1 + Y) ^ (f.length - r.length)) r
  qb : Bd (X * (1 + Y) ^ f.length) q
  qz : ∀ k, k + g.length ≤ r.length → q.getD k 0 = 0
section
variable {f g q r : List Int} {X Y : Nat}
theorem RX.start (tf : ptrim f = f) (bf : Bd X f) : RX f g X Y [] f :=
  ⟨tf, rfl, fun x => by rw [ev_nil]; omega, Nat.le_refl _, by simp, fun k => by rw [Nat.sub_self, Nat.pow_zero, Nat.mul_one]; exact bf k, fun k => by simp, fun k _ => by simp⟩
/-- a quotient that exists divides the rest, too -/
theorem RX.rest (h : RX f g X Y q r) (g0 : plen g ≠ 0) (hg : ExGood f g) : ∃ p, ∀ x, ev r x = ev p x * ev g x := by
  refine ⟨padd (pexq f g) (psc (-1) q), fun x => ?_⟩
  have h1 := exgood_ev g0 hg x
  have h2 := h.id x
  rw [ev_padd, ev_psc, Int.add_mul]
  have h3 : -1 * ev q x * ev g x = -(ev q x * ev g x) := by rw [Int.mul_assoc]; omega
  omega
theorem RX.bad (h : RX f g X Y q r) (tg : ptrim g = g) (g0 : 0 < g.length) (hlr : g.length ≤ r.length) (hne : (r.getD (r.length - 1) 0).tmod (g.getD (g.length - 1) 0) ≠ 0) : ¬ ExGood f g := fun hg => by
  have lg := len_trim tg
  have lr := len_trim h.tr
  obtain ⟨p, hp⟩ := h.rest (by omega) hg
  have hk : ∀ k, r.getD k 0 = (polymul p g).getD k 0 := ev_inj fun x => by rw [ev_mul]; exact hp x
  have hpl : plen r = plen (polymul p g) := by
    have := congrArg List.length (ptrim_ext hk)
    rwa [ptrim_length, ptrim_length] at this
  have p0 : plen p ≠ 0 := fun e => by
    have : plen (polymul p g) = 0 := by
      have : plen (polymul p g) ≤ 0 := plen_le_of fun k _ => by rw [← hk]; exact (ev_inj (q := []) (fun x => by rw [hp, ev_congr (p := p) (q := []) (fun j => by rw [getD_ge_plen p j (by omega)]; simp) x, ev_nil, Int.zero_mul]) k).trans (by simp)
      omega
    omega
  have hm := plen_mul (f := p) (g := g) (by omega) (by omega)
  have h1 : r.getD (r.length - 1) 0 = plead p * g.getD (g.length - 1) 0 := by
    have h2 : plead (polymul p g) = r.getD (r.length - 1) 0 := by
      unfold plead
      rw [← hpl, lr, hk]
    rw [← h2, hm.2]
    unfold plead
    rw [lg]
  rw [h1] at hne
  exact hne (Int.mul_tmod_left _ _)
theorem RX.done (h : RX f g X Y q r) (tg : ptrim g = g) (g0 : 0 < g.length) (hlr : ¬ (g.length ≤ r.length)) : (r = [] → ExGood f g ∧ q = pexq f g) ∧ (r ≠ [] → ¬ ExGood f g) := by
  have lg := len_trim tg
  have lr := len_trim h.tr
  constructor
  · intro hr
    have hf : ∀ x, ev f x = ev q x * ev g x := fun x => by have := h.id x; rw [hr, ev_nil] at this; omega
    have hg : ExGood f g := exgood_prod hf (by omega)
    refine ⟨hg, ?_⟩
    have hm : ∀ k, q.getD k 0 = (pexq f g).getD k 0 := by
      have e : ∀ x, ev q x * ev g x = ev (pexq f g) x * ev g x := fun x => by rw [← hf, exgood_ev (by omega) hg]
      have hD : ∀ k, (polymul (padd q (psc (-1) (pexq f g))) g).getD k 0 = ([] : List Int).getD k 0 := ev_inj fun x => by
        rw [ev_mul, ev_padd, ev_psc, ev_nil, Int.add_mul, e]
        have : -1 * ev (pexq f g) x * ev g x = -(ev (pexq f g) x * ev g x) := by rw [Int.mul_assoc]; omega
        omega
      have hz : plen (padd q (psc (-1) (pexq f g))) = 0 := Classical.byContradiction fun hn => by
        have h1 := (plen_mul (f := padd q (psc (-1) (pexq f g))) (g := g) (by omega) (by omega)).1
        have h2 : plen (polymul (padd q (psc (-1) (pexq f g))) g) ≤ 0 := plen_le_of fun k _ => by rw [hD]; simp
        omega
      intro k
      have h1 := getD_ge_plen (padd q (psc (-1) (pexq f g))) k (by omega)
      rw [padd_get, psc_get] at h1
      omega
    refine eq_of_trim h.tq ?_ hm
    -- the quotient of the program has no leading zeros
    have hl := pexq_length f g
    have hq : plen (pexq f g) = plen q := by
      have := congrArg List.length (ptrim_ext hm)
      rw [ptrim_length, ptrim_length] at this
      exact this.symm
    have hqf : plen q = plen f - (plen g - 1) := by
      by_cases q0 : plen q = 0
      · have : plen f = 0 := by
          have : plen f ≤ 0 := plen_le_of fun k _ => by
            exact (ev_inj (q := []) (fun x => by rw [hf, ev_congr (p := q) (q := []) (fun j => by rw [getD_ge_plen q j (by omega)]; simp) x, ev_nil, Int.zero_mul]) k).trans (by simp)
          omega
        omega
      · have h1 := (plen_mul (f := q) (g := g) (by omega) (by omega)).1
        have h2 : plen f = plen (polymul q g) := by
          have := congrArg List.length (ptrim_ext (ev_inj (fun x => by rw [ev_mul]; exact hf x) : ∀ k, f.getD k 0 = (polymul q g).getD k 0))
          rwa [ptrim_length, ptrim_length] at this
        omega
    unfold ptrim
    rw [hq, hqf, ← hl, List.take_length]
  · intro hr hg
    obtain ⟨p, hp⟩ := h.rest (by omega) hg
    have hk : ∀ k, r.getD k 0 = (polymul p g).getD k 0 := ev_inj fun x => by rw [ev_mul]; exact hp x
    have hpl : plen r = plen (polymul p g) := by
      have := congrArg List.length (ptrim_ext hk)
      rwa [ptrim_length, ptrim_length] at this
    have r0 : plen r ≠ 0 := by rw [lr]; exact fun e => hr (List.eq_nil_of_length_eq_zero e)
    by_cases p0 : plen p = 0
    · have : plen (polymul p g) ≤ 0 := plen_le_of fun k _ => by rw [← hk]; exact (ev_inj (q := []) (fun x => by rw [hp, ev_congr (p := p) (q := []) (fun j => by rw [getD_ge_plen p j (by omega)]; simp) x, ev_nil, Int.zero_mul]) k).trans (by simp)
      omega
    · have := (plen_mul (f := p) (g := g) (by omega) (by omega)).1
      omega
/-- one step -/
theorem RX.step (h : RX f g X Y q r) (tg : ptrim g = g) (g0 : 0 < g.length) (hlr : g.length ≤ r.length) (bg : Bd Y g) {c : Int} (hc : c * g.getD (g.length - 1) 0 = r.getD (r.length - 1) 0) :
    c ≠ 0 ∧ c.natAbs ≤ X * (1 + Y) ^ f.length ∧ RX f g X Y (zps q (zup [c] (r.length - g.length))) (zps r (zsc (ptrim (polymul (zup [c] (r.length - g.length)) g)) (-1))) ∧ (zps r (zsc (ptrim (polymul (zup [c] (r.length - g.length)) g)) (-1))).length < r.length := by
  have lg := len_trim tg
  have lr := len_trim h.tr
  obtain ⟨n, hn⟩ : ∃ n, n = r.length - g.length := ⟨_, rfl⟩
  rw [← hn]
  have rt : r.getD (r.length - 1) 0 ≠ 0 := plen_lead r _ (by omega)
  have gt : g.getD (g.length - 1) 0 ≠ 0 := plen_lead g _ (by omega)
  have c0 : c ≠ 0 := fun e => by rw [e, Int.zero_mul] at hc; exact rt hc.symm
  obtain ⟨R, hR⟩ : ∃ R, R = zps r (zsc (ptrim (polymul (zup [c] n) g)) (-1)) := ⟨_, rfl⟩
  have hRk : ∀ k, R.getD k 0 = r.getD k 0 - c * (pxs g n).getD k 0 := fun k => by
    rw [hR, zps_get, zsc_get, ptrim_getD]
    have : (polymul (zup [c] n) g).getD k 0 = (psc c (pxs g n)).getD k 0 := ev_inj (fun x => by
      rw [ev_mul, ev_zup, ev_const, ev_psc, ev_pxs]; ac_rfl) k
    rw [this, psc_get]; omega
  have hRe : ∀ x, ev R x = ev r x - c * (x ^ n * ev g x) := fun x => by
    rw [ev_congr (q := padd r (psc (-c) (pxs g n))) (fun k => by rw [hRk, padd_get, psc_get, Int.neg_mul]; omega) x, ev_padd, ev_psc, ev_pxs, Int.neg_mul]; omega
  have hRt : ptrim R = R := by rw [hR]; exact zps_trim _ _
  have hRl : R.length < r.length := by
    rw [← len_trim hRt]
    have : plen R ≤ r.length - 1 := plen_le_of fun k hk => by
      rw [hRk, pxs_get, if_neg (by omega)]
      rcases Nat.lt_or_ge k r.length with h1 | h1
      · rw [show k = r.length - 1 by omega, show r.length - 1 - n = g.length - 1 by omega, hc]; omega
      · rw [getD_out r h1, getD_out g (by omega)]; omega
    omega
  rw [← hR]
  have hcb : c.natAbs ≤ X * (1 + Y) ^ (f.length - r.length) := by
    have h1 := h.rb (r.length - 1)
    rw [← hc, Int.natAbs_mul] at h1
    exact Nat.le_trans (Nat.le_mul_of_pos_right _ (Int.natAbs_pos.2 gt)) h1
  have hcb2 : c.natAbs ≤ X * (1 + Y) ^ f.length := Nat.le_trans hcb (Nat.mul_le_mul_left _ (Nat.pow_le_pow_right (by omega) (by omega)))
  have hz : ∀ k, (zup [c] n).getD k 0 = if k = n then c else 0 := fun k => by
    rw [zup_get]
    by_cases h1 : k < n
    · rw [if_pos h1, if_neg (by omega)]
    · rw [if_neg h1]
      by_cases h2 : k = n
      · subst h2; rw [if_pos rfl, Nat.sub_self]; rfl
      · rw [if_neg h2, getD_out _ (by simp; omega)]
  have hrl := h.rl
  refine ⟨c0, hcb2, ⟨hRt, zps_trim _ _, fun x => ?_, by omega, ?_, fun k => ?_, fun k => ?_, fun k hk => ?_⟩, hRl⟩
  · rw [ev_zps, ev_zup, ev_const, hRe, h.id x, Int.add_mul]
    have : x ^ n * c * ev g x = c * (x ^ n * ev g x) := by ac_rfl
    omega
  · have h1 := zps_len q (zup [c] n)
    have h2 := zup_len [c] n
    have h3 := h.ql
    simp only [List.length_singleton] at h2
    omega
  · rw [hRk]
    have h1 := h.rb k
    have h2 : (c * (pxs g n).getD k 0).natAbs ≤ X * (1 + Y) ^ (f.length - r.length) * Y := by
      rw [Int.natAbs_mul]
      refine Nat.mul_le_mul hcb ?_
      rw [pxs_get]
      split
      · simp
      · exact bg _
    have h3 := Int.natAbs_sub_le (r.getD k 0) (c * (pxs g n).getD k 0)
    have h4 : X * (1 + Y) ^ (f.length - r.length) * (1 + Y) ≤ X * (1 + Y) ^ (f.length - R.length) := by
      rw [Nat.mul_assoc, ← Nat.pow_succ]
      exact Nat.mul_le_mul_left _ (Nat.pow_le_pow_right (by omega) (by omega))
    rw [Nat.mul_add, Nat.mul_one] at h4
    omega
  · rw [zps_get, hz]
    by_cases h1 : k = n
    · subst h1
      rw [if_pos rfl, h.qz _ (by omega), Int.zero_add]; exact hcb2
    · rw [if_neg h1, Int.add_zero]; exact h.qb k
  · rw [zps_get, hz, if_neg (by omega), h.qz k (by omega)]; rfl
end

theorem z_one {w : World} {s : Int} {A : Option Addr} {l c : Nat} {z : Int} (h : ZAt w s A l c z) : ZP (w.alloc (zbox s A l c)) (some ⟨w.heap.size, 0, none⟩) 1 1 [z] :=
  ⟨rfl, .inr ⟨w.heap.size, 0, rfl, by simp, fun j hj => by
    have : j = 0 := by omega
    subst this
    exact ⟨s, A, l, c, by go_simp, by go_simp, h.below ((Below.refl _ _).alloc (Nat.le_refl _) _)⟩⟩, Nat.le_refl _⟩

/-- what Exact returns -/
def ZxRet (w : World) (f g : List Int) (e : Ending) (w' : World) : Prop := ∃ A1 l1 c1, (ExGood f g ∧ e = .returned (.tuple #[.slice A1 l1 c1, .bool true]) ∧ ZP w' A1 l1 c1 (pexq f g) ∧ Below w.heap.size w w') ∨ (¬ ExGood f g ∧ e = .returned (.tuple #[.slice A1 l1 c1, .bool false]) ∧ Below w.heap.size w w')

set_option maxRecDepth 100000 in
set_option maxHeartbeats 8000000 in
theorem zpexact_any (A : Option Addr) (la ca : Nat) (f : List Int) (B : Option Addr) (lb cb : Nat) (g : List Int) (w : World) (hf : ZP w A la ca f) (hg : ZP w B lb cb g) (tf : ptrim f = f) (tg : ptrim g = g) (h0 : 0 < lb) (hla : la ≤ 10) (hlb : lb ≤ 10) {X Y E : Nat} (bf : Bd X f) (bg : Bd Y g) (hX : 1 ≤ X) (hXY : 30 * (X * (1 + Y) ^ 10 * (1 + Y)) ≤ 2 ^ E) (hE : E ≤ 5000) :
    Calls Tryz.prog 17 #[.slice A la ca, .slice B lb cb] w (ZxRet w f g) := by
  have HF := Lib.hid hf
  have HG := Lib.hid hg
  have lfa := hf.length
  have lga := hg.length
  have Tg := Lib.hid tg
  have Bg := Lib.hid bg
  have HR0 := Lib.hid (RX.start (g := g) (Y := Y) tf bf)
  have hM : ∀ t, t ≤ 10 → X * (1 + Y) ^ t ≤ X * (1 + Y) ^ 10 * (1 + Y) := fun t ht => Nat.le_trans (Nat.mul_le_mul_left _ (Nat.pow_le_pow_right (by omega) ht)) (Nat.le_mul_of_pos_right _ (by omega))
  have hE2 : X * (1 + Y) ^ 10 * (1 + Y) ≤ 2 ^ E := by omega
  have Hzb := Lib.hid (fun (p : List Int) (t : Nat) (ht : t ≤ 10) (h : Bd (X * (1 + Y) ^ t) p) => (show ZB 400000 p from bd_zb2 h (Nat.le_trans (hM t ht) hE2) (by omega)))
  have Hzc := Lib.hid (fun (c : Int) (h : c.natAbs ≤ X * (1 + Y) ^ f.length) => (show bln c.natAbs ≤ 400000 from Nat.le_trans (bln_mono (Nat.le_trans h (Nat.le_trans (hM _ (by omega)) hE2))) (Nat.le_trans (bln_pow (Nat.le_refl _)) (by omega))))
  have hY1 : Y ≤ X * (1 + Y) ^ 10 * (1 + Y) := by
    have h1 : 1 ≤ X * (1 + Y) ^ 10 := Nat.mul_pos hX (Nat.pow_pos (by omega))
    exact Nat.le_trans (show Y ≤ 1 * (1 + Y) by omega) (Nat.mul_le_mul_right _ h1)
  have HYE := Lib.hid (Nat.le_trans hY1 hE2)
  have hXl : X * (1 + Y) ^ f.length ≤ X * (1 + Y) ^ 10 := Nat.mul_le_mul_left _ (Nat.pow_le_pow_right (by omega) (by omega))
  have HXE := Lib.hid (show X * (1 + Y) ^ f.length ≤ 2 ^ E from Nat.le_trans (hM _ (by omega)) hE2)
  have HXY := Lib.hid (show 30 * (X * (1 + Y) ^ f.length * Y) ≤ 2 ^ E from Nat.le_trans (Nat.mul_le_mul_left _ (Nat.mul_le_mul hXl (by omega))) hXY)
  have Hgz := Lib.hid (show ZB 400000 g from bd_zb2 bg HYE.out (by omega))
  have HE := Lib.hid hE
  clear hf hg tf tg bf bg hM hE2 hY1 hXl hXY hE hX
  go_enter Tryz.func17, Tryz.ntmps17
  go_wp2
  go_loopg [6, 7] la (fun k s6 s7 wr => ∃ (q r : List Int) (Aq : Option Addr) (lq cq : Nat) (Ar : Option Addr) (cr : Nat), s6 = .slice Aq lq cq ∧ s7 = .slice Ar k cr ∧ ZP wr Aq lq cq q ∧ ZP wr Ar k cr r ∧ RX f g X Y q r ∧ Below w.heap.size w wr)
  case atStart => exact ⟨[], f, none, 0, 0, A, ca, rfl, rfl, ZP.nil _ _ _, HF.out, HR0.out, Below.refl _ _⟩
  case round =>
    clear HR0
    obtain ⟨q, r, Aq, lq, cq, Ar, cr, rfl, rfl, hq, hr, hR, hbw⟩ := hrel
    have hws := hbw.size
    have lr := hr.length
    have lq' := hq.length
    have hrl := hR.rl
    have hql := hR.ql
    have Hq := Lib.hid hq
    have Hr := Lib.hid hr
    have HR := Lib.hid hR
    have Hbw := Lib.hid hbw
    obtain ⟨kk, rfl⟩ : ∃ kk, kk = gk := ⟨_, rfl⟩
    clear hq hr hR hbw
    by_cases hcmp : lb ≤ kk
    · have t1 : (lb : Int) ≤ (kk : Int) := by omega
      have t2 : (0 : Int) < (kk : Int) := by omega
      have kb : kk ≤ 10 := by omega
      obtain ⟨n, hn⟩ : ∃ n : Nat, n = kk - lb := ⟨_, rfl⟩
      have t3 : (kk : Int) - (lb : Int) = (n : Int) := by omega
      have t4 : IntKind.i64.wrap (n : Int) = (n : Int) := IntWalk.i64_in _ (by omega)
      obtain ⟨rt, hrt⟩ : ∃ rt, rt = r.getD (kk - 1) 0 := ⟨_, rfl⟩
      obtain ⟨gt, hgt⟩ : ∃ gt, gt = g.getD (lb - 1) 0 := ⟨_, rfl⟩
      have gt0 : gt ≠ 0 := by
        rw [hgt]
        exact plen_lead g _ (by have := len_trim Tg.out; omega)
      have Hrt := Lib.hid hrt
      have Hgt := Lib.hid hgt
      have rtb : bln rt.natAbs ≤ 400000 := by rw [hrt]; exact Hzb.out r _ (by omega) HR.out.rb _
      have gtb : bln gt.natAbs ≤ 400000 := by rw [hgt]; exact Hgz.out _
      have Hn := Lib.hid hn
      clear hrt hgt hn
      go_wp2_with fail
      refine (zlead_any _ _ _ r _ Hr.out (by omega) (by omega)).mono ?_
      rintro e w1 ⟨s1, A1, l1, c1, rfl, h1, hb1⟩
      rw [← Hrt.out] at h1
      have L1 : l1 ≤ 800000 := by have := h1.len; omega
      have Z1 := Lib.hid h1
      have Hg1 := Lib.hid ((HG.out.below Hbw.out).below hb1)
      have Hq1 := Lib.hid (Hq.out.below hb1)
      have Hr1 := Lib.hid (Hr.out.below hb1)
      have Hb1 := Lib.hid (Hbw.out.trans (hb1.mono hws))
      clear h1 hb1 Hq Hr Hbw
      go_wp2_with fail
      refine (zlead_any _ _ _ g _ Hg1.out (by omega) h0).mono ?_
      rintro e w2 ⟨s2, A2, l2, c2, rfl, h2, hb2⟩
      rw [← Hgt.out] at h2
      have L2 : l2 ≤ 800000 := by have := h2.len; omega
      have Z2 := Lib.hid h2
      have Z1b := Lib.hid (Z1.out.below hb2)
      have Hg2 := Lib.hid (Hg1.out.below hb2)
      have Hq2 := Lib.hid (Hq1.out.below hb2)
      have Hr2 := Lib.hid (Hr1.out.below hb2)
      have Hb2 := Lib.hid (Hb1.out.trans (hb2.mono Hb1.out.size))
      clear h2 hb2 Hg1 Hq1 Hr1 Hb1 Z1
      go_wp2_with fail
      refine (zquo_any _ _ _ _ rt _ _ _ _ gt _ Z1b.out Z2.out L1 L2 gt0).mono ?_
      rintro e w3 ⟨s3, A3, l3, c3, s4, A4, l4, c4, rfl, h3, h4, hb3⟩
      have hsg := h4.sign
      have X3 := Lib.hid (ZBox.make h3)
      have hbz : Below w3.heap.size w3 ((w3.alloc (zbox s3 A3 l3 c3)).alloc (zbox s4 A4 l4 c4)) := below_two w3 _ _ (Nat.le_refl _)
      have hba : Below (w3.alloc (zbox s3 A3 l3 c3)).heap.size (w3.alloc (zbox s3 A3 l3 c3)) ((w3.alloc (zbox s3 A3 l3 c3)).alloc (zbox s4 A4 l4 c4)) := (Below.refl _ _).alloc (Nat.le_refl _) _
      have X3b := Lib.hid (X3.out.move hba)
      have Z3 := Lib.hid (h3.below hbz)
      have hb3' := hb3.trans (hbz.mono hb3.size)
      have Hg3 := Lib.hid (Hg2.out.below hb3')
      have Hq3 := Lib.hid (Hq2.out.below hb3')
      have Hr3 := Lib.hid (Hr2.out.below hb3')
      have Hb3 := Lib.hid (Hb2.out.trans (hb3'.mono Hb2.out.size))
      clear h3 h4 hb3 hbz hba hb3' X3 Hg2 Hq2 Hr2 Hb2 Z1b Z2
      by_cases hm : rt.tmod gt = 0
      · have hs4 : s4 = 0 := by rw [hsg, hm]; rfl
        subst hs4
        have hcc : rt.tdiv gt * gt = rt := by have := Int.mul_tdiv_add_tmod rt gt; rw [hm, Int.add_zero, Int.mul_comm] at this; exact this
        obtain ⟨c, hc⟩ : ∃ c, c = rt.tdiv gt := ⟨_, rfl⟩
        rw [← hc] at hcc X3b Z3
        obtain ⟨c0, cb2, HS, hlt⟩ := HR.out.step Tg.out (by omega) (by omega) Bg.out (c := c) (by rw [lga, lr, ← Hrt.out, ← Hgt.out]; exact hcc)
        rw [lga, lr, ← Hn.out] at HS hlt
        have Hstep := Lib.hid HS
        obtain ⟨r2, hr2⟩ : ∃ r2, r2 = zps r (zsc (ptrim (polymul (zup [c] n) g)) (-1)) := ⟨_, rfl⟩
        have Hr2e := Lib.hid hr2
        have Hlt := Lib.hid (show r2.length < kk by rw [hr2]; exact hlt)
        have hcz := Hzc.out c cb2
        have zst : ∀ j, ((zup [c] n).getD j 0).natAbs ≤ X * (1 + Y) ^ f.length := fun j => by
          rw [zup_get]
          split
          · simp
          · by_cases h : j - n = 0
            · rw [h]; exact cb2
            · rw [getD_out _ (by simp; omega)]; simp
        have Zst := Lib.hid zst
        have stl : (zup [c] n).length = n + 1 := by unfold zup; rw [if_neg (by simp)]; simp
        have nb : n ≤ 10 := by have := Hn.out; omega
        have x0 := X3b.out.c0
        have x1 := X3b.out.c1
        clear hsg hm hc hcc HS hlt hr2 zst
        go_wp2_with fail
        have hbo : Below ((w3.alloc (zbox s3 A3 l3 c3)).alloc (zbox 0 A4 l4 c4)).heap.size ((w3.alloc (zbox s3 A3 l3 c3)).alloc (zbox 0 A4 l4 c4)) (((w3.alloc (zbox s3 A3 l3 c3)).alloc (zbox 0 A4 l4 c4)).alloc (zbox s3 A3 l3 c3)) := (Below.refl _ _).alloc (Nat.le_refl _) _
        have hone := z_one Z3.out
        simp only [World.size_alloc] at hone
        have H1 := Lib.hid hone
        have Hg4 := Lib.hid (Hg3.out.below hbo)
        have Hq4 := Lib.hid (Hq3.out.below hbo)
        have Hr4 := Lib.hid (Hr3.out.below hbo)
        have Hb4 := Lib.hid (Hb3.out.trans (hbo.mono Hb3.out.size))
        clear hone hbo Hg3 Hq3 Hr3 Hb3 Z3 X3b x0 x1
        refine (zup_any _ _ _ _ [c] n _ H1.out (by omega) (by omega)).mono ?_
        rintro e w5 ⟨A5, l5, c5, rfl, h5, _, hb5⟩
        have hl5 : l5 = n + 1 := by rw [← h5.length]; exact stl
        subst hl5
        have H5 := Lib.hid h5
        have Hg5 := Lib.hid (Hg4.out.below hb5)
        have Hq5 := Lib.hid (Hq4.out.below hb5)
        have Hr5 := Lib.hid (Hr4.out.below hb5)
        have Hb5 := Lib.hid (Hb4.out.trans (hb5.mono Hb4.out.size))
        clear h5 hb5 Hg4 Hq4 Hr4 Hb4 H1
        go_wp2_with fail
        refine (zpadd_any _ _ _ q _ _ _ (zup [c] n) _ Hq5.out H5.out (by omega) (by omega) ((Hzb.out q _ (by omega) HR.out.qb).mono (by decide)) ((Hzb.out _ f.length (by omega) Zst.out).mono (by decide))).mono ?_
        rintro e w6 ⟨A6, l6, c6, rfl, h6, _, hb6⟩
        have Hq6 := Lib.hid h6
        have H6 := Lib.hid (H5.out.below hb6)
        have Hg6 := Lib.hid (Hg5.out.below hb6)
        have Hr6 := Lib.hid (Hr5.out.below hb6)
        have Hb6 := Lib.hid (Hb5.out.trans (hb6.mono Hb5.out.size))
        clear h6 hb6 Hg5 Hq5 Hr5 Hb5 H5
        go_wp2_with fail
        refine (zpmul_any _ _ _ (zup [c] n) _ _ _ g _ H6.out Hg6.out (by omega) (by omega) (by omega) (X := X * (1 + Y) ^ f.length) (Y := Y) (E := E) Zst.out Bg.out HXE.out HYE.out HXY.out HE.out).mono ?_
        rintro e w7 ⟨A7, l7, c7, rfl, h7, _, hb7⟩
        have hl7 : l7 ≤ 30 := by
          have h8 := h7.length
          rw [ptrim_length] at h8
          have h9 := plen_le (polymul (zup [c] n) g)
          have h10 : (polymul (zup [c] n) g).length ≤ (zup [c] n).length + g.length := by
            unfold polymul
            split
            · exact Nat.zero_le _
            · rw [pmul_length]; omega
          omega
        have hbm : ∀ j, ((polymul (zup [c] n) g).getD j 0).natAbs ≤ 30 * (X * (1 + Y) ^ f.length * Y) := fun j => by
          have h11 := rmz_bd (f := zup [c] n) (g := g) Zst.out Bg.out g.length j
          rw [rmz_all, ptrim_getD] at h11
          exact Nat.le_trans h11 (Nat.mul_le_mul_right _ (by omega))
        have Hmz := Lib.hid (show ZB 400000 (ptrim (polymul (zup [c] n) g)) from bd_zb2 (M := 30 * (X * (1 + Y) ^ f.length * Y)) (fun j => by rw [ptrim_getD]; exact hbm j) HXY.out (by have := HE.out; omega))
        have H7 := Lib.hid h7
        have Hq7 := Lib.hid (Hq6.out.below hb7)
        have Hr7 := Lib.hid (Hr6.out.below hb7)
        have Hb7 := Lib.hid (Hb6.out.trans (hb7.mono Hb6.out.size))
        clear h7 hb7 Hg6 Hq6 Hr6 Hb6 H6 hbm
        go_wp2_with fail
        refine (zneg_any _ _ _ (ptrim (polymul (zup [c] n) g)) _ H7.out (by omega) Hmz.out).mono ?_
        rintro e w8 ⟨A8, l8, c8, rfl, h8, _, hb8⟩
        have hl8 : l8 ≤ 30 := by
          have h9 := h8.length
          have h10 := zsc_len (ptrim (polymul (zup [c] n) g)) (-1)
          have h11 := H7.out.length
          omega
        have Hmz2 := Lib.hid (show ZB 900000 (zsc (ptrim (polymul (zup [c] n) g)) (-1)) from fun j => by
          rw [zsc_get, Int.natAbs_mul, show (-1 : Int).natAbs = 1 from rfl, Nat.mul_one]
          exact Nat.le_trans (Hmz.out j) (by decide))
        have H8 := Lib.hid h8
        have Hq8 := Lib.hid (Hq7.out.below hb8)
        have Hr8 := Lib.hid (Hr7.out.below hb8)
        have Hb8 := Lib.hid (Hb7.out.trans (hb8.mono Hb7.out.size))
        clear h8 hb8 Hq7 Hr7 Hb7 H7
        go_wp2_with fail
        refine (zpadd_any _ _ _ r _ _ _ (zsc (ptrim (polymul (zup [c] n) g)) (-1)) _ Hr8.out H8.out (by omega) (by omega) ((Hzb.out r _ (by omega) HR.out.rb).mono (by decide)) Hmz2.out).mono ?_
        rintro e w9 ⟨A9, l9, c9, rfl, h9, _, hb9⟩
        rw [← Hr2e.out] at h9 Hstep
        have hl9 := h9.length
        have H9 := Lib.hid h9
        have Hq9 := Lib.hid (Hq8.out.below hb9)
        have Hb9 := Lib.hid (Hb8.out.trans (hb9.mono Hb8.out.size))
        clear h9 hb9 Hq8 Hr8 Hb8 H8
        go_wp2
        go_roundg l9
        case measure => have := Hlt.out; omega
        case rel => exact ⟨_, _, _, _, _, _, _, rfl, rfl, Hq9.out, H9.out, Hstep.out, Hb9.out⟩
      · have hs4 : s4 ≠ 0 := by
          rw [hsg]
          rcases sg_cases (rt.tmod gt) with ⟨_, e⟩ | ⟨h1, e⟩ | ⟨_, e⟩
          · rw [e]; decide
          · exact absurd h1 hm
          · rw [e]; decide
        have hs4b : (s4 == 0) = false := by rw [beq_eq_false_iff_ne]; exact hs4
        have Hbad := Lib.hid (HR.out.bad Tg.out (by omega) (by omega) (by rw [lga, lr, ← Hrt.out, ← Hgt.out]; exact hm))
        clear hsg hm
        go_wp2
        refine bodyPost_ret (v := .tuple #[.slice none 0 0, .bool false]) (by simp [results, Tryz.results17, go_sem]) rfl ⟨_, _, _, .inr ⟨Hbad.out, rfl, Hb3.out⟩⟩
    · have t1 : ¬ ((lb : Int) ≤ (kk : Int)) := by omega
      obtain ⟨d1, d2⟩ := HR.out.done Tg.out (by omega) (by omega)
      by_cases hk0 : kk = 0
      · have hre : r = [] := List.eq_nil_of_length_eq_zero (by omega)
        obtain ⟨g1, g2⟩ := d1 hre
        have Hfin := Lib.hid (And.intro g1 (show ZP wr Aq lq cq (pexq f g) by rw [← g2]; exact Hq.out))
        clear d1 d2 g1 g2 hre
        subst hk0
        go_wp2
        refine bodyPost_ret (v := .tuple #[.slice Aq lq cq, .bool true]) (by simp [results, Tryz.results17, go_sem]) rfl ⟨_, _, _, .inl ⟨Hfin.out.1, rfl, Hfin.out.2, Hbw.out⟩⟩
      · have hkz : ((kk : Int) == 0) = false := by rw [beq_eq_false_iff_ne]; omega
        have Hbad := Lib.hid (d2 (fun e => by rw [e] at lr; exact hk0 lr.symm))
        clear d1 d2
        go_wp2
        refine bodyPost_ret (v := .tuple #[.slice Aq lq cq, .bool false]) (by simp [results, Tryz.results17, go_sem]) rfl ⟨_, _, _, .inr ⟨Hbad.out, rfl, Hbw.out⟩⟩
end Go.Proofs.YtgblfpkfapmlnaaGreat
