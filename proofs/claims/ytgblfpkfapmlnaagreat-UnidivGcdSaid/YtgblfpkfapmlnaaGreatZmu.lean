/- The walk of cylinderref08.Mul. -/
import Derived.Test.YtgblfpkfapmlnaaGreatBto
import Derived.Test.YtgblfpkfapmlnaaGreatExh
namespace Go.Proofs.YtgblfpkfapmlnaaGreat
open Go.RowKit

theorem ev_zps (f g : List Int) (x : Int) : ev (zps f g) x = ev f x + ev g x := by
  rw [← ev_padd]; exact ev_congr (fun k => by rw [zps_get, padd_get]) x
theorem ev_zsc (f : List Int) (c x : Int) : ev (zsc f c) x = c * ev f x := by
  rw [← ev_psc]; exact ev_congr (fun k => by rw [zsc_get, psc_get, Int.mul_comm]) x
theorem ev_zup (f : List Int) (n : Nat) (x : Int) : ev (zup f n) x = x ^ n * ev f x := by
  rw [← ev_pxs]; exact ev_congr (fun k => by rw [zup_get, pxs_get]) x
/-- the first k summands of the product -/
def rmz (f g : List Int) : Nat → List Int
  | 0 => []
  | k + 1 => zps (rmz f g k) (zup (zsc f (g.getD k 0)) k)
theorem rmz_ev (f g : List Int) (x : Int) : ∀ k, ev (rmz f g k) x = evn (fun i => g.getD i 0) x k * ev f x
  | 0 => by simp [rmz, evn, ev_nil]
  | k + 1 => by
    rw [rmz, ev_zps, ev_zup, ev_zsc, rmz_ev f g x k, evn, Int.add_mul]
    congr 1
    ac_rfl
theorem rmz_trim (f g : List Int) : ∀ k, ptrim (rmz f g k) = rmz f g k
  | 0 => rfl
  | _ + 1 => zps_trim _ _
/-- the product of the reference is the product -/
theorem rmz_all (f g : List Int) : rmz f g g.length = ptrim (polymul f g) := by
  refine eq_of_trim (rmz_trim _ _ _) (ptrim_ptrim _) fun k => ?_
  refine ev_inj (fun x => ?_) k
  rw [rmz_ev, ev_trim, ev_mul, Int.mul_comm]; rfl
theorem rmz_len (f g : List Int) : ∀ k, (rmz f g k).length ≤ f.length + k
  | 0 => Nat.zero_le _
  | k + 1 => by
    rw [rmz]
    have h1 := zps_len (rmz f g k) (zup (zsc f (g.getD k 0)) k)
    have h2 := rmz_len f g k
    have h3 := zup_len (zsc f (g.getD k 0)) k
    have h4 := zsc_len f (g.getD k 0)
    omega
theorem rmz_bd {f g : List Int} {X Y : Nat} (hf : Bd X f) (hg : Bd Y g) : ∀ k, Bd (k * (X * Y)) (rmz f g k)
  | 0, j => by simp [rmz]
  | k + 1, j => by
    rw [rmz, zps_get]
    have h1 := rmz_bd hf hg k j
    have h2 : ((zup (zsc f (g.getD k 0)) k).getD j 0).natAbs ≤ X * Y := by
      rw [zup_get]
      split
      · simp
      · rw [zsc_get, Int.natAbs_mul]; exact Nat.mul_le_mul (hf _) (hg _)
    have h3 := Int.natAbs_add_le ((rmz f g k).getD j 0) ((zup (zsc f (g.getD k 0)) k).getD j 0)
    rw [Nat.succ_mul]
    omega
theorem bd_zb2 {M E K : Nat} {f : List Int} (h : Bd M f) (hM : M ≤ 2 ^ E) (hE : E + 1 ≤ K) : ZB K f := fun j => Nat.le_trans (bln_mono (Nat.le_trans (h j) hM)) (Nat.le_trans (bln_pow (Nat.le_refl _)) hE)

set_option maxRecDepth 100000 in
set_option maxHeartbeats 4000000 in
theorem zpmul_any (A : Option Addr) (la ca : Nat) (f : List Int) (B : Option Addr) (lb cb : Nat) (g : List Int) (w : World) (hf : ZP w A la ca f) (hg : ZP w B lb cb g) (h0 : 0 < la) (hla : la ≤ 30) (hlb : lb ≤ 30) {X Y E : Nat} (bf : Bd X f) (bg : Bd Y g) (hX : X ≤ 2 ^ E) (hY : Y ≤ 2 ^ E) (hXY : 30 * (X * Y) ≤ 2 ^ E) (hE : E ≤ 5000) :
    Calls Tryz.prog 23 #[.slice A la ca, .slice B lb cb] w (PRet w (ptrim (polymul f g)) False) := by
  have HF := Lib.hid hf
  have HG := Lib.hid hg
  have hgl := hg.length
  have hfl := hf.length
  have Hres := Lib.hid (show rmz f g lb = ptrim (polymul f g) by rw [← hgl]; exact rmz_all f g)
  have Zf := Lib.hid (bd_zb2 (K := 400000) bf hX (by omega))
  have Zg := Lib.hid (bd_zb2 (K := 400000) bg hY (by omega))
  have Hlen := Lib.hid (fun k => rmz_len f g k)
  have Hbd := Lib.hid (fun k (hk : k ≤ lb) => (show ZB 900000 (rmz f g k) from bd_zb2 (fun j => Nat.le_trans (rmz_bd bf bg k j) (Nat.mul_le_mul_right _ (show k ≤ 30 by omega))) hXY (by omega)))
  have Hup := Lib.hid (fun k => (show ZB 900000 (zup (zsc f (g.getD k 0)) k) from bd_zb2 (M := 30 * (X * Y)) (fun j => by
    rw [zup_get]
    split
    · simp
    · rw [zsc_get, Int.natAbs_mul]
      exact Nat.le_trans (Nat.mul_le_mul (bf _) (bg _)) (by omega)) hXY (by omega)))
  clear hf hg bf bg hX hY hXY hE
  go_enter Tryz.func23, Tryz.ntmps23
  go_wp2
  go_loopw [5, 6] (fun s5 s6 wr => ∃ (k : Nat) (Ao : Option Addr) (lo co : Nat), k ≤ lb ∧ s6 = .int .i64 (k : Int) ∧ s5 = .slice Ao lo co ∧ ZP wr Ao lo co (rmz f g k) ∧ Below w.heap.size w wr) (fun _ s6 _ => lb - (intOf s6).toNat)
  case atStart => exact ⟨0, _, _, _, Nat.zero_le _, rfl, rfl, ZP.nil _ _ _, Below.refl _ _⟩
  case round =>
    obtain ⟨k, Ao, lo, co, hk, rfl, rfl, ho, hbw⟩ := hrel
    have hlo : lo ≤ 60 := by have := ho.length; have := Hlen.out k; omega
    have Ho := Lib.hid ho
    have Hbw := Lib.hid hbw
    clear ho
    by_cases hlt : k < lb
    · obtain ⟨c1, o1, rfl, hb1, hc1⟩ := HG.out.at_ (by omega)
      obtain ⟨s1, A1, l1, d1, e0, e1, hz1⟩ := hc1 k hlt
      have e0 := (hbw.cell (p := ⟨c1, o1 + k * 2, none⟩) hb1).trans e0
      have e1 := (hbw.cell (p := ⟨c1, o1 + k * 2 + 1, none⟩) hb1).trans e1
      have Z1 := Lib.hid (hz1.below hbw)
      have t1 : (k : Int) < (lb : Int) := by omega
      have L1 : l1 ≤ 400000 := by have := hz1.len; have := Zg.out k; omega
      have Hstep := Lib.hid (show zps (rmz f g k) (zup (zsc f (g.getD k 0)) k) = rmz f g (k + 1) from rfl)
      obtain ⟨gk, hgk⟩ : ∃ gk, gk = g.getD k 0 := ⟨_, rfl⟩
      rw [← hgk] at Z1 Hstep
      have HupK := Hup.out k
      rw [← hgk] at HupK
      have HupK2 := Lib.hid HupK
      have lsc := zsc_len f gk
      have lup := zup_len (zsc f gk) k
      clear hc1 hz1 hbw hgk HupK
      go_wp2_with fail
      refine (zscale_any _ _ _ f _ _ _ _ gk _ (HF.out.below Hbw.out) Z1.out (by omega) Zf.out L1).mono ?_
      rintro e w2 ⟨A2, l2, c2, rfl, h2, hn2, hb2⟩
      obtain ⟨b2, o2, rfl⟩ := hn2 h0
      have hl2 : l2 ≤ 30 := by rw [← h2.length]; omega
      have H2 := Lib.hid h2
      have Ho2 := Lib.hid (Ho.out.below hb2)
      have Hb2 := Lib.hid (Hbw.out.trans (hb2.mono Hbw.out.size))
      clear h2 hn2 hb2 Z1 Ho e0 e1
      go_wp2_with fail
      refine (zup_any _ _ _ _ (zsc f gk) k _ H2.out (by omega) (by omega)).mono ?_
      rintro e w3 ⟨A3, l3, c3, rfl, h3, _, hb3⟩
      have hl3 : l3 ≤ 60 := by rw [← h3.length]; omega
      have H3 := Lib.hid h3
      have Ho3 := Lib.hid (Ho2.out.below hb3)
      have Hb3 := Lib.hid (Hb2.out.trans (hb3.mono Hb2.out.size))
      clear h3 hb3 Ho2 Hb2 H2
      go_wp2_with fail
      refine (zpadd_any _ _ _ (rmz f g k) _ _ _ (zup (zsc f gk) k) _ Ho3.out H3.out (by omega) (by omega) (Hbd.out k (by omega)) HupK2.out).mono ?_
      rintro e w4 ⟨A4, l4, c4, rfl, h4, _, hb4⟩
      rw [Hstep.out] at h4
      have H4 := Lib.hid h4
      have Hb4 := Lib.hid (Hb3.out.trans (hb4.mono Hb3.out.size))
      clear h4 hb4 Ho3 Hb3 H3
      go_wp2
      go_roundw
      case rel => exact ⟨k + 1, _, _, _, by omega, by go_num, rfl, H4.out, Hb4.out⟩
      case measure => simp [intOf]; omega
    · have hkM : k = lb := by omega
      subst hkM
      have t1 : ¬ (k : Int) < (k : Int) := by omega
      clear hbw
      go_wp2
      go_ret
      exact ⟨_, _, _, rfl, by rw [← Hres.out]; exact Ho.out, fun h => h.elim, Hbw.out⟩
end Go.Proofs.YtgblfpkfapmlnaaGreat
