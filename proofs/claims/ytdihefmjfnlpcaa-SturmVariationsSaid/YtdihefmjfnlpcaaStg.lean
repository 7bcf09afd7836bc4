/- The walks of cylinderlaw15.changes and of sturm.Variations. -/
import Derived.Test.YtdihefmjfnlpcaaStf
namespace Go.Proofs.Ytdihefmjfnlpcaa
open Go.RowKit

set_option maxHeartbeats 2000000 in
theorem lawchg_any (A : Option Addr) (len cap : Nat) (S : List Int) (w : World) (h : I64At w A len cap S) (hS : Sgn1 S) (hl : len ≤ 1000000) :
    Calls Try.prog 19 #[.slice A len cap] w fun e w' => e = .returned (.int .i64 ((vst S len).1 : Nat)) ∧ Below w.heap.size w w' := by
  go_enter Try.func19, Try.ntmps19
  go_wp2
  go_loopw [3, 4, 5] (fun c l i wr => ∃ (k cc : Nat) (ll : Int), k ≤ len ∧ c = .int .i64 (cc : Int) ∧ l = .int .i64 ll ∧ i = .int .i64 (k : Int) ∧ vst S k = (cc, ll) ∧ Below w.heap.size w wr) (fun _ _ i _ => len - (intOf i).toNat)
  case atStart => exact ⟨0, 0, 0, Nat.zero_le _, rfl, rfl, rfl, rfl, Below.refl _ _⟩
  case round =>
    obtain ⟨k, cc, ll, hk, rfl, rfl, rfl, hst, hbw⟩ := hrel
    have hle := vst_le S k
    rw [hst] at hle
    obtain ⟨hcc, hll⟩ := hle
    simp only at hcc hll
    have Hst := Lib.hid hst
    clear hst
    by_cases hlt : k < len
    · obtain ⟨b, off, rfl, hb, hc⟩ := h.at_ (by omega)
      have e0 := (hbw.cell (p := ⟨b, off + k, none⟩) hb).trans (hc k hlt)
      have hkl : (k : Int) < (len : Int) := by omega
      have Hbn := Lib.hid hbw
      obtain ⟨s, hsv⟩ : ∃ s, s = S.getD k 0 := ⟨_, rfl⟩
      rw [← hsv] at e0
      have hcase := hS k
      rw [← hsv] at hcase
      have Hsv : Hid (sg (S.getD k 0) = s) := Lib.hid (by rw [← hsv]; rcases hcase with rfl | rfl | rfl <;> rfl)
      clear hsv hc h hbw
      rcases hcase with rfl | rfl | rfl
      · rcases hll with rfl | rfl | rfl
        · have Hn := Lib.hid (vst_same Hst.out Hsv.out (by omega) (by omega))
          go_wp2
          go_roundw
          case rel => exact ⟨k + 1, _, _, by omega, rfl, rfl, by go_num, Hn.out, Hbn.out⟩
          case measure => simp [intOf]; omega
        · have Hn := Lib.hid (vst_same Hst.out Hsv.out (by omega) (by omega))
          go_wp2
          go_roundw
          case rel => exact ⟨k + 1, _, _, by omega, rfl, rfl, by go_num, Hn.out, Hbn.out⟩
          case measure => simp [intOf]; omega
        · have Hn := Lib.hid (vst_turn Hst.out Hsv.out (by omega) (by omega))
          go_wp2
          go_roundw
          case rel => exact ⟨k + 1, _, _, by omega, by go_num, rfl, by go_num, Hn.out, Hbn.out⟩
          case measure => simp [intOf]; omega
      · have Hn := Lib.hid (vst_zero Hst.out Hsv.out)
        go_wp2
        go_roundw
        case rel => exact ⟨k + 1, _, _, by omega, rfl, rfl, by go_num, Hn.out, Hbn.out⟩
        case measure => simp [intOf]; omega
      · rcases hll with rfl | rfl | rfl
        · have Hn := Lib.hid (vst_turn Hst.out Hsv.out (by omega) (by omega))
          go_wp2
          go_roundw
          case rel => exact ⟨k + 1, _, _, by omega, by go_num, rfl, by go_num, Hn.out, Hbn.out⟩
          case measure => simp [intOf]; omega
        · have Hn := Lib.hid (vst_same Hst.out Hsv.out (by omega) (by omega))
          go_wp2
          go_roundw
          case rel => exact ⟨k + 1, _, _, by omega, rfl, rfl, by go_num, Hn.out, Hbn.out⟩
          case measure => simp [intOf]; omega
        · have Hn := Lib.hid (vst_same Hst.out Hsv.out (by omega) (by omega))
          go_wp2
          go_roundw
          case rel => exact ⟨k + 1, _, _, by omega, rfl, rfl, by go_num, Hn.out, Hbn.out⟩
          case measure => simp [intOf]; omega
    · have hk2 : len = k := by omega
      subst hk2
      have hkl : ¬ (len : Int) < (len : Int) := by omega
      have Hb := Lib.hid hbw
      clear hbw h
      go_wp2
      go_ret
      exact ⟨by rw [Hst.out]; rfl, Hb.out⟩

/-- the sign at z/q -/
def sat (z : Int) (q : Nat) (f : List Int) : Int := sg (sval f (z.tdiv (Nat.gcd z.natAbs q)) ((q / Nat.gcd z.natAbs q : Nat) : Int))
theorem sat_unit (z : Int) (q : Nat) (f : List Int) : sat z q f = -1 ∨ sat z q f = 0 ∨ sat z q f = 1 := by
  unfold sat
  rcases sg_cases (sval f (z.tdiv (Nat.gcd z.natAbs q)) ((q / Nat.gcd z.natAbs q : Nat) : Int)) with ⟨_, e⟩ | ⟨_, e⟩ | ⟨_, e⟩ <;> omega

/-- a number at which polynomials are evaluated -/
structure AtOK (z : Int) (q : Nat) : Prop where
  u : U64 z.natAbs
  v : q < BB
  pos : 0 < q
  fz : Fit (z.tdiv (Nat.gcd z.natAbs q))
  fq : Fit ((q / Nat.gcd z.natAbs q : Nat) : Int)
/-- a polynomial that is evaluated there -/
structure PoOK (z : Int) (q : Nat) (p : List Int) : Prop where
  fit : FitP p
  len : p.length ≤ 1000000
  ok : ScOK p (z.tdiv (Nat.gcd z.natAbs q)) ((q / Nat.gcd z.natAbs q : Nat) : Int)

theorem var1_any (A : Option Addr) (len cap : Nat) (p : List Int) (gm : Nat) (n : Bool) (N : Option Addr) (nl nc : Nat) (B : Option Addr) (m d q : Nat) (z : Int) (w : World) (h : PolyAt w A len cap p) (hR : RBox w gm n N nl nc B m d z q) (ha : AtOK z q) (hp : PoOK z q p) :
    Calls Try.prog 41 #[.slice A len cap, .pointer (some ⟨gm, 0, none⟩)] w fun e w' => e = .returned (.int .i64 (sat z q p)) ∧ Below w.heap.size w w' := by
  have r0 := hR.c0
  have r1 := hR.c1
  have r2 := hR.c2
  have HR := Lib.hid hR
  clear hR
  go_enter Try.func41, Try.ntmps41
  go_wp2_with fail
  refine (signat_any ikAt _ _ _ _ _ _ _ _ _ _ _ _ _ _ h hp.fit (by rw [← h.length]; exact hp.len) HR.out.hz HR.out.hq ha.u ha.v ha.pos hp.ok ha.fz ha.fq).mono ?_
  rintro e w1 ⟨rfl, hb⟩
  have Hb := Lib.hid hb
  clear h hb HR r0 r1 r2
  go_wp2
  go_ret
  exact ⟨rfl, Hb.out⟩

set_option maxHeartbeats 400000 in
theorem vars_any (A : Option Addr) (len cap : Nat) (ps : List (List Int)) (n : Bool) (N : Option Addr) (nl nc : Nat) (B : Option Addr) (m d q : Nat) (z : Int) (w : World) (h : PLst w A len cap ps) (hz : IntN w n N nl nc z) (hq : NatN w B m d q) (ha : AtOK z q) (hs : ∀ p ∈ ps, PoOK z q p) (hl : len ≤ 1000000) :
    Calls Try.prog 18 #[.slice A len cap, .agg #[.bool n, .slice N nl nc, .slice B m d]] w fun e w' => e = .returned (.int .i64 ((vst (ps.map (sat z q)) len).1 : Nat)) ∧ Below w.heap.size w w' := by
  have hba : Below w.heap.size w (w.alloc (rbox n N nl nc B m d)) := (Below.refl _ _).alloc (Nat.le_refl _) _
  have h1 := h.below hba
  have hlen := h.length
  have HR := Lib.hid (RBox.make hz hq)
  have Hba := Lib.hid hba
  have hcall : ∀ k, k < len → ∀ Aj lj cj w', PolyAt w' Aj lj cj (ps.getD k []) → Below (w.alloc (rbox n N nl nc B m d)).heap.size (w.alloc (rbox n N nl nc B m d)) w' → Calls Try.prog 41 #[.slice Aj lj cj, .pointer (some ⟨w.heap.size, 0, none⟩)] w' fun e w'' => e = .returned (.int .i64 ((ps.map (sat z q)).getD k 0)) ∧ Below w'.heap.size w' w'' := by
    intro k hk Aj lj cj w' hp hb
    have hmem : ps.getD k [] ∈ ps := by rw [List.getD_eq_getElem?_getD, List.getElem?_eq_getElem (by omega)]; exact List.getElem_mem _
    rw [mapF_get _ _ (by omega)]
    exact var1_any _ _ _ _ _ _ _ _ _ _ _ _ _ _ _ hp (HR.out.move hb) ha (hs _ hmem)
  clear h hba
  go_enter Try.func18, Try.ntmps18
  go_wp2_with fail
  refine (changesV_any _ (ps.map (sat z q)) _ _ _ ps _ h1 (sgnMap _ (sat_unit z q) ps) hl hcall).mono ?_
  rintro e w1 ⟨rfl, hb⟩
  have Hb := Lib.hid (Hba.out.trans (hb.mono Hba.out.size))
  clear h1 hb hcall
  go_wp2
  go_ret
  exact ⟨rfl, Hb.out⟩
end Go.Proofs.Ytdihefmjfnlpcaa
