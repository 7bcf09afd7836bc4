/- The walks of package natural, fourth part: schoolbook. -/
import Derived.Test.YtfpliceenjbclaaNatC
namespace Go.Proofs.Ytfpliceenjbclaa
open Go.RowKit

/-- One step of a row of the product: x * y + r + c = digit + BB * carry. -/
noncomputable def pLo (x y r c : Nat) : Nat := sLo (sLo (mLo x y) r 0) c 0
noncomputable def pHi1 (x y r : Nat) : Nat := mHi x y + sHi (mLo x y) r 0
noncomputable def pHi (x y r c : Nat) : Nat := pHi1 x y r + sHi (sLo (mLo x y) r 0) c 0

theorem mLo_lt (x y : Nat) : mLo x y < BB := Nat.mod_lt _ BB_pos
theorem m_eq (x y : Nat) : mLo x y + BB * mHi x y = x * y := Nat.mod_add_div _ _
theorem pLo_lt (x y r c : Nat) : pLo x y r c < BB := sLo_lt _ _ _

theorem p_eq1 (x y r : Nat) : sLo (mLo x y) r 0 + BB * pHi1 x y r = x * y + r := by
  have h1 := m_eq x y
  have h2 := s_eq (mLo x y) r 0
  unfold pHi1
  rw [Nat.mul_add]; omega
theorem p_eq (x y r c : Nat) : pLo x y r c + BB * pHi x y r c = x * y + r + c := by
  have h1 := p_eq1 x y r
  have h2 := s_eq (sLo (mLo x y) r 0) c 0
  unfold pHi pLo
  rw [Nat.mul_add]; omega

theorem sq_bound {B x y r c : Nat} (hx : x < B) (hy : y < B) (hr : r < B) (hc : c < B) : x * y + r + c < B * B := by
  obtain ⟨k, rfl⟩ : ∃ k, B = k + 1 := ⟨B - 1, by omega⟩
  have h1 : x * y ≤ k * k := Nat.mul_le_mul (by omega) (by omega)
  have h2 : (k + 1) * (k + 1) = k * k + k + k + 1 := by rw [Nat.mul_add, Nat.add_mul]; omega
  omega

theorem pHi_lt {x y r c : Nat} (hx : x < BB) (hy : y < BB) (hr : r < BB) (hc : c < BB) : pHi x y r c < BB := by
  have h1 := p_eq x y r c
  have h2 := sq_bound hx hy hr hc
  exact Nat.lt_of_mul_lt_mul_left (a := BB) (by omega)
theorem pHi1_lt {x y r : Nat} (hx : x < BB) (hy : y < BB) (hr : r < BB) : pHi1 x y r < BB := by
  have h1 := p_eq1 x y r
  have h2 := sq_bound hx hy hr BB_pos
  exact Nat.lt_of_mul_lt_mul_left (a := BB) (by omega)

/-- zeros from place k on -/
def Zf (k : Nat) (zs : List Nat) : Prop := ∀ m, k ≤ m → zs.getD m 0 = 0
theorem Zf.set {k i x : Nat} {zs : List Nat} (h : Zf k zs) (hi : i < k) : Zf k (zs.set i x) := by
  intro m hm
  have := h m hm
  rw [List.getD_eq_getElem?_getD] at *
  rw [List.getElem?_set_ne (by omega)]; exact this
theorem Zf.mono {k k' : Nat} {zs : List Nat} (h : Zf k zs) (hk : k ≤ k') : Zf k' zs := fun m hm => h m (by omega)
theorem Zf.replicate (k n : Nat) : Zf k (List.replicate n 0) := by
  intro m _
  rw [List.getD_eq_getElem?_getD, List.getElem?_replicate]; split <;> rfl

theorem row_arith (V P B lo hi x y r c T V' : Nat) (e : lo + B * hi = x * y + r + c) (h : V + P * c = T) (hs : V' + P * r = V + P * lo) : V' + P * B * hi = T + P * (x * y) := by
  have e2 : P * lo + P * B * hi = P * (x * y) + P * r + P * c := by
    rw [Nat.mul_assoc, ← Nat.mul_add, e, Nat.mul_add, Nat.mul_add]
  omega

/-- What holds of a row of the product when j digits of the second factor are done. -/
structure RowInv (w wr : World) (g i lb n x T : Nat) (db : List Nat) (j c : Nat) (zs : List Nat) : Prop where
  carry : c < BB
  z : DRow wr g zs
  len : zs.length = n
  wd : Wd zs
  zero : Zf (i + lb) zs
  sum : val zs + BB ^ (i + j) * c = T + BB ^ i * (x * val (db.take j))
  below : Below w.heap.size w wr

theorem RowInv.step {w wr : World} {g i lb n x T : Nat} {db : List Nat} {j c : Nat} {zs : List Nat} (h : RowInv w wr g i lb n x T db j c zs) (hx : x < BB) (hb : Wd db) (hj : j < lb) (hn : i + lb < n) (hg : w.heap.size ≤ g) :
    RowInv w (wr.setCell ⟨g, i + j, none⟩ (.int .u32 (pLo x (db.getD j 0) (zs.getD (i + j) 0) c : Nat))) g i lb n x T db (j + 1) (pHi x (db.getD j 0) (zs.getD (i + j) 0) c) (zs.set (i + j) (pLo x (db.getD j 0) (zs.getD (i + j) 0) c)) := by
  refine ⟨pHi_lt hx (hb.getD _) (h.wd.getD _) h.carry, h.z.set_ _ _, by rw [List.length_set, h.len], h.wd.set (pLo_lt _ _ _ _), h.zero.set (by omega), ?_, h.below.setCell (p := ⟨g, i + j, none⟩) hg _⟩
  have h1 := val_set zs (k := i + j) (by rw [h.len]; omega) (pLo x (db.getD j 0) (zs.getD (i + j) 0) c)
  have h2 := row_arith _ _ _ _ _ _ _ _ _ _ _ (p_eq x (db.getD j 0) (zs.getD (i + j) 0) c) h.sum h1
  rw [← Nat.add_assoc, Nat.pow_succ, h2, val_take_succ' db, Nat.mul_add x, Nat.mul_add (BB ^ i), Nat.add_assoc, Nat.pow_add, Nat.mul_assoc]
  congr 2
  rw [← Nat.mul_assoc (BB ^ j), ← Nat.mul_assoc x, Nat.mul_comm x (BB ^ j)]

/-- What holds of the product when i digits of the first factor are done. -/
structure SchInv (w wr : World) (g lb n : Nat) (da db : List Nat) (i : Nat) (zs : List Nat) : Prop where
  z : DRow wr g zs
  len : zs.length = n
  wd : Wd zs
  zero : Zf (i + lb) zs
  sum : val zs = val (da.take i) * val db
  below : Below w.heap.size w wr

theorem SchInv.start {w wr : World} {g lb n : Nat} {da db : List Nat} {i : Nat} {zs : List Nat} (h : SchInv w wr g lb n da db i zs) : RowInv w wr g i lb n (da.getD i 0) (val (da.take i) * val db) db 0 0 zs :=
  ⟨BB_pos, h.z, h.len, h.wd, h.zero, by simp [val, h.sum], h.below⟩

theorem RowInv.done {w wr : World} {g i lb n : Nat} {da db : List Nat} {c : Nat} {zs : List Nat} (h : RowInv w wr g i lb n (da.getD i 0) (val (da.take i) * val db) db lb c zs) (hb : db.length = lb) (hn : i + lb < n) (hg : w.heap.size ≤ g) :
    SchInv w (wr.setCell ⟨g, i + lb, none⟩ (.int .u32 (c : Nat))) g lb n da db (i + 1) (zs.set (i + lb) c) := by
  refine ⟨h.z.set_ _ _, by rw [List.length_set, h.len], h.wd.set h.carry, ?_, ?_, h.below.setCell (p := ⟨g, i + lb, none⟩) hg _⟩
  · intro m hm
    have := h.zero m (by omega)
    rw [List.getD_eq_getElem?_getD] at *
    rw [List.getElem?_set_ne (by omega)]; exact this
  · have h1 := val_set zs (k := i + lb) (by rw [h.len]; omega) c
    have h2 := h.sum
    have h3 := h.zero (i + lb) (Nat.le_refl _)
    rw [h3, Nat.mul_zero, Nat.add_zero] at h1
    rw [List.take_of_length_le (l := db) (by omega)] at h2
    rw [h1, h2, val_take_succ', Nat.add_mul, Nat.mul_assoc]

theorem SchInv.skip {w wr : World} {g lb n : Nat} {da db : List Nat} {i : Nat} {zs : List Nat} (h : SchInv w wr g lb n da db i zs) (h0 : da.getD i 0 = 0) : SchInv w wr g lb n da db (i + 1) zs :=
  ⟨h.z, h.len, h.wd, h.zero.mono (by omega), by rw [h.sum, val_take_succ', h0]; simp, h.below⟩

set_option maxHeartbeats 2000000 in
theorem schoolbook_any (A B : Option Addr) (la ca lb cb : Nat) (da db : List Nat) (w : World) (ha : DigAt w A la ca da) (hb : DigAt w B lb cb db) (hm : la + lb ≤ 8796093022208) :
    Calls Try.prog 172 #[.slice A la ca, .slice B lb cb] w fun e w' => ∃ g zs, e = .returned (.slice (some ⟨g, 0, none⟩) (la + lb) (la + lb)) ∧ DRow w' g zs ∧ zs.length = la + lb ∧ Wd zs ∧ val zs = val da * val db ∧ w.heap.size ≤ g ∧ Below w.heap.size w w' := by
  have hla := Lib.hid ha.length
  have hlb := Lib.hid hb.length
  go_enter Try.func172, Try.ntmps172
  go_wp2_with (at_make; refine wpList_make_dig _ rfl (.tmp 19) (.tmp 19) rfl (la + lb) rfl rfl (by omega) ?_)
  intro w1 hz hb1 hsz
  have hinv : SchInv w w1 w.heap.size lb (la + lb) da db 0 (List.replicate (la + lb) 0) :=
    ⟨hz, by simp, Wd.replicate _, Zf.replicate _ _, by simp [val, val_replicate], hb1⟩
  clear hz hb1 hsz
  go_wp2
  go_loopw [23] (fun i wr => ∃ k zs, k ≤ la ∧ i = .int .i64 (k : Nat) ∧ SchInv w wr w.heap.size lb (la + lb) da db k zs) (fun i _ => la - (intOf i).toNat)
  case atStart => exact ⟨0, _, Nat.zero_le _, rfl, hinv⟩
  case round =>
    clear hinv
    obtain ⟨i, zs, hi, rfl, hI⟩ := hrel
    have HI := Lib.hid hI
    clear hI
    by_cases hlt : i < la
    · obtain ⟨b1, o1, rfl, hb1, hc1⟩ := ha.at_ (by omega)
      have hcell1 := (HI.out.below.cell (p := ⟨b1, o1 + i, none⟩) hb1).trans (hc1 i hlt)
      have Ha := Lib.hid ha
      clear ha hc1
      by_cases h0 : ((da[i]?.getD 0 : Nat) : Int) = 0
      · have h0' : (((da[i]?.getD 0 : Nat) : Int) == 0) = true := by rw [h0]; rfl
        have H0 := Lib.hid h0
        clear h0
        go_wp2
        go_roundw
        case rel => exact ⟨i + 1, zs, by omega, by go_num, HI.out.skip (by rw [List.getD_eq_getElem?_getD]; have := H0.out; omega)⟩
        case measure => simp [intOf]; omega
      · have h0' : (((da[i]?.getD 0 : Nat) : Int) == 0) = false := by rw [beq_eq_false_iff_ne]; exact h0
        clear h0
        have hcap : i < la + lb := by omega
        have hd1 : da[i]?.getD 0 < 4294967296 := by have := Ha.out.wd.getD i; rwa [List.getD_eq_getElem?_getD, BB_eq] at this
        have hR := HI.out.start
        have HR := Lib.hid hR
        clear hR
        go_wp2
        go_loopw [9, 35] (fun c j wq => ∃ j' c' zs', j' ≤ lb ∧ j = .int .i64 (j' : Nat) ∧ c = .int .u32 (c' : Nat) ∧ RowInv w wq w.heap.size i lb (la + lb) (da.getD i 0) (val (da.take i) * val db) db j' c' zs') (fun _ j _ => lb - (intOf j).toNat)
        case atStart => exact ⟨0, 0, zs, Nat.zero_le _, rfl, rfl, HR.out⟩
        case round =>
          clear HR
          obtain ⟨j, c, zs', hj, rfl, rfl, hI2⟩ := hrel
          have HI2 := Lib.hid hI2
          clear hI2
          by_cases hlt2 : j < lb
          · obtain ⟨b2, o2, rfl, hb2, hc2⟩ := hb.at_ (by omega)
            have hcell2 := (HI2.out.below.cell (p := ⟨b2, o2 + j, none⟩) hb2).trans (hc2 j hlt2)
            have hd2 : db[j]?.getD 0 < 4294967296 := by have := hb.wd.getD j; rwa [List.getD_eq_getElem?_getD, BB_eq] at this
            have hzc := HI2.out.z.cell (i := i + j) (by rw [HI2.out.len]; omega)
            have hzf := HI2.out.z.frozen (i + j)
            have hd3 : zs'[i + j]?.getD 0 < 4294967296 := by have := HI2.out.wd.getD (i + j); rwa [List.getD_eq_getElem?_getD, BB_eq] at this
            have hd4 : c < 4294967296 := by have := HI2.out.carry; rwa [BB_eq] at this
            have hm1 : mLo (da[i]?.getD 0) (db[j]?.getD 0) < 4294967296 := by have := mLo_lt (da[i]?.getD 0) (db[j]?.getD 0); rwa [BB_eq] at this
            have hm2 : sLo (mLo (da[i]?.getD 0) (db[j]?.getD 0)) (zs'[i + j]?.getD 0) 0 < 4294967296 := by have := sLo_lt (mLo (da[i]?.getD 0) (db[j]?.getD 0)) (zs'[i + j]?.getD 0) 0; rwa [BB_eq] at this
            have hm3 : mHi (da[i]?.getD 0) (db[j]?.getD 0) + sHi (mLo (da[i]?.getD 0) (db[j]?.getD 0)) (zs'[i + j]?.getD 0) 0 < 4294967296 := by
              have := pHi1_lt (x := da[i]?.getD 0) (y := db[j]?.getD 0) (r := zs'[i + j]?.getD 0) (by rw [BB_eq]; exact hd1) (by rw [BB_eq]; exact hd2) (by rw [BB_eq]; exact hd3)
              rwa [BB_eq] at this
            have hm4 : mHi (da[i]?.getD 0) (db[j]?.getD 0) + sHi (mLo (da[i]?.getD 0) (db[j]?.getD 0)) (zs'[i + j]?.getD 0) 0 + sHi (sLo (mLo (da[i]?.getD 0) (db[j]?.getD 0)) (zs'[i + j]?.getD 0) 0) c 0 < 4294967296 := by
              have := pHi_lt (x := da[i]?.getD 0) (y := db[j]?.getD 0) (r := zs'[i + j]?.getD 0) (c := c) (by rw [BB_eq]; exact hd1) (by rw [BB_eq]; exact hd2) (by rw [BB_eq]; exact hd3) (by rw [BB_eq]; exact hd4)
              rwa [BB_eq] at this
            have Hb := Lib.hid hb
            clear hb hc2
            go_wp2_with fail
            refine (mul32_any _ _ _ hd1 hd2).mono ?_
            rintro e w2 ⟨rfl, rfl⟩
            go_wp2_with fail
            refine (add32_any _ _ 0 _ hm1 hd3 (by omega)).mono ?_
            rintro e w2 ⟨rfl, rfl⟩
            go_wp2_with fail
            refine (add32_any _ _ 0 _ hm2 hd4 (by omega)).mono ?_
            rintro e w2 ⟨rfl, rfl⟩
            go_wp2
            go_roundw
            case rel =>
              have := HI2.out.step (by rw [List.getD_eq_getElem?_getD, BB_eq]; exact hd1) Hb.out.wd hlt2 (by omega) (Nat.le_refl _)
              simp only [List.getD_eq_getElem?_getD] at this ⊢
              exact ⟨j + 1, _, _, by omega, by go_num, rfl, this⟩
            case measure => simp [intOf]; omega
          · have hk2 : lb = j := by omega
            subst hk2
            have hzc := HI2.out.z.cell (i := i + lb) (by rw [HI2.out.len]; omega)
            have hzf := HI2.out.z.frozen (i + lb)
            go_wp2
            go_roundw
            case rel => exact ⟨i + 1, _, by omega, by go_num, HI2.out.done hlb.out (by omega) (Nat.le_refl _)⟩
            case measure => simp [intOf]; omega
    · have hk2 : la = i := by omega
      subst hk2
      go_wp2
      go_ret
      refine ⟨_, _, rfl, HI.out.z, HI.out.len, HI.out.wd, ?_, Nat.le_refl _, HI.out.below⟩
      rw [HI.out.sum, List.take_of_length_le (by rw [hla.out]; exact Nat.le_refl _)]
end Go.Proofs.Ytfpliceenjbclaa
