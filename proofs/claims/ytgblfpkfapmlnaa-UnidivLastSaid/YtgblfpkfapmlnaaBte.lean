/- The walks of cylinderref01.Of, To and Is. -/
import Derived.Test.YtgblfpkfapmlnaaBtd
import Derived.Deep.AppendLies
namespace Go.Proofs.Ytgblfpkfapmlnaa
open Go.RowKit

set_option maxRecDepth 100000 in
set_option maxHeartbeats 4000000 in
theorem bof_any (A : Option Addr) (len cap : Nat) (ds : List Nat) (w : World) (h : DigAt w A len cap ds) (hm : len ≤ 30000) :
    Calls Try.prog 75 #[.slice A len cap] w fun e w' => ∃ A' l' c', e = .returned (.slice A' l' c') ∧ I64At w' A' l' c' (bts (val ds)) ∧ Typ w' A' l' ∧ Below w.heap.size w w' := by
  obtain ⟨i0, hi, hz0, hz1, hz2⟩ := info_parts info_int64
  have HA := Lib.hid h
  obtain ⟨N, hN⟩ : ∃ N, N = 32 * len := ⟨_, rfl⟩
  obtain ⟨v, hv⟩ : ∃ v, v = val ds := ⟨_, rfl⟩
  have Hlt := Lib.hid (show v < 2 ^ N by
    have := val_lt h.wd
    rw [h.length, BBp, ← Nat.pow_mul, ← hN, ← hv] at this
    exact this)
  have Hd := Lib.hid (fun q => (show ds.getD q 0 = dgt (2 ^ 32) v q by rw [← BBp, hv]; exact val_digit h.wd q))
  have n1 : (32 : Int) * (len : Int) = (N : Int) := by omega
  have n2 : IntKind.i64.wrap (N : Int) = (N : Int) := IntWalk.i64_in _ (by omega)
  have hNb : N ≤ 960000 := by omega
  have Hw := Lib.hid (fun k (hk : k < N) => (show k / 32 < len by omega))
  obtain ⟨Q, hQ0⟩ : ∃ Q, Q = tabQ v N := ⟨_, rfl⟩
  have hQ := Lib.hid hQ0
  have hQl := Lib.hid (show Q.length = N by rw [hQ0, tabQ_length])
  rw [← hv]
  clear hN h hQ0 hv
  go_enter Try.func75, Try.ntmps75
  go_wp2
  go_loopw [3, 4] (fun s3 s4 wr => ∃ k : Nat, k ≤ N ∧ s4 = .int .i64 (k : Int) ∧ OwnI 3 wr w.heap.size s3 k Q ∧ Below w.heap.size w wr) (fun _ s4 _ => N - (intOf s4).toNat)
  case atStart => exact ⟨0, Nat.zero_le _, rfl, World.ownsRow_nil _ _ _ _, Below.refl _ _⟩
  case round =>
    obtain ⟨k, hk, rfl, hown, hbw⟩ := hrel
    have Hown := Lib.hid hown
    have Hbw := Lib.hid hbw
    clear hown
    by_cases hlt : k < N
    · have hq := Hw.out k hlt
      obtain ⟨c1, o1, rfl, hb1, hc1⟩ := HA.out.at_ (by omega)
      have e1 := (hbw.cell (p := ⟨c1, o1 + k / 32, none⟩) hb1).trans (hc1 (k / 32) hq)
      rw [Hd.out] at e1
      have hbit := bit_of (s := 32) (by decide) v k
      have hr := Nat.mod_lt k (show 32 > 0 by decide)
      have hx2 := dgt_lt (two_pow_pos 32) v (k / 32)
      rw [show (2 : Nat) ^ 32 = 4294967296 from rfl] at hx2
      obtain ⟨q, hqq⟩ : ∃ q, q = k / 32 := ⟨_, rfl⟩
      obtain ⟨r, hrr⟩ : ∃ r, r = k % 32 := ⟨_, rfl⟩
      rw [← hqq] at e1 hq hx2
      rw [← hqq, ← hrr] at hbit
      obtain ⟨x, hx⟩ : ∃ x, x = dgt (2 ^ 32) v q := ⟨_, rfl⟩
      rw [← hx] at e1 hbit
      have hx3 : x < 4294967296 := by rw [hx]; exact hx2
      rw [← hrr] at hr
      obtain ⟨s, hs⟩ : ∃ s, s = x / 2 ^ r := ⟨_, rfl⟩
      have hsx : s ≤ x := by rw [hs]; exact Nat.div_le_self _ _
      obtain ⟨b, hbb⟩ : ∃ b, b = btn v k := ⟨_, rfl⟩
      rw [← hs, ← hbb] at hbit
      have hb2 : b < 2 := by rw [hbb]; exact btn_lt _ _
      have Hg := Lib.hid (show Q[k]?.getD 0 = (b : Int) by rw [hQ.out, tabQ_get _ _ hlt, hbb])
      have i1 : Int.tdiv (k : Int) 32 = (q : Int) := by rw [hqq]; rfl
      have i2 : Int.tmod (k : Int) 32 = (r : Int) := by rw [hrr]; rfl
      have i3 : IntKind.i64.wrap (q : Int) = (q : Int) := IntWalk.i64_in _ (by omega)
      have i4 : IntKind.u64.wrap (r : Int) = (r : Int) := IntWalk.u64_in _ (by omega)
      have i5 : (x : Int) / 2 ^ r = (s : Int) := by rw [hs]; simp
      have i6 : IntKind.u32.wrap (s : Int) = (s : Int) := IntWalk.u32_in _ (by omega)
      have i7 : Int.tmod (s : Int) 2 = (b : Int) := by rw [← hbit]; rfl
      have i8 : IntKind.u32.wrap (b : Int) = (b : Int) := IntWalk.u32_in _ (by omega)
      have i9 : IntKind.i64.wrap (b : Int) = (b : Int) := IntWalk.i64_in _ (by omega)
      have t1 : (k : Int) < (N : Int) := by omega
      have t2 : (q : Int) < (len : Int) := by omega
      clear hbw hc1 hb1 hqq hrr hbb hx hs hbit hx2
      go_wp2_with (at_builtin; refine wpList_append_one rfl (.tmp 12) (.tmp 24) 43 rfl w.heap.size 3 i0 (.int .i64 0) 8 Try.underlying43 hi hz0 hz1 hz2 rfl _ (.int .i64 b) k _ rfl rfl Hown.out rfl (by omega) (by omega) Hbw.out.size ?_)
      intro v' w1 hown' hgrow
      have R := Lib.hid (OwnI.step (v' := v') (by rw [hQl.out]; omega) Hbw.out.size Hown.out Hbw.out (by rw [Hg.out]; exact hown') hgrow)
      clear hown' hgrow
      go_wp2
      go_roundw
      case rel => exact ⟨k + 1, by omega, by go_num, R.out.1, R.out.2⟩
      case measure => simp [intOf]; omega
    · have hkl : k = N := by omega
      obtain ⟨A', cap', rfl, hat⟩ := Hown.out.at_take (by rw [hQl.out]; exact hk)
      have hres : ptrim (Q.take k) = bts v := by rw [hQ.out]; exact tabQ_bts hk (by rw [hkl]; exact Hlt.out)
      have Hat := Lib.hid hat
      have Hres := Lib.hid hres
      have t1 : ¬ (k : Int) < (N : Int) := by omega
      clear hres hi hz0 hz1 hz2 hkl hbw
      go_wp2_with fail
      refine (btrim_any _ _ _ _ _ Hat.out (by omega)).mono ?_
      rintro e w2 ⟨rfl, rfl⟩
      have hfin := Hat.out.take (k := plen (Q.take k)) (by have := plen_le (Q.take k); rw [Hat.out.length] at this; exact this)
      have Hfin := Lib.hid (show I64At wr A' (plen (Q.take k)) cap' (bts v) by rw [← Hres.out]; exact hfin)
      clear hfin hat
      go_wp2
      go_ret
      exact ⟨_, _, _, rfl, Hfin.out, (own_typ Hown.out).le (by have := plen_le (Q.take k); rw [Hat.out.length] at this; exact this), Hbw.out⟩

/-- an own row of digits -/
def OwnU (w : World) (base : Nat) (v : Value) (n : Nat) (ds : List Nat) : Prop := w.ownsRow base 103 1 v n (ds.map fun d : Nat => Value.int .u32 (d : Int))
theorem OwnU.digAt {w : World} {base n : Nat} {v : Value} {ds : List Nat} (h : OwnU w base v n ds) (hw : Wd ds) : ∃ A cap, v = .slice A n cap ∧ DigAt w A n cap ds := by
  have hl : ds.length = n := by have := h.1; simpa using this
  rcases Nat.eq_zero_or_pos n with h0 | h0
  · subst h0
    have hd : ds = [] := List.eq_nil_of_length_eq_zero hl
    subst hd
    obtain ⟨_, ⟨rfl, _⟩ | ⟨g, cap, cur, rfl, _⟩⟩ := h
    · exact ⟨_, _, rfl, DigAt.nil _ _ _⟩
    · exact ⟨_, _, rfl, DigAt.nil _ _ _⟩
  · obtain ⟨g, cap, rfl, _, hlt⟩ := World.ownsRow.form h h0
    have hcap : n ≤ cap := by
      obtain ⟨_, ⟨h1, _⟩ | ⟨g2, cap2, cur, h1, _, _, hc, _⟩⟩ := h
      · cases h1
      · cases h1; exact hc
    refine ⟨_, _, rfl, hl, hcap, hw, .inr ⟨g, 0, rfl, hlt, fun j hj => ?_⟩⟩
    rw [Nat.zero_add, World.ownsRow.cellAt h j (by omega)]
    simp [List.getD_eq_getElem?_getD, List.getElem?_eq_getElem (show j < ds.length by omega)]

/-- the first m digits of the first k bits -/
noncomputable def dU (n k m : Nat) : List Nat := (List.range m).map (dgt BB (n % 2 ^ k))
theorem dU_length (n k m : Nat) : (dU n k m).length = m := by simp [dU]
theorem dU_get (n k : Nat) {m j : Nat} (h : j < m) : (dU n k m)[j]? = some (dgt BB (n % 2 ^ k) j) := by simp [dU, h]
theorem dU_push {n k q : Nat} (hk : k = 32 * q) : dU n k q ++ [0] = dU n k (q + 1) := by
  unfold dU
  rw [List.range_succ, List.map_append]
  have : dgt BB (n % 2 ^ k) q = 0 := dgt_zero (by rw [BBp, ← Nat.pow_mul, ← hk]; exact Nat.mod_lt _ (two_pow_pos k))
  simp [this]
theorem dU_set (n k : Nat) : (dU n k (k / 32 + 1)).set (k / 32) (dgt BB (n % 2 ^ k) (k / 32) + btn n k * 2 ^ (k % 32)) = dU n (k + 1) (k / 32 + 1) := by
  refine List.ext_getElem? fun j => ?_
  by_cases hj : j < k / 32 + 1
  · rw [dU_get n (k + 1) hj]
    have h := word_step (s := 32) (by decide) n k j
    rw [← BBp] at h
    rw [h]
    by_cases h2 : j = k / 32
    · rw [if_pos h2, h2, List.getElem?_set_self (by rw [dU_length]; omega)]
    · rw [if_neg h2, List.getElem?_set_ne (Ne.symm h2), dU_get n k hj]
  · rw [List.getElem?_eq_none (by rw [List.length_set, dU_length]; omega), List.getElem?_eq_none (by rw [dU_length]; omega)]
theorem dU_end (n : Nat) : dU n (bln n) ((bln n + 31) / 32) = digs n := by
  have hm : n % 2 ^ bln n = n := Nat.mod_eq_of_lt (bln_lt n)
  have hl : (digs n).length = (bln n + 31) / 32 := dlen_wln n
  refine List.ext_getElem? fun j => ?_
  by_cases hj : j < (bln n + 31) / 32
  · have := digs_get n j
    rw [List.getD_eq_getElem?_getD, List.getElem?_eq_getElem (by omega)] at this
    rw [dU_get n _ hj, hm, List.getElem?_eq_getElem (by omega)]
    simpa using this.symm
  · rw [List.getElem?_eq_none (by rw [dU_length]; omega), List.getElem?_eq_none (by omega)]
theorem dU_wd (n k m : Nat) : Wd (dU n k m) := fun d hd => by
  obtain ⟨j, _, rfl⟩ := List.mem_map.1 hd
  exact dgt_lt BB_pos _ _
theorem info_u32' : (Try.prog.info? 103).map (fun i => (i.zero, i.size, i.bytes)) = some (some (.int .u32 0), 1, 4) := by kernel_rfl

set_option maxRecDepth 100000 in
set_option maxHeartbeats 4000000 in
theorem bto_any (A : Option Addr) (la ca n : Nat) (w : World) (h : I64At w A la ca (bts n)) (hm : la ≤ 1000000) :
    Calls Try.prog 82 #[.slice A la ca] w fun e w' => ∃ A' l' c', e = .returned (.slice A' l' c') ∧ NatN w' A' l' c' n ∧ Below w.heap.size w w' := by
  obtain ⟨i0, hi, hz0, hz1, hz2⟩ := info_parts info_u32'
  have HA := Lib.hid h
  have hla := h.length
  rw [bts_length] at hla
  have hpl : plen (bts n) = la := by rw [bts_plen, hla]
  have Hend := Lib.hid (show dU n la ((la + 31) / 32) = digs n by rw [← hla]; exact dU_end n)
  clear hla h
  go_enter Try.func82, Try.ntmps82
  go_wp2_with fail
  refine (btrim_any _ _ _ _ _ HA.out (by omega)).mono ?_
  rintro e w2 ⟨rfl, rfl⟩
  rw [hpl]
  go_wp2
  go_loopw [3, 4] (fun s3 s4 wr => ∃ k : Nat, k ≤ la ∧ s4 = .int .i64 (k : Int) ∧ OwnU wr w.heap.size s3 ((k + 31) / 32) (dU n k ((k + 31) / 32)) ∧ Below w.heap.size w wr) (fun _ s4 _ => la - (intOf s4).toNat)
  case atStart => exact ⟨0, Nat.zero_le _, rfl, World.ownsRow_nil _ _ _ _, Below.refl _ _⟩
  case round =>
    obtain ⟨k, hk, rfl, hown, hbw⟩ := hrel
    have Hbw := Lib.hid hbw
    by_cases hlt : k < la
    · obtain ⟨c1, o1, rfl, hb1, hc1⟩ := HA.out.at_ (by omega)
      have ec := hc1 k hlt
      rw [bts_get] at ec
      have hr := Nat.mod_lt k (show 32 > 0 by decide)
      have hset := dU_set n k
      have hroom := word_room (s := 32) (by decide) n k
      rw [← BBp] at hroom
      have hb2 := btn_lt n k
      have hkd := Nat.div_add_mod k 32
      obtain ⟨q, hqq⟩ : ∃ q, q = k / 32 := ⟨_, rfl⟩
      obtain ⟨r, hrr⟩ : ∃ r, r = k % 32 := ⟨_, rfl⟩
      obtain ⟨b, hbb⟩ : ∃ b, b = btn n k := ⟨_, rfl⟩
      obtain ⟨x, hx⟩ : ∃ x, x = dgt BB (n % 2 ^ k) q := ⟨_, rfl⟩
      obtain ⟨s, hs⟩ : ∃ s, s = b * 2 ^ r := ⟨_, rfl⟩
      rw [← hqq, ← hrr, ← hbb, ← hx, ← hs] at hroom hset
      rw [← hqq, ← hrr] at hkd
      rw [← hbb] at ec hb2
      rw [← hrr] at hr
      obtain ⟨q1, hq1e⟩ : ∃ q1, q1 = q + 1 := ⟨_, rfl⟩
      rw [← hq1e] at hset
      have Hget := Lib.hid (show (dU n k q1)[q]? = some x by rw [dU_get n k (by omega), hx])
      rw [BB_eq] at hroom
      have i1 : Int.tdiv (k : Int) 32 = (q : Int) := by rw [hqq]; rfl
      have i2 : Int.tmod (k : Int) 32 = (r : Int) := by rw [hrr]; rfl
      have i3 : IntKind.i64.wrap (q : Int) = (q : Int) := IntWalk.i64_in _ (by omega)
      have i4 : IntKind.u64.wrap (r : Int) = (r : Int) := IntWalk.u64_in _ (by omega)
      have i5 : (b : Int) * 2 ^ r = (s : Int) := by rw [hs]; simp
      have i6 : IntKind.u32.wrap (s : Int) = (s : Int) := IntWalk.u32_in _ (by omega)
      have i8 : IntKind.u32.wrap (b : Int) = (b : Int) := IntWalk.u32_in _ (by omega)
      have i7 : IntKind.u32.wrap ((x : Int) + (s : Int)) = ((x + s : Nat) : Int) := by rw [IntWalk.u32_in _ (by omega)]; omega
      have i7b : (x : Int) + (s : Int) = ((x + s : Nat) : Int) := by omega
      obtain ⟨y, hy⟩ : ∃ y, y = x + s := ⟨_, rfl⟩
      rw [← hy] at i7 i7b hset
      have Hset := Lib.hid hset
      have t1 : (k : Int) < (la : Int) := by omega
      have hq1 : (k + 1 + 31) / 32 = q1 := by omega
      have Hq1 := Lib.hid hq1
      have t2 : (q : Int) < (q1 : Int) := by omega
      have hqq1 : q < q1 := by omega
      have Hq1e := Lib.hid hq1e
      have Hx := Lib.hid hx
      clear hset hqq hbb hx hs hy hq1 hc1 hq1e
      have fin : ∀ (g cp : Nat) (wv : World), OwnU wv w.heap.size (.slice (some ⟨g, 0, none⟩) q1 cp) q1 (dU n k q1) → Below w.heap.size w wv →
          OwnU (wv.drew.setCell ⟨g, q, none⟩ (.int .u32 (y : Int))) w.heap.size (.slice (some ⟨g, 0, none⟩) q1 cp) ((k + 1 + 31) / 32) (dU n (k + 1) ((k + 1 + 31) / 32)) ∧ Below w.heap.size w (wv.drew.setCell ⟨g, q, none⟩ (.int .u32 (y : Int))) ∧ wv.cell? ⟨g, q, none⟩ = some (.int .u32 (x : Int)) ∧ wv.frozen? ⟨g, q, none⟩ = false ∧ g ≠ c1 := by
        intro g cp wv ho hb
        obtain ⟨g2, cp2, hv, hgb, hglt⟩ := World.ownsRow.form ho (by omega)
        cases hv
        have hst := (World.ownsRow.stored (World.ownsRow.drew ho) q (.int .u32 (y : Int))).1
        refine ⟨?_, hb.trans ((Below.refl _ _).drew.setCell hgb _), ?_, World.ownsRow.frozenAt ho q, by omega⟩
        · rw [Hq1.out]
          unfold OwnU at ho ⊢
          rw [← Hset.out, List.map_set]
          exact hst
        · rw [World.ownsRow.cellAt ho q (by omega)]
          simp [Hget.out]
      have Fin := Lib.hid fin
      clear fin
      by_cases hr0 : r = 0
      · have t3 : ((r : Int) == 0) = true := by rw [hr0]; rfl
        have hk32 : (k + 31) / 32 = q := by omega
        rw [hk32] at hown
        have Hpush := Lib.hid (dU_push (n := n) (k := k) (q := q) (by omega))
        have Hown := Lib.hid hown
        have Hr0 := Lib.hid hr0
        clear hown hk32 hrr hr0
        go_wp2_with (at_builtin; refine wpList_append_one rfl (.tmp 16) (.tmp 17) 36 rfl w.heap.size 103 i0 (.int .u32 0) 4 Try.underlying36 hi hz0 hz1 hz2 rfl _ (.int .u32 0) q _ rfl rfl Hown.out rfl (by omega) (by omega) Hbw.out.size ?_)
        intro v' w1 hown' hgrow
        have hbw1 : Below w.heap.size w w1 := (Hbw.out.alloc Hbw.out.size _).grown hgrow (by simp; have := Hbw.out.size; omega) (fun j hj => (World.ownsRow.lt Hown.out j hj).1)
        have ho1 : OwnU w1 w.heap.size v' q1 (dU n k q1) := by
          rw [Hq1e.out, ← Hpush.out]
          unfold OwnU
          rw [List.map_append]
          exact hown'
        obtain ⟨g, cp, rfl, hgb, hglt⟩ := World.ownsRow.form ho1 (by omega)
        obtain ⟨f1, f2, e3, f3, nb⟩ := Fin.out g cp w1 ho1 hbw1
        have F := Lib.hid (And.intro f1 f2)
        have e1 := (hbw1.cell (p := ⟨c1, o1 + k, none⟩) hb1).trans ec
        clear hown' hgrow hbw1 ho1 f1 f2 hbw Hown Hpush ec hb1
        go_wp2_with fail
        refine wp_region_last (S := fun w' => w'.cell? ⟨c1, o1 + k, none⟩ = some (.int .i64 b) ∧ w'.cell? ⟨g, q, none⟩ = some (.int .u32 x)) (by kernel_rfl) (by kernel_rfl) (by (try dsimp only); refine ⟨?_, ?_⟩ <;> go_simp) (fun hHeld => ?_)
        simp only [List.pop_toArray, List.dropLast]
        (refine take_at (i := 0) (oi := _) (v := ?_) rfl rfl (by kernel_rfl) (by kernel_rfl) (by kernel_rfl) (fun _ _ _ h => h) (Or.inl ⟨by rfl, ?_⟩) (by assumption) ?_; rotate_left; (focus (intro w hSw; (try dsimp only at hSw); go_simp; (try with_reducible rfl))); (simp only [put_lit, List.set]))
        (refine take_at (i := 1) (oi := _) (v := ?_) rfl rfl (by kernel_rfl) (by kernel_rfl) (by kernel_rfl) (fun _ _ _ h => h) (Or.inl ⟨by rfl, ?_⟩) (by assumption) ?_; rotate_left; (focus (intro w hSw; (try dsimp only at hSw); go_simp; (try with_reducible rfl))); (simp only [put_lit, List.set]))
        (refine take_at (i := 2) (oi := _) (v := ?_) rfl rfl (by kernel_rfl) (by kernel_rfl) (by kernel_rfl) (fun _ _ _ h => h) (Or.inl ⟨by rfl, ?_⟩) (by assumption) ?_; rotate_left; (focus (intro w hSw; (try dsimp only at hSw); go_simp; (try with_reducible rfl))); (simp only [put_lit, List.set]))
        (refine take_at (i := 3) (oi := _) (v := ?_) rfl rfl (by kernel_rfl) (by kernel_rfl) (by kernel_rfl) (fun _ _ _ h => h) (Or.inl ⟨by rfl, ?_⟩) (by assumption) ?_; rotate_left; (focus (intro w hSw; (try dsimp only at hSw); go_simp; (try with_reducible rfl))); (simp only [put_lit, List.set]))
        (refine take_at (i := 4) (oi := _) (v := ?_) rfl rfl (by kernel_rfl) (by kernel_rfl) (by kernel_rfl) (fun _ _ _ h => h) (Or.inl ⟨by rfl, ?_⟩) (by assumption) ?_; rotate_left; (focus (intro w hSw; (try dsimp only at hSw); go_simp; (try with_reducible rfl))); (simp only [put_lit, List.set]))
        (refine take_at (i := 5) (oi := _) (v := ?_) rfl rfl (by kernel_rfl) (by kernel_rfl) (by kernel_rfl) (fun _ _ _ h => h) (Or.inl ⟨by rfl, ?_⟩) (by assumption) ?_; rotate_left; (focus (intro w hSw; (try dsimp only at hSw); go_simp; (try with_reducible rfl))); (simp only [put_lit, List.set]))
        (refine take_at (i := 6) (oi := _) (v := ?_) rfl rfl (by kernel_rfl) (by kernel_rfl) (by kernel_rfl) (fun _ _ _ h => h) (Or.inl ⟨by rfl, ?_⟩) (by assumption) ?_; rotate_left; (focus (intro w hSw; (try dsimp only at hSw); go_simp; (try with_reducible rfl))); (simp only [put_lit, List.set]))
        (refine take_at (i := 7) (oi := _) (v := ?_) rfl rfl (by kernel_rfl) (by kernel_rfl) (by kernel_rfl) (fun _ _ _ h => h) (Or.inl ⟨by rfl, ?_⟩) (by assumption) ?_; rotate_left; (focus (intro w hSw; (try dsimp only at hSw); go_simp; (try with_reducible rfl))); (simp only [put_lit, List.set]))
        (refine take_at (i := 8) (oi := _) (v := ?_) rfl rfl (by kernel_rfl) (by kernel_rfl) (by kernel_rfl) (fun _ _ _ h => h) (Or.inl ⟨by rfl, ?_⟩) (by assumption) ?_; rotate_left; (focus (intro w hSw; (try dsimp only at hSw); go_simp; (try with_reducible rfl))); (simp only [put_lit, List.set]))
        (refine take_at (i := 9) (oi := _) (v := ?_) rfl rfl (by kernel_rfl) (by kernel_rfl) (by kernel_rfl) (fun _ _ _ h => h) (Or.inl ⟨by rfl, ?_⟩) (by assumption) ?_; rotate_left; (focus (intro w hSw; (try dsimp only at hSw); go_simp; (try with_reducible rfl))); (simp only [put_lit, List.set]))
        (refine take_at (i := 10) (oi := _) (v := ?_) rfl rfl (by kernel_rfl) (by kernel_rfl) (by kernel_rfl) (fun _ _ _ h => h) (Or.inl ⟨by rfl, ?_⟩) (by assumption) ?_; rotate_left; (focus (intro w hSw; (try dsimp only at hSw); go_simp; (try with_reducible rfl))); (simp only [put_lit, List.set]))
        (refine take_at (i := 11) (oi := _) (v := ?_) rfl rfl (by kernel_rfl) (by kernel_rfl) (by kernel_rfl) (fun _ _ _ h => h) (Or.inl ⟨by rfl, ?_⟩) (by assumption) ?_; rotate_left; (focus (intro w hSw; (try dsimp only at hSw); go_simp; (try with_reducible rfl))); (simp only [put_lit, List.set]))
        (refine take_at (i := 12) (oi := _) (v := ?_) rfl rfl (by kernel_rfl) (by kernel_rfl) (by kernel_rfl) (fun _ _ _ h => h) (Or.inl ⟨by rfl, ?_⟩) (by assumption) ?_; rotate_left; (focus (intro w hSw; (try dsimp only at hSw); go_simp; (try with_reducible rfl))); (simp only [put_lit, List.set]))
        (refine take_at (i := 13) (oi := _) (v := ?_) rfl rfl (by kernel_rfl) (by kernel_rfl) (by kernel_rfl) (fun _ _ _ h => h) (Or.inl ⟨by rfl, ?_⟩) (by assumption) ?_; rotate_left; (focus (intro w hSw; (try dsimp only at hSw); go_simp; (try with_reducible rfl))); (simp only [put_lit, List.set]))
        (refine take_at (i := 14) (oi := _) (v := ?_) rfl rfl (by kernel_rfl) (by kernel_rfl) (by kernel_rfl) (fun _ _ _ h => h) (Or.inl ⟨by rfl, ?_⟩) (by assumption) ?_; rotate_left; (focus (intro w hSw; (try dsimp only at hSw); go_simp; (try with_reducible rfl))); (simp only [put_lit, List.set]))
        (refine take_at (i := 15) (oi := _) (v := ?_) rfl rfl (by kernel_rfl) (by kernel_rfl) (by kernel_rfl) (fun _ _ _ h => h) (Or.inl ⟨by rfl, ?_⟩) (by assumption) ?_; rotate_left; (focus (intro w hSw; (try dsimp only at hSw); go_simp; (try with_reducible rfl))); (simp only [put_lit, List.set]))
        refine wpAnyH_done (by kernel_rfl) (lastQ_list rfl ?_) _
        clear hHeld
        go_wp2_with fail
        go_roundw
        case rel => exact ⟨k + 1, by omega, by go_num, F.out.1, F.out.2⟩
        case measure => simp [intOf]; omega
      · have hk32 : (k + 31) / 32 = q1 := by have := Hq1e.out; omega
        rw [hk32] at hown
        obtain ⟨g, cp, rfl, hgb, hglt⟩ := World.ownsRow.form hown (by omega)
        obtain ⟨f1, f2, e3, f3, nb⟩ := Fin.out g cp wr hown hbw
        have F := Lib.hid (And.intro f1 f2)
        have e1 := (hbw.cell (p := ⟨c1, o1 + k, none⟩) hb1).trans ec
        have t3 : ((r : Int) == 0) = false := by rw [beq_eq_false_iff_ne]; omega
        clear hown hk32 f1 f2 hbw hrr ec hb1
        go_wp2_with fail
        refine wp_region_last (S := fun w' => w'.cell? ⟨c1, o1 + k, none⟩ = some (.int .i64 b) ∧ w'.cell? ⟨g, q, none⟩ = some (.int .u32 x)) (by kernel_rfl) (by kernel_rfl) (by (try dsimp only); refine ⟨?_, ?_⟩ <;> go_simp) (fun hHeld => ?_)
        simp only [List.pop_toArray, List.dropLast]
        (refine take_at (i := 0) (oi := _) (v := ?_) rfl rfl (by kernel_rfl) (by kernel_rfl) (by kernel_rfl) (fun _ _ _ h => h) (Or.inl ⟨by rfl, ?_⟩) (by assumption) ?_; rotate_left; (focus (intro w hSw; (try dsimp only at hSw); go_simp; (try with_reducible rfl))); (simp only [put_lit, List.set]))
        (refine take_at (i := 1) (oi := _) (v := ?_) rfl rfl (by kernel_rfl) (by kernel_rfl) (by kernel_rfl) (fun _ _ _ h => h) (Or.inl ⟨by rfl, ?_⟩) (by assumption) ?_; rotate_left; (focus (intro w hSw; (try dsimp only at hSw); go_simp; (try with_reducible rfl))); (simp only [put_lit, List.set]))
        (refine take_at (i := 2) (oi := _) (v := ?_) rfl rfl (by kernel_rfl) (by kernel_rfl) (by kernel_rfl) (fun _ _ _ h => h) (Or.inl ⟨by rfl, ?_⟩) (by assumption) ?_; rotate_left; (focus (intro w hSw; (try dsimp only at hSw); go_simp; (try with_reducible rfl))); (simp only [put_lit, List.set]))
        (refine take_at (i := 3) (oi := _) (v := ?_) rfl rfl (by kernel_rfl) (by kernel_rfl) (by kernel_rfl) (fun _ _ _ h => h) (Or.inl ⟨by rfl, ?_⟩) (by assumption) ?_; rotate_left; (focus (intro w hSw; (try dsimp only at hSw); go_simp; (try with_reducible rfl))); (simp only [put_lit, List.set]))
        (refine take_at (i := 4) (oi := _) (v := ?_) rfl rfl (by kernel_rfl) (by kernel_rfl) (by kernel_rfl) (fun _ _ _ h => h) (Or.inl ⟨by rfl, ?_⟩) (by assumption) ?_; rotate_left; (focus (intro w hSw; (try dsimp only at hSw); go_simp; (try with_reducible rfl))); (simp only [put_lit, List.set]))
        (refine take_at (i := 5) (oi := _) (v := ?_) rfl rfl (by kernel_rfl) (by kernel_rfl) (by kernel_rfl) (fun _ _ _ h => h) (Or.inl ⟨by rfl, ?_⟩) (by assumption) ?_; rotate_left; (focus (intro w hSw; (try dsimp only at hSw); go_simp; (try with_reducible rfl))); (simp only [put_lit, List.set]))
        (refine take_at (i := 6) (oi := _) (v := ?_) rfl rfl (by kernel_rfl) (by kernel_rfl) (by kernel_rfl) (fun _ _ _ h => h) (Or.inl ⟨by rfl, ?_⟩) (by assumption) ?_; rotate_left; (focus (intro w hSw; (try dsimp only at hSw); go_simp; (try with_reducible rfl))); (simp only [put_lit, List.set]))
        (refine take_at (i := 7) (oi := _) (v := ?_) rfl rfl (by kernel_rfl) (by kernel_rfl) (by kernel_rfl) (fun _ _ _ h => h) (Or.inl ⟨by rfl, ?_⟩) (by assumption) ?_; rotate_left; (focus (intro w hSw; (try dsimp only at hSw); go_simp; (try with_reducible rfl))); (simp only [put_lit, List.set]))
        (refine take_at (i := 8) (oi := _) (v := ?_) rfl rfl (by kernel_rfl) (by kernel_rfl) (by kernel_rfl) (fun _ _ _ h => h) (Or.inl ⟨by rfl, ?_⟩) (by assumption) ?_; rotate_left; (focus (intro w hSw; (try dsimp only at hSw); go_simp; (try with_reducible rfl))); (simp only [put_lit, List.set]))
        (refine take_at (i := 9) (oi := _) (v := ?_) rfl rfl (by kernel_rfl) (by kernel_rfl) (by kernel_rfl) (fun _ _ _ h => h) (Or.inl ⟨by rfl, ?_⟩) (by assumption) ?_; rotate_left; (focus (intro w hSw; (try dsimp only at hSw); go_simp; (try with_reducible rfl))); (simp only [put_lit, List.set]))
        (refine take_at (i := 10) (oi := _) (v := ?_) rfl rfl (by kernel_rfl) (by kernel_rfl) (by kernel_rfl) (fun _ _ _ h => h) (Or.inl ⟨by rfl, ?_⟩) (by assumption) ?_; rotate_left; (focus (intro w hSw; (try dsimp only at hSw); go_simp; (try with_reducible rfl))); (simp only [put_lit, List.set]))
        (refine take_at (i := 11) (oi := _) (v := ?_) rfl rfl (by kernel_rfl) (by kernel_rfl) (by kernel_rfl) (fun _ _ _ h => h) (Or.inl ⟨by rfl, ?_⟩) (by assumption) ?_; rotate_left; (focus (intro w hSw; (try dsimp only at hSw); go_simp; (try with_reducible rfl))); (simp only [put_lit, List.set]))
        (refine take_at (i := 12) (oi := _) (v := ?_) rfl rfl (by kernel_rfl) (by kernel_rfl) (by kernel_rfl) (fun _ _ _ h => h) (Or.inl ⟨by rfl, ?_⟩) (by assumption) ?_; rotate_left; (focus (intro w hSw; (try dsimp only at hSw); go_simp; (try with_reducible rfl))); (simp only [put_lit, List.set]))
        (refine take_at (i := 13) (oi := _) (v := ?_) rfl rfl (by kernel_rfl) (by kernel_rfl) (by kernel_rfl) (fun _ _ _ h => h) (Or.inl ⟨by rfl, ?_⟩) (by assumption) ?_; rotate_left; (focus (intro w hSw; (try dsimp only at hSw); go_simp; (try with_reducible rfl))); (simp only [put_lit, List.set]))
        (refine take_at (i := 14) (oi := _) (v := ?_) rfl rfl (by kernel_rfl) (by kernel_rfl) (by kernel_rfl) (fun _ _ _ h => h) (Or.inl ⟨by rfl, ?_⟩) (by assumption) ?_; rotate_left; (focus (intro w hSw; (try dsimp only at hSw); go_simp; (try with_reducible rfl))); (simp only [put_lit, List.set]))
        (refine take_at (i := 15) (oi := _) (v := ?_) rfl rfl (by kernel_rfl) (by kernel_rfl) (by kernel_rfl) (fun _ _ _ h => h) (Or.inl ⟨by rfl, ?_⟩) (by assumption) ?_; rotate_left; (focus (intro w hSw; (try dsimp only at hSw); go_simp; (try with_reducible rfl))); (simp only [put_lit, List.set]))
        refine wpAnyH_done (by kernel_rfl) (lastQ_list rfl ?_) _
        clear hHeld
        go_wp2_with fail
        go_roundw
        case rel => exact ⟨k + 1, by omega, by go_num, F.out.1, F.out.2⟩
        case measure => simp [intOf]; omega
    · have hkl : k = la := by omega
      subst hkl
      rw [Hend.out] at hown
      obtain ⟨A', cap', rfl, hat⟩ := OwnU.digAt hown (digs_wd n)
      have Hat := Lib.hid hat
      clear hown hat hbw
      go_wp2
      go_ret
      exact ⟨_, _, _, rfl, ⟨Hat.out⟩, Hbw.out⟩

set_option maxRecDepth 100000 in
set_option maxHeartbeats 4000000 in
theorem bis_any (A : Option Addr) (la ca n : Nat) (B : Option Addr) (lb cb : Nat) (w : World) (h : NatN w A la ca n) (hb : I64At w B lb cb (bts n)) (hm : lb ≤ 1000000) :
    Calls Try.prog 54 #[.slice A la ca, .slice B lb cb] w fun e w' => e = .returned (.bool true) ∧ Below w.heap.size w w' := by
  have HA := Lib.hid h
  have hl := h.len
  have hlb := hb.length
  rw [bts_length] at hlb
  have hlm : la ≤ 1000000 := by rw [hl, dlen_wln]; unfold wln; omega
  have HB := Lib.hid hb
  have HL := Lib.hid hl
  clear h hb hl hlb
  go_enter Try.func54, Try.ntmps54
  go_wp2_with fail
  refine (bto_any _ _ _ n _ HB.out (by omega)).mono ?_
  rintro e w1 ⟨A1, l1, c1, rfl, h1, hb1⟩
  have hl1 : l1 = la := by rw [h1.len, HL.out]
  subst hl1
  have H1 := Lib.hid h1
  have Hb1 := Lib.hid hb1
  have H2 := Lib.hid (HA.out.below hb1)
  clear h1 hb1
  go_wp2
  go_loopw [6] (fun s6 wr => ∃ k : Nat, k ≤ l1 ∧ s6 = .int .i64 (k : Int) ∧ Below w1.heap.size w1 wr) (fun s6 _ => l1 - (intOf s6).toNat)
  case atStart => exact ⟨0, Nat.zero_le _, rfl, Below.refl _ _⟩
  case round =>
    obtain ⟨k, hk, rfl, hbr⟩ := hrel
    have Hbr := Lib.hid hbr
    by_cases hlt : k < l1
    · obtain ⟨c2, o2, rfl, hb2, hc2⟩ := H1.out.digits.at_ (by omega)
      obtain ⟨c3, o3, rfl, hb3, hc3⟩ := H2.out.digits.at_ (by omega)
      have e1 := (hbr.cell (p := ⟨c2, o2 + k, none⟩) hb2).trans (hc2 k hlt)
      have e2 := (hbr.cell (p := ⟨c3, o3 + k, none⟩) hb3).trans (hc3 k hlt)
      obtain ⟨x, hx⟩ : ∃ x, x = (digs n).getD k 0 := ⟨_, rfl⟩
      rw [← hx] at e1 e2
      have t1 : (k : Int) < (l1 : Int) := by omega
      clear hc2 hc3 hx hb2 hb3 hbr
      go_wp2
      go_quiet (fail)
      go_wp2
      go_roundw
      case rel => exact ⟨k + 1, by omega, by go_num, Hbr.out.trans (below_drewN (Below.refl _ _) _)⟩
      case measure => simp [intOf]; omega
    · have hkl : k = l1 := by omega
      subst hkl
      clear hbr
      go_wp2
      go_ret
      exact ⟨rfl, Hb1.out.trans (Hbr.out.mono Hb1.out.size)⟩
end Go.Proofs.Ytgblfpkfapmlnaa
