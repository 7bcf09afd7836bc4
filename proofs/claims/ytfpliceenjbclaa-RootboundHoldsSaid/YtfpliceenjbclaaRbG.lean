/- The walks of the law's helpers: wide. -/
import Derived.Test.YtfpliceenjbclaaRbF
import Derived.IntWalk
namespace Go.Proofs.Ytfpliceenjbclaa
open Go.RowKit

theorem info_int64 : (Try.prog.info? 3).map (fun i => (i.zero, i.size, i.bytes)) = some (some (.int .i64 0), 1, 8) := by kernel_rfl

/-- append(xs, u): one value of one cell to an own slice -/
theorem wpList_append_one {w : World} {ops : Array Oper} {rest : List Oper} {o : Oper} {a : Act} {Q : Exit → Act → World → Prop} (hgd : o.guard = none) (s x : Operand) (t : TypeId)
    (ho : o.op = .call { callee := .builtin .append, args := #[s, x], argTypes := #[t, t] })
    (base : Nat) (e : TypeId) (i : TypeInfo) (z : Value) (bytes : Nat) (ht : Try.prog.underlying t = some (.slice e)) (hi : Try.prog.info? e = some i) (hz : i.zero = some z)
    (hsize : i.size = 1) (hby : i.bytes = bytes) (hzs : z.cells.size = 1)
    (v u : Value) (n : Nat) (xs : List Value) (hu : u.oneCell' = true) (hs : a.eval s = v) (hown : w.ownsRow base e 1 v n xs) (hx : a.eval x = .slice (some ⟨w.heap.size, 0, none⟩) 1 1)
    (h63 : n + 1 ≤ 1000000000000) (hb : bytes ≤ 128) (hbase : base ≤ w.heap.size)
    (h : ∀ v' w', w'.ownsRow base e 1 v' (n + 1) (xs ++ [u]) → (w.alloc (.cells #[u] e)).grownBy w' v.ownBlock → wpList Try.prog ops Q rest (a.put o.dst v') w') :
    wpList Try.prog ops Q (o :: rest) a (w.alloc (.cells #[u] e)) := by
  refine wpList_append_own _ hgd s x t ho base e i z 1 bytes ht hi hz hsize hby hzs (by decide) v n xs hs (World.ownsRow.alloc hown _) ⟨w.heap.size, 0, none⟩ 1 1 [u] hx rfl ?_ ?_ (by unfold maxLen; omega) ?_ (by simp; omega) (fun v' w' h1 h2 _ => h v' w' h1 h2)
  · intro j y hj
    match j, hj with
    | 0, hj => simp at hj; subst hj; simp [Addr.add]
  · intro y hy
    simp at hy
    rw [hy]; exact hu
  · calc (n + 1) * bytes ≤ 1000000000000 * 128 := Nat.mul_le_mul h63 hb
      _ ≤ 140737488355328 := by omega

/-- a slice of int16s -/
structure I16At (w : World) (A : Option Addr) (len cap : Nat) (p : List Int) : Prop where
  length : p.length = len
  range : ∀ c ∈ p, -32768 ≤ c ∧ c ≤ 32767
  cells : len = 0 ∨ ∃ b off, A = some ⟨b, off, none⟩ ∧ b < w.heap.size ∧ ∀ j, j < len → w.cell? ⟨b, off + j, none⟩ = some (.int .i16 (p.getD j 0))
theorem I16At.below {w w' : World} {A : Option Addr} {len cap : Nat} {p : List Int} (h : I16At w A len cap p) (hb : Below w.heap.size w w') : I16At w' A len cap p := by
  refine ⟨h.length, h.range, ?_⟩
  rcases h.cells with h0 | ⟨b, off, hA, hlt, hc⟩
  · exact .inl h0
  · exact .inr ⟨b, off, hA, Nat.lt_of_lt_of_le hlt hb.size, fun j hj => (hb.cell (p := ⟨b, off + j, none⟩) hlt).trans (hc j hj)⟩
theorem I16At.at_ {w : World} {A : Option Addr} {len cap : Nat} {p : List Int} (h : I16At w A len cap p) (hl : 0 < len) :
    ∃ b off, A = some ⟨b, off, none⟩ ∧ b < w.heap.size ∧ ∀ j, j < len → w.cell? ⟨b, off + j, none⟩ = some (.int .i16 (p.getD j 0)) := by
  rcases h.cells with h0 | h1
  · omega
  · exact h1

/-- what wide returns -/
def wl (p : List Int) (n : Nat) (m : Int) : List Int := (p.take n).map fun c => min (max c (-m)) m
theorem wl_length (p : List Int) (n : Nat) (m : Int) : (wl p n m).length = min n p.length := by simp [wl]
theorem wl_get (p : List Int) {n k : Nat} (m : Int) (h1 : k < p.length) (h2 : k < n) : (wl p n m)[k]?.getD 0 = min (max (p.getD k 0) (-m)) m := by
  simp [wl, List.getElem?_take_of_lt h2, List.getElem?_eq_getElem h1, List.getD_eq_getElem?_getD]

set_option maxRecDepth 100000 in
set_option maxHeartbeats 1000000 in
theorem wide_any (A : Option Addr) (len cap n : Nat) (m : Int) (p : List Int) (w : World) (h : I16At w A len cap p) (hn : n ≤ 1000) (hm0 : 0 ≤ m) (hm : m ≤ 1000000) (hlm : len ≤ 9223372036854775807) :
    Calls Try.prog 24 #[.slice A len cap, .int .i64 (n : Int), .int .i64 m] w fun e w' => ∃ A' cap', e = .returned (.slice A' (wl p n m).length cap') ∧ I64At w' A' (wl p n m).length cap' (wl p n m) ∧ Below w.heap.size w w' := by
  obtain ⟨i0, hi, hz0, hz1, hz2⟩ := info_parts info_int64
  have hlen := Lib.hid h.length
  have hwl := Lib.hid (wl_length p n m)
  go_enter Try.func24, Try.ntmps24
  go_wp2
  go_loopw [7, 8] (fun v i wr => ∃ k : Nat, k ≤ len ∧ k ≤ n ∧ i = .int .i64 (k : Int) ∧ OwnI 3 wr w.heap.size v k (wl p n m) ∧ Below w.heap.size w wr) (fun _ i _ => len - (intOf i).toNat)
  case atStart => exact ⟨0, Nat.zero_le _, Nat.zero_le _, rfl, World.ownsRow_nil _ _ _ _, Below.refl _ _⟩
  case round =>
    obtain ⟨k, hk, hkn, rfl, hown, hbw⟩ := hrel
    have Hown := Lib.hid hown
    have Hbw := Lib.hid hbw
    clear hown
    by_cases hlt : k < len ∧ k < n
    · obtain ⟨hlt, hln⟩ := hlt
      obtain ⟨b, off, rfl, hb, hc⟩ := h.at_ (by omega)
      have hcell := (hbw.cell (p := ⟨b, off + k, none⟩) hb).trans (hc k hlt)
      have hr : -32768 ≤ p.getD k 0 ∧ p.getD k 0 ≤ 32767 := by
        have := hlen.out
        rw [List.getD_eq_getElem?_getD, List.getElem?_eq_getElem (by omega)]
        exact h.range _ (List.getElem_mem _)
      obtain ⟨hr1, hr2⟩ := hr
      have hg := wl_get p m (k := k) (n := n) (by rw [hlen.out]; exact hlt) hln
      obtain ⟨c, hcv⟩ : ∃ c, c = p.getD k 0 := ⟨_, rfl⟩
      rw [← hcv] at hcell hr1 hr2 hg
      have Hg := Lib.hid hg
      clear hc h hbw hg hcv
      have hi64 : IntKind.i64.wrap (-m) = -m := IntWalk.i64_in _ (by omega)
      have hmm : ¬ m < -m := by omega
      have hcase : c < -m ∨ (-m ≤ c ∧ c ≤ m) ∨ m < c := by omega
      rcases hcase with h1 | ⟨h1, h2⟩ | h1
      · have hv : (wl p n m)[k]?.getD 0 = -m := by rw [Hg.out]; omega
        have Hv := Lib.hid hv
        clear hv Hg
        go_wp2_with (at_builtin; refine wpList_append_one rfl (.tmp 20) (.tmp 31) 32 rfl w.heap.size 3 i0 (.int .i64 0) 8 Try.underlying32 hi hz0 hz1 hz2 rfl _ (.int .i64 (-m)) k _ rfl rfl Hown.out rfl (by omega) (by omega) Hbw.out.size ?_)
        intro v' w1 hown' hgrow
        have R := Lib.hid (OwnI.step (v' := v') (by rw [hwl.out, hlen.out]; omega) Hbw.out.size Hown.out Hbw.out (by rw [Hv.out]; exact hown') hgrow)
        clear hown' hgrow hcell
        go_wp2
        go_roundw
        case rel => exact ⟨k + 1, by omega, by omega, by go_num, R.out.1, R.out.2⟩
        case measure => simp [intOf]; omega
      · have hv : (wl p n m)[k]?.getD 0 = c := by rw [Hg.out]; omega
        have Hv := Lib.hid hv
        clear hv Hg
        go_wp2_with (at_builtin; refine wpList_append_one rfl (.tmp 20) (.tmp 31) 32 rfl w.heap.size 3 i0 (.int .i64 0) 8 Try.underlying32 hi hz0 hz1 hz2 rfl _ (.int .i64 (c)) k _ rfl rfl Hown.out rfl (by omega) (by omega) Hbw.out.size ?_)
        intro v' w1 hown' hgrow
        have R := Lib.hid (OwnI.step (v' := v') (by rw [hwl.out, hlen.out]; omega) Hbw.out.size Hown.out Hbw.out (by rw [Hv.out]; exact hown') hgrow)
        clear hown' hgrow hcell
        go_wp2
        go_roundw
        case rel => exact ⟨k + 1, by omega, by omega, by go_num, R.out.1, R.out.2⟩
        case measure => simp [intOf]; omega
      · have hv : (wl p n m)[k]?.getD 0 = m := by rw [Hg.out]; omega
        have Hv := Lib.hid hv
        clear hv Hg
        go_wp2_with (at_builtin; refine wpList_append_one rfl (.tmp 20) (.tmp 31) 32 rfl w.heap.size 3 i0 (.int .i64 0) 8 Try.underlying32 hi hz0 hz1 hz2 rfl _ (.int .i64 (m)) k _ rfl rfl Hown.out rfl (by omega) (by omega) Hbw.out.size ?_)
        intro v' w1 hown' hgrow
        have R := Lib.hid (OwnI.step (v' := v') (by rw [hwl.out, hlen.out]; omega) Hbw.out.size Hown.out Hbw.out (by rw [Hv.out]; exact hown') hgrow)
        clear hown' hgrow hcell
        go_wp2
        go_roundw
        case rel => exact ⟨k + 1, by omega, by omega, by go_num, R.out.1, R.out.2⟩
        case measure => simp [intOf]; omega
    · have hk2 : k = min n len := by omega
      have ho := Hown.out
      have hk3 : k = (wl p n m).length := by rw [hwl.out, hlen.out]; exact hk2
      rw [hk3] at ho
      obtain ⟨A', cap', rfl, hat⟩ := ho.at_
      clear ho
      have Hat := Lib.hid hat
      have Hk3 := Lib.hid hk3
      clear hk2 hk3 hat h hi hz0 hz1 hz2 hbw
      by_cases h1 : k < len
      · have h2 : decide ((k : Int) < (n : Int)) = false := by simp; omega
        go_wp2
        go_ret
        exact ⟨_, _, rfl, Hat.out, Hbw.out⟩
      · go_wp2
        go_ret
        exact ⟨_, _, rfl, Hat.out, Hbw.out⟩
end Go.Proofs.Ytfpliceenjbclaa
