/- The walks of cylinderref08.Scale, Up, cylinderref09.Lead, Neg. -/
import Derived.Test.YtgblfpkfapmlnaaBtj
namespace Go.Proofs.Ytgblfpkfapmlnaa
open Go.RowKit

/-- append(out, z) as an operation -/
theorem oper_append_z {w : World} {o : Oper} {a : Act} {K : Act → World → Prop} {Q : Exit → Act → World → Prop} (s x : Operand)
    (ho : o.op = .call { callee := .builtin .append, args := #[s, x], argTypes := #[27, 27] }) (base : Nat) (v : Value) (f : List Int) (hs : a.eval s = v) (hown : OwnZ w base v f)
    (sz : Int) (A : Option Addr) (l c : Nat) (z : Int) (hx : a.eval x = .slice (some ⟨w.heap.size, 0, none⟩) 1 1) (hz : ZAt w sz A l c z) (hn : f.length ≤ 1000000) (hbase : base ≤ w.heap.size)
    (h : ∀ v' w', OwnZ w' base v' (f ++ [z]) → (∀ W, Below base W w → Below base W w') → K (a.put o.dst v') w') :
    Oper.wp Try.prog o a (w.alloc (zbox sz A l c)) K Q := by
  obtain ⟨i, hi, hz0, hz1, hz2⟩ := info_parts info_z
  obtain ⟨xs, hown, hc⟩ := hown
  have hal : Below w.heap.size w (w.alloc (zbox sz A l c)) := (Below.refl _ _).alloc (Nat.le_refl _) _
  have ho1 := World.ownsRow.alloc hown (zbox sz A l c)
  refine wp_append_own _ s x 27 ho base 45 i _ 2 32 Try.underlying27 hi hz0 hz1 hz2 rfl (by decide) v f.length xs hs ho1 ⟨w.heap.size, 0, none⟩ 1 1 [.int .i64 sz, .slice A l c] hx rfl ?_ ?_ (by unfold maxLen; omega) (by omega) (by simp; omega) (fun v' w' h1 h2 _ => ?_)
  · intro j y hj
    match j, hj with
    | 0, hj => simp at hj; subst hj; simp [Addr.add]
    | 1, hj => simp at hj; subst hj; simp [Addr.add]
  · intro y hy
    simp at hy
    rcases hy with rfl | rfl <;> rfl
  · refine h v' w' (OwnZ.grow ho1 (hc.below hal) (ZCells.one (hz.below hal)) h2 h1) (fun W hW => ?_)
    exact (hW.alloc hbase (zbox sz A l c)).grown h2 (by simp; omega) (fun j hj => (World.ownsRow.lt hown j hj).1)

/-- the cells of a polynomial -/
theorem ZP.row {w : World} {b off len cap : Nat} {f : List Int} (h : ZP w (some ⟨b, off, none⟩) len cap f) : ∃ ys, ZCells w ys f ∧ (∀ j u, ys[j]? = some u → w.cell? ⟨b, off + j, none⟩ = some u) ∧ (∀ u ∈ ys, u.oneCell' = true) := by
  have key : ∀ j, j < len * 2 → ∃ u, w.cell? ⟨b, off + j, none⟩ = some u ∧ u.oneCell' = true := fun j hj => by
    obtain ⟨b2, off2, hA, _, hc⟩ := h.at_ (by omega)
    cases hA
    obtain ⟨s, Aj, lj, cj, h1, h2, _⟩ := hc (j / 2) (by omega)
    rcases Nat.mod_two_eq_zero_or_one j with h0 | h0
    · exact ⟨_, by rw [show off + j = off + j / 2 * 2 by omega]; exact h1, rfl⟩
    · exact ⟨_, by rw [show off + j = off + j / 2 * 2 + 1 by omega]; exact h2, rfl⟩
  refine ⟨(List.range (len * 2)).map fun j => (w.cell? ⟨b, off + j, none⟩).getD undef, ⟨by simp [h.length], fun j hj => ?_⟩, fun j u hj => ?_, fun u hu => ?_⟩
  · rw [h.length] at hj
    obtain ⟨b2, off2, hA, _, hc⟩ := h.at_ (by omega)
    cases hA
    obtain ⟨s, Aj, lj, cj, h1, h2, h3⟩ := hc j hj
    refine ⟨s, Aj, lj, cj, ?_, ?_, h3⟩
    · rw [List.getElem?_map, List.getElem?_range (by omega)]
      simp [h1]
    · rw [List.getElem?_map, List.getElem?_range (by omega)]
      simp only [Option.map_some]
      rw [show off + (j * 2 + 1) = off + j * 2 + 1 by omega, h2]; rfl
  · rcases Nat.lt_or_ge j (len * 2) with h1 | h1
    · obtain ⟨v, hv, _⟩ := key j h1
      rw [List.getElem?_map, List.getElem?_range h1] at hj
      simp only [Option.map_some, hv, Option.getD_some, Option.some.injEq] at hj
      rw [← hj]; exact hv
    · rw [List.getElem?_eq_none (by simpa using h1)] at hj; cases hj
  · obtain ⟨j, hj, rfl⟩ := List.mem_map.1 hu
    obtain ⟨v, hv, h1⟩ := key j (by simpa using hj)
    rw [hv]; exact h1
/-- append(out, f...) -/
theorem wpList_append_zs {w : World} {ops : Array Oper} {rest : List Oper} {o : Oper} {a : Act} {Q : Exit → Act → World → Prop} (hgd : o.guard = none) (s x : Operand)
    (ho : o.op = .call { callee := .builtin .append, args := #[s, x], argTypes := #[27, 27] }) (base : Nat) (v : Value) (f : List Int) (hs : a.eval s = v) (hown : OwnZ w base v f)
    (b off m c : Nat) (g : List Int) (hx : a.eval x = .slice (some ⟨b, off, none⟩) m c) (hg : ZP w (some ⟨b, off, none⟩) m c g) (hn : f.length ≤ 1000000) (hm : m ≤ 1000000) (hbase : base ≤ w.heap.size)
    (h : ∀ v' w', OwnZ w' base v' (f ++ g) → (∀ W, Below base W w → Below base W w') → wpList Try.prog ops Q rest (a.put o.dst v') w') :
    wpList Try.prog ops Q (o :: rest) a w := by
  obtain ⟨i, hi, hz0, hz1, hz2⟩ := info_parts info_z
  obtain ⟨xs, hown, hc⟩ := hown
  obtain ⟨ys, hy, hy2, hy3⟩ := hg.row
  have hgl := hg.length
  refine wpList_append_own _ hgd s x 27 ho base 45 i _ 2 32 Try.underlying27 hi hz0 hz1 hz2 rfl (by decide) v f.length xs hs hown ⟨b, off, none⟩ m c ys hx (by rw [hy.len, hgl]) ?_ hy3 (by unfold maxLen; omega) (by omega) hbase (fun v' w' h1 h2 _ => ?_)
  · intro j u hj
    rw [← hy2 j u hj]
    by_cases h0 : j = 0 <;> simp [Addr.add, h0]
  · rw [← hgl] at h1
    exact h v' w' (OwnZ.grow hown hc hy h2 h1) (fun W hW => hW.grown h2 hbase (fun j hj => (World.ownsRow.lt hown j hj).1))

theorem rep_push (k : Nat) : List.replicate k (0 : Int) ++ [0] = List.replicate (k + 1) 0 := by
  rw [List.replicate_succ']
set_option maxRecDepth 100000 in
set_option maxHeartbeats 4000000 in
theorem zup_any (b off la ca : Nat) (f : List Int) (n : Nat) (w : World) (hf : ZP w (some ⟨b, off, none⟩) la ca f) (hla : la ≤ 1000) (hn : n ≤ 1000) :
    Calls Try.prog 48 #[.slice (some ⟨b, off, none⟩) la ca, .int .i64 (n : Int)] w (PRet w (zup f n) (0 < la)) := by
  have HF := Lib.hid hf
  have hl := hf.length
  by_cases h0 : la = 0
  · subst h0
    have hf0 : f = [] := List.eq_nil_of_length_eq_zero hl
    subst hf0
    have Hz := Lib.hid (show zup [] n = [] from if_pos rfl)
    clear hf hl
    go_enter Try.func48, Try.ntmps48
    by_cases hn0 : 0 < n
    · have t1 : (0 : Int) < (n : Int) := by omega
      go_wp2
      go_loop [5, 6] (fun s5 s6 => s5 = .slice none 0 0 ∧ s6 = .int .i64 0) (fun _ _ => 0)
      case atStart => exact ⟨rfl, rfl⟩
      case round =>
        obtain ⟨rfl, rfl⟩ := hrel
        go_wp2_with (at_builtin; refine wpList_append_zs rfl (.tmp 21) (.tmp 22) rfl w.heap.size _ [] rfl (OwnZ.nil _ _) b off 0 ca [] rfl HF.out (by simp) (by omega) (Nat.le_refl _) ?_)
        intro v' w4 ho4 hb5
        obtain ⟨A', cap', hv, hzp, _⟩ := OwnZ.zp ho4
        simp only [List.length_nil] at hv hzp
        subst hv
        have Hzp := Lib.hid hzp
        have Hb5 := Lib.hid (hb5 w (Below.refl _ _))
        clear ho4 hb5 hzp
        go_wp2
        go_ret
        exact ⟨_, _, _, rfl, by rw [Hz.out]; exact Hzp.out, fun h => absurd h (Nat.lt_irrefl _), Hb5.out⟩
    · have t1 : ¬ (0 : Int) < (n : Int) := by omega
      go_wp2
      go_loop [5, 6] (fun s5 s6 => s5 = .slice none 0 0 ∧ s6 = .int .i64 0) (fun _ _ => 0)
      case atStart => exact ⟨rfl, rfl⟩
      case round =>
        obtain ⟨rfl, rfl⟩ := hrel
        go_wp2_with (at_builtin; refine wpList_append_zs rfl (.tmp 21) (.tmp 22) rfl w.heap.size _ [] rfl (OwnZ.nil _ _) b off 0 ca [] rfl HF.out (by simp) (by omega) (Nat.le_refl _) ?_)
        intro v' w4 ho4 hb5
        obtain ⟨A', cap', hv, hzp, _⟩ := OwnZ.zp ho4
        simp only [List.length_nil] at hv hzp
        subst hv
        have Hzp := Lib.hid hzp
        have Hb5 := Lib.hid (hb5 w (Below.refl _ _))
        clear ho4 hb5 hzp
        go_wp2
        go_ret
        exact ⟨_, _, _, rfl, by rw [Hz.out]; exact Hzp.out, fun h => absurd h (Nat.lt_irrefl _), Hb5.out⟩
  · have t2 : (0 : Int) < (la : Int) := by omega
    have hne : f ≠ [] := fun e => h0 (by rw [← hl, e]; rfl)
    have Hz := Lib.hid (show List.replicate n 0 ++ f = zup f n by unfold zup; rw [if_neg hne])
    have Hl := Lib.hid hl
    have la0 : 0 < la := by omega
    clear hf hl hne h0
    go_enter Try.func48, Try.ntmps48
    go_wp2
    go_loopw [5, 6] (fun s5 s6 wr => ∃ k : Nat, k ≤ n ∧ s6 = .int .i64 (k : Int) ∧ OwnZ wr w.heap.size s5 (List.replicate k 0) ∧ Below w.heap.size w wr) (fun _ s6 _ => n - (intOf s6).toNat)
    case atStart => exact ⟨0, Nat.zero_le _, rfl, OwnZ.nil _ _, Below.refl _ _⟩
    case round =>
      obtain ⟨k, hk, rfl, hown, hbw⟩ := hrel
      have Hown := Lib.hid hown
      have Hbw := Lib.hid hbw
      clear hown hbw
      by_cases hlt : k < n
      · have t1 : (k : Int) < (n : Int) := by omega
        go_wp2_with (at_builtin; refine wpList_append_z rfl (.tmp 17) (.tmp 19) rfl w.heap.size _ (List.replicate k 0) rfl Hown.out 0 none 0 0 0 rfl (ZAt.zero _ _ _) (by simp; omega) Hbw.out.size ?_)
        intro v' w4 ho4 hb5
        rw [rep_push] at ho4
        have Ho4 := Lib.hid ho4
        have Hb5 := Lib.hid (hb5 w Hbw.out)
        clear ho4 hb5
        go_wp2
        go_roundw
        case rel => exact ⟨k + 1, by omega, by go_num, Ho4.out, Hb5.out⟩
        case measure => simp [intOf]; omega
      · have t1 : ¬ (k : Int) < (n : Int) := by omega
        have hkn : k = n := by omega
        subst hkn
        go_wp2_with (at_builtin; refine wpList_append_zs rfl (.tmp 21) (.tmp 22) rfl w.heap.size _ (List.replicate k 0) rfl Hown.out b off la ca f rfl (HF.out.below Hbw.out) (by simp; omega) (by omega) Hbw.out.size ?_)
        intro v' w4 ho4 hb5
        rw [Hz.out] at ho4
        have hzl : 0 < (zup f k).length := by rw [← Hz.out]; simp; have := Hl.out; omega
        obtain ⟨A', cap', hv, hzp, hsm⟩ := OwnZ.zp ho4
        obtain ⟨L, hL⟩ : ∃ L, L = (zup f k).length := ⟨_, rfl⟩
        rw [← hL] at hv hzp hsm hzl
        subst hv
        have Hzp := Lib.hid hzp
        have Hsm := Lib.hid hsm
        have Hb5 := Lib.hid (hb5 w Hbw.out)
        clear ho4 hb5 hzp hsm hL
        go_wp2
        go_ret
        refine ⟨_, _, _, rfl, Hzp.out, fun _ => ?_, Hb5.out⟩
        obtain ⟨g, hg, _⟩ := Hsm.out hzl
        exact ⟨g, 0, hg⟩
end Go.Proofs.Ytgblfpkfapmlnaa
