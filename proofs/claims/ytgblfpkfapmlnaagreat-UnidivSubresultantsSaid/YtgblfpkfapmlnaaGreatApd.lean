/- append of one value to an own slice of elements of one cell: plain, and inside a fence. -/
import Derived.Test.YtgblfpkfapmlnaaGreatNatS
import Derived.ArgAppend
import Derived.OwnWalkIn
namespace Go.Proofs.YtgblfpkfapmlnaaGreat
open Go.RowKit

/-- the new row of an append of one value to a full slice -/
theorem grown_row {olds : List Value} {x z : Value} {n cap' : Nat} (hz : z.cells.size = 1) (hz0 : z.cells[0]! = z) (hol : olds.length = n) (hge : n + 1 ≤ cap') :
    ∃ CS : Array Value, CS = (olds ++ [x]).toArray ++ Builtin.zeroCells z.cells (cap' - (n + 1)) ∧ CS.size = cap' ∧ (∀ j, j < n → CS[j]? = olds[j]?) ∧ CS[n]? = some x ∧ ∀ j, n + 1 ≤ j → j < cap' → CS[j]? = some z := by
  obtain ⟨zs, hzs⟩ : ∃ zs, zs = Builtin.zeroCells z.cells (cap' - (n + 1)) := ⟨_, rfl⟩
  have hzl : zs.size = cap' - (n + 1) := by rw [hzs, size_zeroCells, hz, Nat.mul_one]
  have hzv : ∀ j, j < zs.size → zs[j]? = some z := fun j hj => by
    have hj2 : j < (cap' - (n + 1)) * z.cells.size := by rw [hzs, size_zeroCells] at hj; exact hj
    rw [hzs]
    unfold Builtin.zeroCells
    rw [Array.getElem?_map, Array.getElem?_range, if_pos hj2]
    simp only [Option.map_some, hz, Nat.mod_one, hz0]
  rw [← hzs]
  refine ⟨_, rfl, ?_, fun j hj => ?_, ?_, fun j h1 h2 => ?_⟩
  · rw [Array.size_append, List.size_toArray, List.length_append, hol, hzl]; simp; omega
  · rw [Array.getElem?_append_left (by simp; omega), List.getElem?_toArray, List.getElem?_append_left (by omega)]
  · rw [Array.getElem?_append_left (by simp; omega), List.getElem?_toArray, List.getElem?_append_right (by omega), hol, Nat.sub_self]; rfl
  · have e1 : (olds ++ [x]).toArray.size = n + 1 := by simp [hol]
    rw [Array.getElem?_append_right (by omega), e1]
    exact hzv _ (by omega)

/-- append(list, x) to an own slice of elements of one cell -/
theorem wpList_app1 {w : World} {ops : Array Oper} {rest : List Oper} {o : Oper} {a : Act} {Q : Exit → Act → World → Prop} (hgd : o.guard = none) (s x : Operand) (t e : TypeId)
    (ho : o.op = .call { callee := .builtin .append, args := #[s, x], argTypes := #[t, t] }) (i0 : TypeInfo) (z : Value) (ht : Tryz.prog.underlying t = some (.slice e)) (hi : Tryz.prog.info? e = some i0) (hz0 : i0.zero = some z) (hz1 : i0.size = 1) (hz2 : i0.bytes ≤ 128) (hzs : z.cells.size = 1) (hzc : z.cells[0]! = z)
    (v : Value) (n : Nat) (cs : Array Value) (hs : a.eval s = v) (hv : (v = .slice none 0 0 ∧ n = 0 ∧ cs = #[]) ∨ ∃ g, v = .slice (some ⟨g, 0, none⟩) n cs.size ∧ Blk w g e cs ∧ n ≤ cs.size)
    (gx : Nat) (y : Value) (hx : a.eval x = .slice (some ⟨gx, 0, none⟩) 1 1) (hxc : w.cell? ⟨gx, 0, none⟩ = some y) (hy : y.oneCell' = true) (hn : n + 1 ≤ 1000000000000)
    (h : ∀ g' w' CS, Blk w' g' e CS → n + 1 ≤ CS.size → (∀ j, j < n → CS[j]? = cs[j]?) → CS[n]? = some y → (∀ j, n + 1 ≤ j → j < CS.size → CS[j]? = some z ∨ CS[j]? = cs[j]?) →
      ((v = .slice (some ⟨g', 0, none⟩) n CS.size ∧ w' = w.setCell ⟨g', n, none⟩ y ∧ CS.size = cs.size ∧ Blk w g' e cs) ∨ (g' = w.heap.size ∧ w' = w.drew.alloc (.cells CS e))) → wpList Tryz.prog ops Q rest (a.put o.dst (.slice (some ⟨g', 0, none⟩) (n + 1) CS.size)) w') :
    wpList Tryz.prog ops Q (o :: rest) a w := by
  refine wpList_plain hgd fun K hK' => ?_
  have hbytes : ∀ m, m ≤ 1000000000001 → m * i0.bytes ≤ 140737488355328 := fun m hm => Nat.le_trans (Nat.mul_le_mul hm hz2) (by omega)
  have hnews : ∀ (j : Nat) (u : Value), [y][j]? = some u → w.cell? ((⟨gx, 0, none⟩ : Addr).add j) = some u := fun j u hj => by
    match j, hj with
    | 0, hj => simp at hj; subst hj; simpa [Addr.add] using hxc
  rcases hv with ⟨rfl, rfl, rfl⟩ | ⟨g, rfl, hk, hnc⟩
  · have hrun := run_append_nil (P := Tryz.prog) w t o.type e i0 z ht hi hz0 ⟨gx, 0, none⟩ 1 1 [y] (by rw [hz1]; rfl) hnews (by omega) (by omega) (by have := hbytes 1 (by omega); omega)
    have hge := grownCap_ge w 1 0 e
    generalize grownCap w 1 0 e = cap' at hrun hge
    obtain ⟨CS, hCS, hc0, hc1, hc2, hc3⟩ := grown_row (olds := []) (x := y) (n := 0) (cap' := cap') hzs hzc rfl hge
    unfold Oper.wp
    simp [execOp, ho, resolve, invoke, builtin, hs, hx, hrun, Result.andThen]
    simp only [List.nil_append, Nat.zero_add] at hCS
    rw [← hCS]
    have := hK' _ _ (h w.heap.size (w.drew.alloc (.cells CS e)) CS (Blk.new w.drew _ _) (by omega) (fun j hj => by omega) hc2 (fun j h1 h2 => .inl (hc3 j h1 (by omega))) (.inr ⟨rfl, rfl⟩))
    rw [hc0] at this
    exact this
  · by_cases hr : n + 1 ≤ cs.size
    · have hold : ∃ u, w.cell? ⟨g, n, none⟩ = some u := ⟨cs[n], by rw [hk.cell, Array.getElem?_eq_getElem (by omega)]⟩
      obtain ⟨u, hold⟩ := hold
      have hrun := run_append_room_cells (P := Tryz.prog) w t o.type e i0 ht hi g 0 n cs.size ⟨gx, 0, none⟩ 1 1 [y] (by rw [hz1]; rfl) hnews (fun u hu => by simp at hu; subst hu; exact hy) hr
        (fun j hj => by
          have : j = 0 := by simpa using hj
          subst this
          rw [hz1, Nat.zero_add, Nat.mul_one, Nat.add_zero, hold]; rfl)
        (fun j hj => hk.frozen _)
      unfold Oper.wp
      simp [execOp, ho, resolve, invoke, builtin, hs, hx, hrun, Result.andThen]
      have ew : w.setCells g (0 + n * i0.size) [y] = w.setCell ⟨g, n, none⟩ y := by
        rw [hz1, Nat.zero_add, Nat.mul_one]; rfl
      simp only [Nat.zero_add] at ew
      rw [ew]
      have := hK' _ _ (h g _ (cs.setIfInBounds n y) (hk.set_ n y) (by simpa using hr) (fun j hj => by rw [Array.getElem?_setIfInBounds_ne (by omega)]) (by rw [Array.getElem?_setIfInBounds_self_of_lt (by omega)]) (fun j h1 h2 => .inr (by rw [Array.getElem?_setIfInBounds_ne (by omega)])) (.inl ⟨by simp, rfl, by simp, hk⟩))
      simp only [Array.size_setIfInBounds] at this
      exact this
    · have hne : n = cs.size := by omega
      subst hne
      have hoj : ∀ j, cs.toList[j]? = cs[j]? := fun j => by rw [Array.getElem?_toList]
      have hfit := growslice_fits (need := cs.size + 1) (old := cs.size) (bytes := i0.bytes) (by omega) (hbytes _ (by omega))
      have hrun := run_append_grow (P := Tryz.prog) w t o.type e i0 z ht hi hz0 ⟨g, 0, none⟩ cs.size cs.size cs.toList (by rw [hz1, Array.length_toList]; omega)
        (fun j v hj => by rw [Addr.add_lit, Nat.zero_add, hk.cell, ← hoj]; exact hj)
        ⟨gx, 0, none⟩ 1 1 [y] (by rw [hz1]; rfl) hnews (by omega) (by omega) hfit
      have hge := grownCap_ge w (cs.size + 1) cs.size e
      generalize grownCap w (cs.size + 1) cs.size e = cap' at hrun hge
      obtain ⟨CS, hCS, hc0, hc1, hc2, hc3⟩ := grown_row (olds := cs.toList) (x := y) (n := cs.size) (cap' := cap') hzs hzc (by simp) hge
      unfold Oper.wp
      simp [execOp, ho, resolve, invoke, builtin, hs, hx, hrun, Result.andThen]
      have e2 : cs.push y ++ Builtin.zeroCells z.cells (cap' - (cs.size + 1)) = CS := by
        have e3 : (cs.toList ++ [y]).toArray = cs.push y := by apply Array.ext'; simp
        rw [hCS, e3]
      rw [e2]
      have := hK' _ _ (h w.heap.size (w.drew.alloc (.cells CS e)) CS (Blk.new w.drew _ _) (by omega) (fun j hj => by rw [hc1 j hj]; exact hoj j) hc2 (fun j h1 h2 => .inl (hc3 j h1 (by omega))) (.inr ⟨rfl, rfl⟩))
      rw [hc0] at this
      exact this

/-- the same inside a fence: append(list, x) to an own slice of elements of one cell -/
theorem wpListIn_app1 {F : Fence} {fn : Nat} {w : World} {ops : Array Oper} {rest : List Oper} {o : Oper} {a : Act} {Q : Exit → Act → World → Prop} (hgd : o.guard = none) (s x : Operand) (t e : TypeId)
    (ho : o.op = .call { callee := .builtin .append, args := #[s, x], argTypes := #[t, t] }) (i0 : TypeInfo) (z : Value) (ht : Tryz.prog.underlying t = some (.slice e)) (hi : Tryz.prog.info? e = some i0) (hz0 : i0.zero = some z) (hz1 : i0.size = 1) (hz2 : i0.bytes ≤ 128) (hzs : z.cells.size = 1) (hzc : z.cells[0]! = z)
    (v : Value) (n : Nat) (cs : Array Value) (hs : a.eval s = v) (hv : (v = .slice none 0 0 ∧ n = 0 ∧ cs = #[]) ∨ ∃ g, v = .slice (some ⟨g, 0, none⟩) n cs.size ∧ Blk w g e cs ∧ n ≤ cs.size)
    (gx : Nat) (y : Value) (hx : a.eval x = .slice (some ⟨gx, 0, none⟩) 1 1) (hxc : w.cell? ⟨gx, 0, none⟩ = some y) (hy : y.oneCell' = true) (hn : n + 1 ≤ 1000000000000)
    (h : ∀ g' w' CS, Blk w' g' e CS → n + 1 ≤ CS.size → (∀ j, j < n → CS[j]? = cs[j]?) → CS[n]? = some y → (∀ j, n + 1 ≤ j → j < CS.size → CS[j]? = some z ∨ CS[j]? = cs[j]?) →
      ((v = .slice (some ⟨g', 0, none⟩) n CS.size ∧ w' = w.setCell ⟨g', n, none⟩ y ∧ CS.size = cs.size ∧ Blk w g' e cs) ∨ (g' = w.heap.size ∧ w' = w.drew.alloc (.cells CS e))) → wpListIn F fn Tryz.prog ops Q rest (a.put o.dst (.slice (some ⟨g', 0, none⟩) (n + 1) CS.size)) w') :
    wpListIn F fn Tryz.prog ops Q (o :: rest) a w := by
  refine wpListIn_plain hgd fun K hK' => ?_
  have hbytes : ∀ m, m ≤ 1000000000001 → m * i0.bytes ≤ 140737488355328 := fun m hm => Nat.le_trans (Nat.mul_le_mul hm hz2) (by omega)
  have hnews : ∀ (j : Nat) (u : Value), [y][j]? = some u → w.cell? ((⟨gx, 0, none⟩ : Addr).add j) = some u := fun j u hj => by
    match j, hj with
    | 0, hj => simp at hj; subst hj; simpa [Addr.add] using hxc
  rcases hv with ⟨rfl, rfl, rfl⟩ | ⟨g, rfl, hk, hnc⟩
  · have hrun := run_append_nil (P := Tryz.prog) w t o.type e i0 z ht hi hz0 ⟨gx, 0, none⟩ 1 1 [y] (by rw [hz1]; rfl) hnews (by omega) (by omega) (by have := hbytes 1 (by omega); omega)
    have hge := grownCap_ge w 1 0 e
    generalize grownCap w 1 0 e = cap' at hrun hge
    obtain ⟨CS, hCS, hc0, hc1, hc2, hc3⟩ := grown_row (olds := []) (x := y) (n := 0) (cap' := cap') hzs hzc rfl hge
    unfold Oper.wpIn
    refine ⟨by simp [Oper.about, ho, resolve, Target.leads, Sem.run_pure], ?_⟩
    rw [Oper.semAt_plain F _ _ (by rw [ho]; intro c hc'; cases hc')]
    simp [execOp, ho, resolve, invoke, builtin, hs, hx, hrun, Result.andThen]
    simp only [List.nil_append, Nat.zero_add] at hCS
    rw [← hCS]
    have := hK' _ _ (h w.heap.size (w.drew.alloc (.cells CS e)) CS (Blk.new w.drew _ _) (by omega) (fun j hj => by omega) hc2 (fun j h1 h2 => .inl (hc3 j h1 (by omega))) (.inr ⟨rfl, rfl⟩))
    rw [hc0] at this
    exact this
  · by_cases hr : n + 1 ≤ cs.size
    · have hold : ∃ u, w.cell? ⟨g, n, none⟩ = some u := ⟨cs[n], by rw [hk.cell, Array.getElem?_eq_getElem (by omega)]⟩
      obtain ⟨u, hold⟩ := hold
      have hrun := run_append_room_cells (P := Tryz.prog) w t o.type e i0 ht hi g 0 n cs.size ⟨gx, 0, none⟩ 1 1 [y] (by rw [hz1]; rfl) hnews (fun u hu => by simp at hu; subst hu; exact hy) hr
        (fun j hj => by
          have : j = 0 := by simpa using hj
          subst this
          rw [hz1, Nat.zero_add, Nat.mul_one, Nat.add_zero, hold]; rfl)
        (fun j hj => hk.frozen _)
      unfold Oper.wpIn
      refine ⟨by simp [Oper.about, ho, resolve, Target.leads, Sem.run_pure], ?_⟩
      rw [Oper.semAt_plain F _ _ (by rw [ho]; intro c hc'; cases hc')]
      simp [execOp, ho, resolve, invoke, builtin, hs, hx, hrun, Result.andThen]
      have ew : w.setCells g (0 + n * i0.size) [y] = w.setCell ⟨g, n, none⟩ y := by
        rw [hz1, Nat.zero_add, Nat.mul_one]; rfl
      simp only [Nat.zero_add] at ew
      rw [ew]
      have := hK' _ _ (h g _ (cs.setIfInBounds n y) (hk.set_ n y) (by simpa using hr) (fun j hj => by rw [Array.getElem?_setIfInBounds_ne (by omega)]) (by rw [Array.getElem?_setIfInBounds_self_of_lt (by omega)]) (fun j h1 h2 => .inr (by rw [Array.getElem?_setIfInBounds_ne (by omega)])) (.inl ⟨by simp, rfl, by simp, hk⟩))
      simp only [Array.size_setIfInBounds] at this
      exact this
    · have hne : n = cs.size := by omega
      subst hne
      have hoj : ∀ j, cs.toList[j]? = cs[j]? := fun j => by rw [Array.getElem?_toList]
      have hfit := growslice_fits (need := cs.size + 1) (old := cs.size) (bytes := i0.bytes) (by omega) (hbytes _ (by omega))
      have hrun := run_append_grow (P := Tryz.prog) w t o.type e i0 z ht hi hz0 ⟨g, 0, none⟩ cs.size cs.size cs.toList (by rw [hz1, Array.length_toList]; omega)
        (fun j v hj => by rw [Addr.add_lit, Nat.zero_add, hk.cell, ← hoj]; exact hj)
        ⟨gx, 0, none⟩ 1 1 [y] (by rw [hz1]; rfl) hnews (by omega) (by omega) hfit
      have hge := grownCap_ge w (cs.size + 1) cs.size e
      generalize grownCap w (cs.size + 1) cs.size e = cap' at hrun hge
      obtain ⟨CS, hCS, hc0, hc1, hc2, hc3⟩ := grown_row (olds := cs.toList) (x := y) (n := cs.size) (cap' := cap') hzs hzc (by simp) hge
      unfold Oper.wpIn
      refine ⟨by simp [Oper.about, ho, resolve, Target.leads, Sem.run_pure], ?_⟩
      rw [Oper.semAt_plain F _ _ (by rw [ho]; intro c hc'; cases hc')]
      simp [execOp, ho, resolve, invoke, builtin, hs, hx, hrun, Result.andThen]
      have e2 : cs.push y ++ Builtin.zeroCells z.cells (cap' - (cs.size + 1)) = CS := by
        have e3 : (cs.toList ++ [y]).toArray = cs.push y := by apply Array.ext'; simp
        rw [hCS, e3]
      rw [e2]
      have := hK' _ _ (h w.heap.size (w.drew.alloc (.cells CS e)) CS (Blk.new w.drew _ _) (by omega) (fun j hj => by rw [hc1 j hj]; exact hoj j) hc2 (fun j h1 h2 => .inl (hc3 j h1 (by omega))) (.inr ⟨rfl, rfl⟩))
      rw [hc0] at this
      exact this
end Go.Proofs.YtgblfpkfapmlnaaGreat
