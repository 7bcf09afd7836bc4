/- The end of a row whose arguments are three slices of int16s in an array and a pair of int8s. -/
import Derived.Test.YtdihefmjfnlpcaaRowP
import Derived.Laws.IdiomArrays
namespace Go.Proofs.Ytdihefmjfnlpcaa
open Go.ChangeShapes Go.WideShapes Go.ChangeAt Go.RowKit

theorem Try.cellsArr3 : Try.prog.cellsOf 42 = 3 := by kernel_rfl
theorem Try.cellsSl16 : Try.prog.cellsOf 22 = 1 := by kernel_rfl

/-- A slice of int16s that came in, as a cell. -/
theorem open_i16v {H : Type} {enc : TypeId × Value → H} {W : World} {fuel : Nat} {v : Value} {x : DataW H × List MemPlace}
    (h : DataW.trod enc Try.prog W 0 (fun _ => true) true fuel 22 [v] = some x) (hlt : ∀ y ∈ x.2, y.block < W.heap.size) :
    ∃ A len cap zs, v = .slice A len cap ∧ len ≤ 9223372036854775807 ∧ I16At W A len cap zs := by
  rcases open_ints Try.underlying22 Try.underlying57 Try.cellsI16 h with ⟨hcs, hx⟩ | ⟨a, len', cap', zs, hcs, _, hl, hm, hz, hx, hcell, hwz⟩
  · simp at hcs
    exact ⟨none, 0, 0, [], hcs, by omega, rfl, (fun c hc => by cases hc), .inl rfl⟩
  · simp at hcs
    simp only [if_true] at hz
    refine ⟨some a, len', cap', zs.take len', hcs, by unfold maxLen at hm; omega, by rw [List.length_take]; omega, fun c hc => i16_wf (hwz c (List.mem_of_mem_take hc)), ?_⟩
    by_cases hl0 : len' = 0
    · exact .inl hl0
    · obtain ⟨b, off, spot⟩ := a
      have hspot : spot = none := by simpa [Addr.add] using World.cell?_spot (hcell 0 (by omega))
      subst hspot
      have hbW : b < W.heap.size := by
        refine hlt (.cell b off) ?_
        rw [hx]
        exact MemPlace.mem_row.2 ⟨0, by omega, by simp⟩
      refine .inr ⟨b, off, rfl, hbW, fun j hj => ?_⟩
      have := hcell j (by omega)
      rw [show (⟨b, off, none⟩ : Addr).add j = ⟨b, off + j, none⟩ by simp [Addr.add]] at this
      rw [this]
      simp [List.getD_eq_getElem?_getD, hj]

set_option maxRecDepth 100000 in
/-- A law of three slices of int16s and a pair of int8s that answers true and only makes new memory: its row's step. -/
theorem lifted_three (f : Nat) (fn : Func) (hp : fn.params = #[42, 44]) (hr : fn.resultTypes = #[4]) {H : Type} (enc : TypeId × Value → H) (spec : ChangeSpec) (hsv : spec.vars = []) (hsf : ∀ d d', spec.fn H [d, d'] = { results := [.lit (.bool true)], args := [d, d'] })
    (walk : ∀ (AA : Nat → Option Addr) (LL CC : Nat → Nat) (PP : Nat → List Int) q0 q1 w, (∀ k, k < 3 → I16At w (AA k) (LL k) (CC k) (PP k) ∧ LL k ≤ 9223372036854775807) → (-128 ≤ q0 ∧ q0 ≤ 127) → (-128 ≤ q1 ∧ q1 ≤ 127) → Calls Try.prog f #[.agg #[.slice (AA 0) (LL 0) (CC 0), .slice (AA 1) (LL 1) (CC 1), .slice (AA 2) (LL 2) (CC 2)], .agg #[.int .i8 q0, .int .i8 q1]] w fun e w' => e = .returned (.bool true) ∧ Below w.heap.size w w')
    (W : World) (args : Array Value) (ds gs : List (DataW H)) (before : List MemPlace)
    (hval : ∀ (j : Nat) t v, fn.params[j]? = some t → args[j]? = some v → Value.okWide Try.prog W .any 0 t v)
    (hW : DataW.Whole enc Try.prog fn.params.toList spec.vars false W args.toList ds gs before) :
    Calls Try.prog f args W fun e W' => ∃ v, e = Ending.returned v ∧ spec.post enc Try.prog fn false true false false W args v W' := by
  have hW' := hW
  obtain ⟨p, q, hA0, hV, rfl, _, _⟩ := hW
  have hA : DataW.TrodAll enc Try.prog W 0 (fun _ => true) true fn.params.toList args.toList ds p := hA0
  rw [hp] at hA hval
  obtain ⟨v0, v1, d0, d1, p0, p1, rfl, rfl, rfl, h0, h1⟩ := trodAll_two hA
  rw [hsv] at hV
  obtain ⟨rfl, rfl⟩ := trodVars_none hV
  obtain ⟨a, b, rfl, rfl, rfl, wa, wb⟩ := WideMaps.open_pair Try.pairKey Try.underlying43 (hval 1 44 v1 rfl rfl) h1
  have hok := hval 0 42 v0 rfl rfl
  simp only [Value.okWide, Try.underlying42] at hok
  obtain ⟨cs, rfl, hsz, _⟩ := hok
  rw [Try.cellsArr3] at hsz
  obtain ⟨c0, c1, c2, rfl⟩ : ∃ c0 c1 c2, cs = #[c0, c1, c2] := by
    obtain ⟨l⟩ := cs
    match l, hsz with
    | [x, y, z], _ => exact ⟨x, y, z, rfl⟩
  simp only [List.append_nil] at hW'
  have hlt : ∀ x ∈ p0, x.block < W.heap.size := fun x hx => by simpa using hW'.lt x (by simpa using hx)
  have h0' := h0
  obtain ⟨fuel, hf⟩ := h0'
  obtain ⟨y0, y1, y2, n, hx, t0, t1, t2⟩ := trod_array3 Try.underlying42 Try.cellsSl16 (show DataW.trod enc Try.prog W 0 (fun _ => true) true fuel 42 [c0, c1, c2] = some (d0, p0) from hf)
  simp only [Prod.mk.injEq] at hx
  have hpp := hx.2
  obtain ⟨A0, l0, k0, z0, rfl, m0, g0⟩ := open_i16v t0 (fun y hy => hlt y (by rw [hpp]; exact List.mem_append.2 (.inl hy)))
  obtain ⟨A1, l1, k1, z1, rfl, m1, g1⟩ := open_i16v t1 (fun y hy => hlt y (by rw [hpp]; exact List.mem_append.2 (.inr (List.mem_append.2 (.inl hy)))))
  obtain ⟨A2, l2, k2, z2, rfl, m2, g2⟩ := open_i16v t2 (fun y hy => hlt y (by rw [hpp]; exact List.mem_append.2 (.inr (List.mem_append.2 (.inr hy)))))
  refine (walk (fun k => match k with | 0 => A0 | 1 => A1 | _ => A2) (fun k => match k with | 0 => l0 | 1 => l1 | _ => l2) (fun k => match k with | 0 => k0 | 1 => k1 | _ => k2) (fun k => match k with | 0 => z0 | 1 => z1 | _ => z2) a b W (fun k hk => by
    match k, hk with
    | 0, _ => exact ⟨g0, m0⟩
    | 1, _ => exact ⟨g1, m1⟩
    | 2, _ => exact ⟨g2, m2⟩) (i8_wf wa) (i8_wf wb)).mono fun e W' ⟨he, hb⟩ => ?_
  subst he
  refine ⟨_, rfl, post_below (pa := p0) (pv := []) hW' (fun _ _ _ => ?_) (fun sp hs => ?_) (fun _ _ => ?_) (by simp) hb ?_⟩
  · rw [List.append_nil, hsf, hr]
    exact trodAll_mk1 (shut_bool Try.underlying4 _)
  · rw [List.append_nil, hsf, hp]
    have h3 := trodAll_mk2 (Go.WideElems.Trod_stays Try.laidOut (by kernel_rfl) (of_decide_eq_true (by kernel_rfl)) h0 (fun x hx => hb.same (hlt x hx)) hs) (WideMaps.shut_pair (enc := enc) (W := W') (base := 0) (sp := sp) (held := true) Try.pairKey Try.underlying43 wa wb)
    simpa using h3
  · rw [hsv, List.append_nil, hsf]
    rfl
  · exact ok_one hr rfl (okWide_bool_mk Try.underlying4 _)
end Go.Proofs.Ytdihefmjfnlpcaa
