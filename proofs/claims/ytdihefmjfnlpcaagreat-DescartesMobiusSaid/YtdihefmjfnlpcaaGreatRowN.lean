/- The end of a row whose arguments are a slice of int8s and two pairs of int8s. -/
import Derived.Test.YtdihefmjfnlpcaaGreatRowP
import Derived.Test.YtdihefmjfnlpcaaGreatMbw
namespace Go.Proofs.YtdihefmjfnlpcaaGreat
open Go.ChangeShapes Go.WideShapes Go.ChangeAt Go.RowKit

theorem Tryz.cellsI8 : Tryz.prog.cellsOf 40 = 1 := by kernel_rfl

/-- A slice of int8s that came in. -/
theorem open_i8 {H : Type} {enc : TypeId × Value → H} {W : World} {A : Option Addr} {len cap : Nat} {d : DataW H} {p : List MemPlace}
    (h : DataW.Trod enc Tryz.prog W 0 (fun _ => true) true 39 (.slice A len cap) d p) (hlt : ∀ x ∈ p, x.block < W.heap.size) :
    len ≤ 9223372036854775807 ∧ ∃ zs, I8At W A len cap zs := by
  obtain ⟨fuel, hf⟩ := h
  rcases open_ints Tryz.underlying39 Tryz.underlying40 Tryz.cellsI8 hf with ⟨hcs, hx⟩ | ⟨a, len', cap', zs, hcs, _, hl, hm, hz, hx, hcell, hwz⟩
  · simp [Value.cells] at hcs
    obtain ⟨rfl, rfl, rfl⟩ := hcs
    exact ⟨by omega, [], rfl, (fun c hc => by cases hc), .inl rfl⟩
  · simp [Value.cells] at hcs
    obtain ⟨rfl, rfl, rfl⟩ := hcs
    simp only [Prod.mk.injEq] at hx
    obtain ⟨rfl, rfl⟩ := hx
    simp only [if_true] at hz
    refine ⟨by unfold maxLen at hm; omega, zs.take len, by rw [List.length_take]; omega, fun c hc => i8_wf (hwz c (List.mem_of_mem_take hc)), ?_⟩
    by_cases hl0 : len = 0
    · exact .inl hl0
    · obtain ⟨b, off, spot⟩ := a
      have hspot : spot = none := by simpa [Addr.add] using World.cell?_spot (hcell 0 (by omega))
      subst hspot
      have hbW : b < W.heap.size := hlt (.cell b off) (MemPlace.mem_row.2 ⟨0, by omega, by simp⟩)
      refine .inr ⟨b, off, rfl, hbW, fun j hj => ?_⟩
      have := hcell j (by omega)
      rw [show (⟨b, off, none⟩ : Addr).add j = ⟨b, off + j, none⟩ by simp [Addr.add]] at this
      rw [this]
      simp [List.getD_eq_getElem?_getD, hj]

set_option maxRecDepth 100000 in
/-- A law of a slice of int8s and two pairs of int8s that answers true and only makes new memory: its row's step. -/
theorem lifted_pairs8 (f : Nat) (fn : Func) (hp : fn.params = #[39, 41, 41]) (hr : fn.resultTypes = #[4]) {H : Type} (enc : TypeId × Value → H) (spec : ChangeSpec) (hsv : spec.vars = []) (hsf : ∀ d d' d'', spec.fn H [d, d', d''] = { results := [.lit (.bool true)], args := [d, d', d''] })
    (walk : ∀ A len cap p q0 q1 q2 q3 w, I8At w A len cap p → len ≤ 9223372036854775807 → Calls Tryz.prog f #[.slice A len cap, .agg #[.int .i8 q0, .int .i8 q1], .agg #[.int .i8 q2, .int .i8 q3]] w fun e w' => e = .returned (.bool true) ∧ Below w.heap.size w w')
    (W : World) (args : Array Value) (ds gs : List (DataW H)) (before : List MemPlace)
    (hval : ∀ (j : Nat) t v, fn.params[j]? = some t → args[j]? = some v → Value.okWide Tryz.prog W .any 0 t v)
    (hW : DataW.Whole enc Tryz.prog fn.params.toList spec.vars false W args.toList ds gs before) :
    Calls Tryz.prog f args W fun e W' => ∃ v, e = Ending.returned v ∧ spec.post enc Tryz.prog fn false true false false W args v W' := by
  have hW' := hW
  obtain ⟨p, q, hA0, hV, rfl, _, _⟩ := hW
  have hA : DataW.TrodAll enc Tryz.prog W 0 (fun _ => true) true fn.params.toList args.toList ds p := hA0
  rw [hp] at hA hval
  obtain ⟨v0, v1, v2, d0, d1, d2, p0, p1, p2, rfl, rfl, rfl, h0, h1, h2⟩ := trodAll_three hA
  rw [hsv] at hV
  obtain ⟨rfl, rfl⟩ := trodVars_none hV
  obtain ⟨a0, len, cap, rfl⟩ := okWide_slice Tryz.underlying39 (hval 0 39 v0 rfl rfl)
  obtain ⟨a, b, rfl, rfl, rfl, wa, wb⟩ := WideMaps.open_pair Tryz.pairKey Tryz.underlying40 (hval 1 41 v1 rfl rfl) h1
  obtain ⟨c, e, rfl, rfl, rfl, wc, we⟩ := WideMaps.open_pair Tryz.pairKey Tryz.underlying40 (hval 2 41 v2 rfl rfl) h2
  simp only [List.append_nil] at hW'
  have hlt : ∀ x ∈ p0, x.block < W.heap.size := fun x hx => by simpa using hW'.lt x hx
  obtain ⟨hlm, zs, hat⟩ := open_i8 h0 hlt
  refine (walk a0 len cap zs a b c e W hat hlm).mono fun e W' ⟨he, hb⟩ => ?_
  subst he
  refine ⟨_, rfl, post_below (pa := p0) (pv := []) hW' (fun _ _ _ => ?_) (fun sp hs => ?_) (fun _ _ => ?_) (by simp) hb ?_⟩
  · rw [List.append_nil, hsf, hr]
    exact trodAll_mk1 (shut_bool Tryz.underlying4 _)
  · rw [List.append_nil, hsf, hp]
    have h3 := trodAll_mk3 (Go.WideElems.Trod_stays Tryz.laidOut (by kernel_rfl) (of_decide_eq_true (by kernel_rfl)) h0 (fun x hx => hb.same (hlt x hx)) hs) (WideMaps.shut_pair (enc := enc) (W := W') (base := 0) (sp := sp) (held := true) Tryz.pairKey Tryz.underlying40 wa wb) (WideMaps.shut_pair (enc := enc) (W := W') (base := 0) (sp := sp) (held := true) Tryz.pairKey Tryz.underlying40 wc we)
    simpa using h3
  · rw [hsv, List.append_nil, hsf]
    rfl
  · exact ok_one hr rfl (okWide_bool_mk Tryz.underlying4 _)
end Go.Proofs.YtdihefmjfnlpcaaGreat
