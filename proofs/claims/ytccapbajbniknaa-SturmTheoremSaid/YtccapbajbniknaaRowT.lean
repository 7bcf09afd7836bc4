/- The end of a row whose arguments are a slice of int16s and two pairs of int8s. -/
import Derived.Test.YtccapbajbniknaaRowP
namespace Go.Proofs.Ytccapbajbniknaa
open Go.ChangeShapes Go.WideShapes Go.ChangeAt Go.RowKit

set_option maxRecDepth 100000 in
/-- A law of a slice of int16s and two pairs of int8s that answers true and only makes new memory: its row's step. -/
theorem lifted_s16pp (f : Nat) (fn : Func) (hp : fn.params = #[36, 46, 46]) (hr : fn.resultTypes = #[4]) {H : Type} (enc : TypeId × Value → H) (spec : ChangeSpec) (hsv : spec.vars = []) (hsf : ∀ d d' d'', spec.fn H [d, d', d''] = { results := [.lit (.bool true)], args := [d, d', d''] })
    (walk : ∀ A len cap p q0 q1 q2 q3 w, I16At w A len cap p → len ≤ 9223372036854775807 → (-128 ≤ q0 ∧ q0 ≤ 127) → (-128 ≤ q1 ∧ q1 ≤ 127) → (-128 ≤ q2 ∧ q2 ≤ 127) → (-128 ≤ q3 ∧ q3 ≤ 127) → Calls Try.prog f #[.slice A len cap, .agg #[.int .i8 q0, .int .i8 q1], .agg #[.int .i8 q2, .int .i8 q3]] w fun e w' => e = .returned (.bool true) ∧ Below w.heap.size w w')
    (W : World) (args : Array Value) (ds gs : List (DataW H)) (before : List MemPlace)
    (hval : ∀ (j : Nat) t v, fn.params[j]? = some t → args[j]? = some v → Value.okWide Try.prog W .any 0 t v)
    (hW : DataW.Whole enc Try.prog fn.params.toList spec.vars false W args.toList ds gs before) :
    Calls Try.prog f args W fun e W' => ∃ v, e = Ending.returned v ∧ spec.post enc Try.prog fn false true false false W args v W' := by
  have hW' := hW
  obtain ⟨p, q, hA0, hV, rfl, _, _⟩ := hW
  have hA : DataW.TrodAll enc Try.prog W 0 (fun _ => true) true fn.params.toList args.toList ds p := hA0
  rw [hp] at hA hval
  obtain ⟨v0, v1, v2, d0, d1, d2, p0, p1, p2, rfl, rfl, rfl, h0, h1, h2⟩ := trodAll_three hA
  rw [hsv] at hV
  obtain ⟨rfl, rfl⟩ := trodVars_none hV
  obtain ⟨a0, len, cap, rfl⟩ := okWide_slice Try.underlying36 (hval 0 36 v0 rfl rfl)
  obtain ⟨a, b, rfl, rfl, rfl, wa, wb⟩ := WideMaps.open_pair Try.pairKey Try.underlying45 (hval 1 46 v1 rfl rfl) h1
  obtain ⟨c, e, rfl, rfl, rfl, wc, we⟩ := WideMaps.open_pair Try.pairKey Try.underlying45 (hval 2 46 v2 rfl rfl) h2
  simp only [List.append_nil] at hW'
  have hlt : ∀ x ∈ p0, x.block < W.heap.size := fun x hx => by simpa using hW'.lt x hx
  obtain ⟨hlm, zs, hat⟩ := open_i16 h0 hlt
  refine (walk a0 len cap zs a b c e W hat hlm (i8_wf wa) (i8_wf wb) (i8_wf wc) (i8_wf we)).mono fun e W' ⟨he, hb⟩ => ?_
  subst he
  refine ⟨_, rfl, post_below (pa := p0) (pv := []) hW' (fun _ _ _ => ?_) (fun sp hs => ?_) (fun _ _ => ?_) (by simp) hb ?_⟩
  · rw [List.append_nil, hsf, hr]
    exact trodAll_mk1 (shut_bool Try.underlying4 _)
  · rw [List.append_nil, hsf, hp]
    have h3 := trodAll_mk3 (Go.WideElems.Trod_stays Try.laidOut (by kernel_rfl) (of_decide_eq_true (by kernel_rfl)) h0 (fun x hx => hb.same (hlt x hx)) hs) (WideMaps.shut_pair (enc := enc) (W := W') (base := 0) (sp := sp) (held := true) Try.pairKey Try.underlying45 wa wb) (WideMaps.shut_pair (enc := enc) (W := W') (base := 0) (sp := sp) (held := true) Try.pairKey Try.underlying45 wc we)
    simpa using h3
  · rw [hsv, List.append_nil, hsf]
    rfl
  · exact ok_one hr rfl (okWide_bool_mk Try.underlying4 _)
end Go.Proofs.Ytccapbajbniknaa
