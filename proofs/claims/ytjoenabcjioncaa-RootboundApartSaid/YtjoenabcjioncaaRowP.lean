/- The end of a row whose arguments are a pair of int8s and a slice of int16s. -/
import Derived.Test.YtjoenabcjioncaaRow
import Derived.WideKeyPair
namespace Go.Proofs.Ytjoenabcjioncaa
open Go.ChangeShapes Go.WideShapes Go.ChangeAt Go.RowKit

theorem Try.pairKey : WideMaps.ArrKey Try.prog 23 22 2 := ⟨Try.underlying23, by kernel_rfl, by kernel_rfl, by kernel_rfl⟩

theorem i8_wf {n : Int} (h : (Lit.int .i8 n).wf = true) : -128 ≤ n ∧ n ≤ 127 := by
  have h1 : IntKind.i8.min = -128 := rfl
  have h2 : IntKind.i8.max = 127 := rfl
  simp only [Lit.wf, Bool.and_eq_true, decide_eq_true_eq] at h
  omega

set_option maxRecDepth 100000 in
/-- A law of a pair of int8s and a slice of int16s that answers true and only makes new memory: its row's step. -/
theorem lifted_pair16 (f : Nat) (fn : Func) (hp : fn.params = #[23, 24]) (hr : fn.resultTypes = #[4]) {H : Type} (enc : TypeId × Value → H) (spec : ChangeSpec) (hsv : spec.vars = []) (hsf : ∀ d d', spec.fn H [d, d'] = { results := [.lit (.bool true)], args := [d, d'] })
    (walk : ∀ q0 q1 A len cap p w, (-128 ≤ q0 ∧ q0 ≤ 127) → (-128 ≤ q1 ∧ q1 ≤ 127) → I16At w A len cap p → len ≤ 9223372036854775807 → Calls Try.prog f #[.agg #[.int .i8 q0, .int .i8 q1], .slice A len cap] w fun e w' => e = .returned (.bool true) ∧ Below w.heap.size w w')
    (W : World) (args : Array Value) (ds gs : List (DataW H)) (before : List MemPlace)
    (hval : ∀ (j : Nat) t v, fn.params[j]? = some t → args[j]? = some v → Value.okWide Try.prog W .any 0 t v)
    (hW : DataW.Whole enc Try.prog fn.params.toList spec.vars false W args.toList ds gs before) :
    Calls Try.prog f args W fun e W' => ∃ v, e = Ending.returned v ∧ spec.post enc Try.prog fn false true false false W args v W' := by
  have hW' := hW
  obtain ⟨p, q, hA0, hV, rfl, _, _⟩ := hW
  have hA : DataW.TrodAll enc Try.prog W 0 (fun _ => true) true fn.params.toList args.toList ds p := hA0
  rw [hp] at hA hval
  obtain ⟨v0, v1, d0, d1, p0, p1, rfl, rfl, rfl, h0, h1⟩ := trodAll_two hA
  rw [hsv] at hV
  obtain ⟨rfl, rfl⟩ := trodVars_none hV
  obtain ⟨a, b, rfl, rfl, rfl, wa, wb⟩ := WideMaps.open_pair Try.pairKey Try.underlying22 (hval 0 23 v0 rfl rfl) h0
  obtain ⟨a0, len, cap, rfl⟩ := okWide_slice Try.underlying24 (hval 1 24 v1 rfl rfl)
  simp only [List.append_nil, List.nil_append] at hW'
  have hlt : ∀ x ∈ p1, x.block < W.heap.size := fun x hx => by simpa using hW'.lt x hx
  obtain ⟨hlm, zs, hat⟩ := open_i16 h1 hlt
  refine (walk a b a0 len cap zs W (i8_wf wa) (i8_wf wb) hat hlm).mono fun e W' ⟨he, hb⟩ => ?_
  subst he
  refine ⟨_, rfl, post_below (pa := p1) (pv := []) hW' (fun _ _ _ => ?_) (fun sp hs => ?_) (fun _ _ => ?_) (by simp) hb ?_⟩
  · rw [List.append_nil, hsf, hr]
    exact trodAll_mk1 (shut_bool Try.underlying4 _)
  · rw [List.append_nil, hsf, hp]
    exact trodAll_mk2 (WideMaps.shut_pair Try.pairKey Try.underlying22 wa wb) (Go.WideElems.Trod_stays Try.laidOut (by kernel_rfl) (of_decide_eq_true (by kernel_rfl)) h1 (fun x hx => hb.same (hlt x hx)) hs)
  · rw [hsv, List.append_nil, hsf]
    rfl
  · exact ok_one hr rfl (okWide_bool_mk Try.underlying4 _)
end Go.Proofs.Ytjoenabcjioncaa
