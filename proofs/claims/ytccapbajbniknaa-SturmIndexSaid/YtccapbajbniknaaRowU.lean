/- The end of a row whose arguments are three slices of int16s. -/
import Derived.Test.YtccapbajbniknaaRowP
namespace Go.Proofs.Ytccapbajbniknaa
open Go.ChangeShapes Go.WideShapes Go.ChangeAt Go.RowKit

set_option maxRecDepth 100000 in
/-- A law of three slices of int16s that answers true and only makes new memory: its row's step. -/
theorem lifted_three16 (f : Nat) (fn : Func) (hp : fn.params = #[36, 36, 36]) (hr : fn.resultTypes = #[4]) {H : Type} (enc : TypeId × Value → H) (spec : ChangeSpec) (hsv : spec.vars = []) (hsf : ∀ d d' d'', spec.fn H [d, d', d''] = { results := [.lit (.bool true)], args := [d, d', d''] })
    (walk : ∀ A la ca p B lb cb q C lc cc r w, I16At w A la ca p → I16At w B lb cb q → I16At w C lc cc r → la ≤ 9223372036854775807 → lb ≤ 9223372036854775807 → lc ≤ 9223372036854775807 → Calls Try.prog f #[.slice A la ca, .slice B lb cb, .slice C lc cc] w fun e w' => e = .returned (.bool true) ∧ Below w.heap.size w w')
    (W : World) (args : Array Value) (ds gs : List (DataW H)) (before : List MemPlace)
    (hval : ∀ (j : Nat) t v, fn.params[j]? = some t → args[j]? = some v → Value.okWide Try.prog W .any 0 t v)
    (hW : DataW.Whole enc Try.prog fn.params.toList spec.vars false W args.toList ds gs before) :
    Calls Try.prog f args W fun e W' => ∃ v, e = Ending.returned v ∧ spec.post enc Try.prog fn false true false false W args v W' := by
  have hW' := hW
  obtain ⟨p, q, hA0, hV, rfl, _, _⟩ := hW
  have hA : DataW.TrodAll enc Try.prog W 0 (fun _ => true) true fn.params.toList args.toList ds p := hA0
  rw [hp] at hA hval
  obtain ⟨v0, v1, v2, d0, d1, d2, p0, p1, p2, rfl, rfl, rfl, h0, h1, h2⟩ := trodAll_three hA
  rw [hsv] at hV
  obtain ⟨rfl, rfl⟩ := trodVars_none hV
  obtain ⟨a0, la, ca, rfl⟩ := okWide_slice Try.underlying36 (hval 0 36 v0 rfl rfl)
  obtain ⟨a1, lb, cb, rfl⟩ := okWide_slice Try.underlying36 (hval 1 36 v1 rfl rfl)
  obtain ⟨a2, lc, cc, rfl⟩ := okWide_slice Try.underlying36 (hval 2 36 v2 rfl rfl)
  simp only [List.append_nil] at hW'
  have hlt : ∀ x ∈ p0 ++ p1 ++ p2, x.block < W.heap.size := fun x hx => by simpa using hW'.lt x hx
  have hlt0 : ∀ x ∈ p0, x.block < W.heap.size := fun x hx => hlt x (List.mem_append.2 (.inl (List.mem_append.2 (.inl hx))))
  have hlt1 : ∀ x ∈ p1, x.block < W.heap.size := fun x hx => hlt x (List.mem_append.2 (.inl (List.mem_append.2 (.inr hx))))
  have hlt2 : ∀ x ∈ p2, x.block < W.heap.size := fun x hx => hlt x (List.mem_append.2 (.inr hx))
  obtain ⟨hla, zs, hz⟩ := open_i16 h0 hlt0
  obtain ⟨hlb, ys, hy⟩ := open_i16 h1 hlt1
  obtain ⟨hlc, xs, hx⟩ := open_i16 h2 hlt2
  refine (walk a0 la ca zs a1 lb cb ys a2 lc cc xs W hz hy hx hla hlb hlc).mono fun e W' ⟨he, hb⟩ => ?_
  subst he
  refine ⟨_, rfl, post_below (pa := p0 ++ p1 ++ p2) (pv := []) hW' (fun _ _ _ => ?_) (fun sp hs => ?_) (fun _ _ => ?_) (by simp) hb ?_⟩
  · rw [List.append_nil, hsf, hr]
    exact trodAll_mk1 (shut_bool Try.underlying4 _)
  · rw [List.append_nil, hsf, hp, List.append_assoc]
    exact trodAll_mk3 (Go.WideElems.Trod_stays Try.laidOut (by kernel_rfl) (of_decide_eq_true (by kernel_rfl)) h0 (fun x hx => hb.same (hlt0 x hx)) (fun x hx => hs x (List.mem_append.2 (.inl (List.mem_append.2 (.inl hx)))))) (Go.WideElems.Trod_stays Try.laidOut (by kernel_rfl) (of_decide_eq_true (by kernel_rfl)) h1 (fun x hx => hb.same (hlt1 x hx)) (fun x hx => hs x (List.mem_append.2 (.inl (List.mem_append.2 (.inr hx)))))) (Go.WideElems.Trod_stays Try.laidOut (by kernel_rfl) (of_decide_eq_true (by kernel_rfl)) h2 (fun x hx => hb.same (hlt2 x hx)) (fun x hx => hs x (List.mem_append.2 (.inr hx))))
  · rw [hsv, List.append_nil, hsf]
    rfl
  · exact ok_one hr rfl (okWide_bool_mk Try.underlying4 _)
end Go.Proofs.Ytccapbajbniknaa
