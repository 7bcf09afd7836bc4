/- The end of a row whose arguments are two slices of int16s and three pairs of int8s. -/
import Derived.Test.YtccapbajbniknaaGreatRowP
import Derived.OpenShut
namespace Go.Proofs.YtccapbajbniknaaGreat
open Go.ChangeShapes Go.WideShapes Go.ChangeAt Go.RowKit

theorem Tryz.cellsPair32 : Tryz.prog.cellsOf 64 = 6 := by kernel_rfl
theorem Tryz.cellsPair8 : Tryz.prog.cellsOf 44 = 2 := by kernel_rfl
theorem Tryz.cellsOne8 : Tryz.prog.cellsOf 43 = 1 := by kernel_rfl

set_option maxRecDepth 100000 in
/-- A pair of int8s, as cells that came in. -/
theorem open_cells8 {H : Type} {enc : TypeId × Value → H} {W : World} {fuel : Nat} {c0 c1 : Value} {x : DataW H × List MemPlace}
    (h : DataW.trod enc Tryz.prog W 0 (fun _ => true) true fuel 44 [c0, c1] = some x) :
    ∃ a b : Int, c0 = .int .i8 a ∧ c1 = .int .i8 b ∧ x.2 = [] ∧ (-128 ≤ a ∧ a ≤ 127) ∧ (-128 ≤ b ∧ b ≤ 127) := by
  obtain ⟨xs, m, rfl, rfl, _, hl, hi⟩ := DataW.trod_array Tryz.underlying44 h
  rw [Tryz.cellsOne8] at hi
  obtain ⟨y0, y1, rfl⟩ : ∃ y0 y1, xs = [y0, y1] := by
    match xs, hl with
    | [a, b], _ => exact ⟨a, b, rfl⟩
  have t0 : DataW.trod enc Tryz.prog W 0 (fun _ => true) true m 43 [c0] = some y0 := hi 0 (by omega)
  have t1 : DataW.trod enc Tryz.prog W 0 (fun _ => true) true m 43 [c1] = some y1 := hi 1 (by omega)
  obtain ⟨a, ea, rfl, wa⟩ := DataW.trod_int Tryz.underlying43 t0
  obtain ⟨b, eb, rfl, wb⟩ := DataW.trod_int Tryz.underlying43 t1
  simp at ea eb
  exact ⟨a, b, ea, eb, rfl, i8_wf wa, i8_wf wb⟩

set_option maxRecDepth 100000 in
/-- Three pairs of int8s that came in. -/
theorem open_six8 {H : Type} {enc : TypeId × Value → H} {W : World} {v : Value} {d : DataW H} {ps : List MemPlace} (hval : Value.okWide Tryz.prog W .any 0 64 v)
    (hd : DataW.Trod enc Tryz.prog W 0 (fun _ => true) true 64 v d ps) :
    ∃ a b c e f g : Int, v = .agg #[.int .i8 a, .int .i8 b, .int .i8 c, .int .i8 e, .int .i8 f, .int .i8 g] ∧ ps = [] ∧ (-128 ≤ a ∧ a ≤ 127) ∧ (-128 ≤ b ∧ b ≤ 127) ∧ (-128 ≤ c ∧ c ≤ 127) ∧ (-128 ≤ e ∧ e ≤ 127) ∧ (-128 ≤ f ∧ f ≤ 127) ∧ (-128 ≤ g ∧ g ≤ 127) := by
  simp only [Value.okWide, Tryz.underlying64] at hval
  obtain ⟨cs, rfl, hsz, _⟩ := hval
  rw [Tryz.cellsPair32] at hsz
  obtain ⟨c0, c1, c2, c3, c4, c5, rfl⟩ : ∃ c0 c1 c2 c3 c4 c5, cs = #[c0, c1, c2, c3, c4, c5] := by
    obtain ⟨l⟩ := cs
    match l, hsz with
    | [x, y, z, u, s, t], _ => exact ⟨x, y, z, u, s, t, rfl⟩
  obtain ⟨fuel, hf⟩ := hd
  obtain ⟨xs, m, rfl, hx, _, hl, hi⟩ := DataW.trod_array Tryz.underlying64 (show DataW.trod enc Tryz.prog W 0 (fun _ => true) true fuel 64 [c0, c1, c2, c3, c4, c5] = some (d, ps) from hf)
  rw [Tryz.cellsPair8] at hi
  obtain ⟨y0, y1, y2, rfl⟩ : ∃ y0 y1 y2, xs = [y0, y1, y2] := by
    match xs, hl with
    | [a, b, c], _ => exact ⟨a, b, c, rfl⟩
  obtain ⟨a, b, rfl, rfl, e0, wa, wb⟩ := open_cells8 (show DataW.trod enc Tryz.prog W 0 (fun _ => true) true m 44 [c0, c1] = some y0 from hi 0 (by omega))
  obtain ⟨c, e, rfl, rfl, e1, wc, we⟩ := open_cells8 (show DataW.trod enc Tryz.prog W 0 (fun _ => true) true m 44 [c2, c3] = some y1 from hi 1 (by omega))
  obtain ⟨f, g, rfl, rfl, e2, wf, wg⟩ := open_cells8 (show DataW.trod enc Tryz.prog W 0 (fun _ => true) true m 44 [c4, c5] = some y2 from hi 2 (by omega))
  simp only [Prod.mk.injEq] at hx
  exact ⟨a, b, c, e, f, g, rfl, by rw [hx.2]; simp [e0, e1, e2], wa, wb, wc, we, wf, wg⟩

set_option maxRecDepth 100000 in
/-- A law of two slices of int16s and three pairs of int8s that answers true and only makes new memory: its row's step. -/
theorem lifted_two16six (f : Nat) (fn : Func) (hp : fn.params = #[63, 63, 64]) (hr : fn.resultTypes = #[4]) {H : Type} (enc : TypeId × Value → H) (spec : ChangeSpec) (hsv : spec.vars = []) (hsf : ∀ d d' d'', spec.fn H [d, d', d''] = { results := [.lit (.bool true)], args := [d, d', d''] })
    (walk : ∀ A la ca p B lb cb q q0 q1 q2 q3 q4 q5 w, I16At w A la ca p → I16At w B lb cb q → la ≤ 9223372036854775807 → lb ≤ 9223372036854775807 → (-128 ≤ q0 ∧ q0 ≤ 127) → (-128 ≤ q1 ∧ q1 ≤ 127) → (-128 ≤ q2 ∧ q2 ≤ 127) → (-128 ≤ q3 ∧ q3 ≤ 127) → (-128 ≤ q4 ∧ q4 ≤ 127) → (-128 ≤ q5 ∧ q5 ≤ 127) →
      Calls Tryz.prog f #[.slice A la ca, .slice B lb cb, .agg #[.int .i8 q0, .int .i8 q1, .int .i8 q2, .int .i8 q3, .int .i8 q4, .int .i8 q5]] w fun e w' => e = .returned (.bool true) ∧ Below w.heap.size w w')
    (W : World) (args : Array Value) (ds gs : List (DataW H)) (before : List MemPlace)
    (hval : ∀ (j : Nat) t v, fn.params[j]? = some t → args[j]? = some v → Value.okWide Tryz.prog W .any 0 t v)
    (hW : DataW.Whole enc Tryz.prog fn.params.toList spec.vars false W args.toList ds gs before) :
    Calls Tryz.prog f args W fun e W' => ∃ v, e = Ending.returned v ∧ spec.post enc Tryz.prog fn false true false false W args v W' := by
  have hW' := hW
  obtain ⟨p, q, hA0, hV, rfl, _, _⟩ := hW
  have hA : DataW.TrodAll enc Tryz.prog W 0 (fun _ => true) true fn.params.toList args.toList ds p := hA0
  rw [hp] at hA hval
  obtain ⟨v0, v1, v2, d0, d1, d2, p0, p1, p2, rfl, rfl, rfl, h0, h1, h2⟩ := trodAll_three hA
  rw [hsv] at hV
  obtain ⟨rfl, rfl⟩ := trodVars_none hV
  obtain ⟨a0, la, ca, rfl⟩ := okWide_slice Tryz.underlying63 (hval 0 63 v0 rfl rfl)
  obtain ⟨a1, lb, cb, rfl⟩ := okWide_slice Tryz.underlying63 (hval 1 63 v1 rfl rfl)
  obtain ⟨a, b, c, e, f1, g1, rfl, rfl, wa, wb, wc, we, wf, wg⟩ := open_six8 (hval 2 64 v2 rfl rfl) h2
  simp only [List.append_nil] at hW'
  have hlt : ∀ x ∈ p0 ++ p1, x.block < W.heap.size := fun x hx => by simpa using hW'.lt x hx
  have hlt0 : ∀ x ∈ p0, x.block < W.heap.size := fun x hx => hlt x (List.mem_append.2 (.inl hx))
  have hlt1 : ∀ x ∈ p1, x.block < W.heap.size := fun x hx => hlt x (List.mem_append.2 (.inr hx))
  obtain ⟨hla, zs, hz⟩ := open_i16 h0 hlt0
  obtain ⟨hlb, ys, hy⟩ := open_i16 h1 hlt1
  refine (walk a0 la ca zs a1 lb cb ys a b c e f1 g1 W hz hy hla hlb wa wb wc we wf wg).mono fun e W' ⟨he, hb⟩ => ?_
  subst he
  refine ⟨_, rfl, post_below (pa := p0 ++ p1) (pv := []) hW' (fun _ _ _ => ?_) (fun sp hs => ?_) (fun _ _ => ?_) (by simp) hb ?_⟩
  · rw [List.append_nil, hsf, hr]
    exact trodAll_mk1 (shut_bool Tryz.underlying4 _)
  · rw [List.append_nil, hsf, hp]
    have h3 := trodAll_mk3 (Go.WideElems.Trod_stays Tryz.laidOut (by kernel_rfl) (of_decide_eq_true (by kernel_rfl)) h0 (fun x hx => hb.same (hlt0 x hx)) (fun x hx => hs x (List.mem_append.2 (.inl hx)))) (Go.WideElems.Trod_stays Tryz.laidOut (by kernel_rfl) (of_decide_eq_true (by kernel_rfl)) h1 (fun x hx => hb.same (hlt1 x hx)) (fun x hx => hs x (List.mem_append.2 (.inr hx)))) (Go.WideElems.Trod_stays Tryz.laidOut (by kernel_rfl) (of_decide_eq_true (by kernel_rfl)) h2 (fun x hx => by cases hx) (fun x hx => by cases hx))
    simpa using h3
  · rw [hsv, List.append_nil, hsf]
    rfl
  · exact ok_one hr rfl (okWide_bool_mk Tryz.underlying4 _)
end Go.Proofs.YtccapbajbniknaaGreat
