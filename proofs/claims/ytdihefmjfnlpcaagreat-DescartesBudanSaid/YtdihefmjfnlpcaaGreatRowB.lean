/- The end of a row whose arguments are a slice of int16s and a triple of int8s. -/
import Derived.Test.YtdihefmjfnlpcaaGreatRowP
import Derived.Laws.IdiomArrays
namespace Go.Proofs.YtdihefmjfnlpcaaGreat
open Go.ChangeShapes Go.WideShapes Go.ChangeAt Go.RowKit

theorem Tryz.cellsTri8 : Tryz.prog.cellsOf 60 = 3 := by kernel_rfl
theorem Tryz.cellsInt8 : Tryz.prog.cellsOf 40 = 1 := by kernel_rfl

set_option maxRecDepth 100000 in
/-- A triple of int8s that came in. -/
theorem open_tri8 {H : Type} {enc : TypeId × Value → H} {W : World} {v : Value} {d : DataW H} {ps : List MemPlace} (hval : Value.okWide Tryz.prog W .any 0 60 v)
    (hd : DataW.Trod enc Tryz.prog W 0 (fun _ => true) true 60 v d ps) :
    ∃ a b c : Int, v = .agg #[.int .i8 a, .int .i8 b, .int .i8 c] ∧ ps = [] ∧ (-128 ≤ a ∧ a ≤ 127) ∧ (-128 ≤ b ∧ b ≤ 127) ∧ (-128 ≤ c ∧ c ≤ 127) := by
  simp only [Value.okWide, Tryz.underlying60] at hval
  obtain ⟨cs, rfl, hsz, _⟩ := hval
  rw [Tryz.cellsTri8] at hsz
  obtain ⟨c0, c1, c2, rfl⟩ : ∃ c0 c1 c2, cs = #[c0, c1, c2] := by
    obtain ⟨l⟩ := cs
    match l, hsz with
    | [x, y, z], _ => exact ⟨x, y, z, rfl⟩
  obtain ⟨fuel, hf⟩ := hd
  obtain ⟨y0, y1, y2, n, hx, t0, t1, t2⟩ := trod_array3 Tryz.underlying60 Tryz.cellsInt8 (show DataW.trod enc Tryz.prog W 0 (fun _ => true) true fuel 60 [c0, c1, c2] = some (d, ps) from hf)
  obtain ⟨a, ea, rfl, wa⟩ := DataW.trod_int Tryz.underlying40 t0
  obtain ⟨b, eb, rfl, wb⟩ := DataW.trod_int Tryz.underlying40 t1
  obtain ⟨c, ec, rfl, wc⟩ := DataW.trod_int Tryz.underlying40 t2
  simp at ea eb ec
  subst ea; subst eb; subst ec
  simp only [Prod.mk.injEq] at hx
  exact ⟨a, b, c, rfl, by rw [hx.2]; rfl, i8_wf wa, i8_wf wb, i8_wf wc⟩

set_option maxRecDepth 100000 in
/-- A law of a slice of int16s and a triple of int8s that answers true and only makes new memory: its row's step. -/
theorem lifted_tri16 (f : Nat) (fn : Func) (hp : fn.params = #[22, 60]) (hr : fn.resultTypes = #[4]) {H : Type} (enc : TypeId × Value → H) (spec : ChangeSpec) (hsv : spec.vars = []) (hsf : ∀ d d', spec.fn H [d, d'] = { results := [.lit (.bool true)], args := [d, d'] })
    (walk : ∀ A len cap p q0 q1 q2 w, I16At w A len cap p → len ≤ 9223372036854775807 → (-128 ≤ q0 ∧ q0 ≤ 127) → (-128 ≤ q1 ∧ q1 ≤ 127) → (-128 ≤ q2 ∧ q2 ≤ 127) → Calls Tryz.prog f #[.slice A len cap, .agg #[.int .i8 q0, .int .i8 q1, .int .i8 q2]] w fun e w' => e = .returned (.bool true) ∧ Below w.heap.size w w')
    (W : World) (args : Array Value) (ds gs : List (DataW H)) (before : List MemPlace)
    (hval : ∀ (j : Nat) t v, fn.params[j]? = some t → args[j]? = some v → Value.okWide Tryz.prog W .any 0 t v)
    (hW : DataW.Whole enc Tryz.prog fn.params.toList spec.vars false W args.toList ds gs before) :
    Calls Tryz.prog f args W fun e W' => ∃ v, e = Ending.returned v ∧ spec.post enc Tryz.prog fn false true false false W args v W' := by
  have hW' := hW
  obtain ⟨p, q, hA0, hV, rfl, _, _⟩ := hW
  have hA : DataW.TrodAll enc Tryz.prog W 0 (fun _ => true) true fn.params.toList args.toList ds p := hA0
  rw [hp] at hA hval
  obtain ⟨v0, v1, d0, d1, p0, p1, rfl, rfl, rfl, h0, h1⟩ := trodAll_two hA
  rw [hsv] at hV
  obtain ⟨rfl, rfl⟩ := trodVars_none hV
  obtain ⟨a0, len, cap, rfl⟩ := okWide_slice Tryz.underlying22 (hval 0 22 v0 rfl rfl)
  obtain ⟨a, b, c, rfl, rfl, wa, wb, wc⟩ := open_tri8 (hval 1 60 v1 rfl rfl) h1
  simp only [List.append_nil] at hW'
  have hlt : ∀ x ∈ p0, x.block < W.heap.size := fun x hx => by simpa using hW'.lt x hx
  obtain ⟨hlm, zs, hat⟩ := open_i16 h0 hlt
  refine (walk a0 len cap zs a b c W hat hlm wa wb wc).mono fun e W' ⟨he, hb⟩ => ?_
  subst he
  refine ⟨_, rfl, post_below (pa := p0) (pv := []) hW' (fun _ _ _ => ?_) (fun sp hs => ?_) (fun _ _ => ?_) (by simp) hb ?_⟩
  · rw [List.append_nil, hsf, hr]
    exact trodAll_mk1 (shut_bool Tryz.underlying4 _)
  · rw [List.append_nil, hsf, hp]
    have h3 := trodAll_mk2 (Go.WideElems.Trod_stays Tryz.laidOut (by kernel_rfl) (of_decide_eq_true (by kernel_rfl)) h0 (fun x hx => hb.same (hlt x hx)) hs) (Go.WideElems.Trod_stays Tryz.laidOut (by kernel_rfl) (of_decide_eq_true (by kernel_rfl)) h1 (fun x hx => by cases hx) (fun x hx => by cases hx))
    simpa using h3
  · rw [hsv, List.append_nil, hsf]
    rfl
  · exact ok_one hr rfl (okWide_bool_mk Tryz.underlying4 _)
end Go.Proofs.YtdihefmjfnlpcaaGreat
