/- The walks of sturm.VariationsEnd, lostOnLine and, at x^2 - 2, of All and of awake of chapter 15. -/
import Derived.Test.YtdihefmjfnlpcaaStc
import Derived.Test.YtdihefmjfnlpcaaPart
namespace Go.Proofs.Ytdihefmjfnlpcaa
open Go.RowKit

theorem varend1_any {I : IntPred} (hI : IK I) (A : Option Addr) (len cap : Nat) (f : List Int) (gm : Nat) (m : Bool) (w : World) (h : PolyP I w A len cap f) (hs : SmP f) (hl : len ≤ 1000000000) (hm : w.cell? ⟨gm, 0, none⟩ = some (.bool m)) :
    Calls Try.prog 42 #[.slice A len cap, .pointer (some ⟨gm, 0, none⟩)] w fun e w' => e = .returned (.int .i64 (sge m f)) ∧ Below w.heap.size w w' := by
  go_enter Try.func42, Try.ntmps42
  go_wp2_with fail
  refine (signend_any hI _ _ _ _ m _ h hs hl).mono ?_
  rintro e w1 ⟨rfl, hb⟩
  have Hb := Lib.hid hb
  clear h hm hb
  go_wp2
  go_ret
  exact ⟨rfl, Hb.out⟩

theorem sgnMap (F : List Int → Int) (hF : ∀ f, F f = -1 ∨ F f = 0 ∨ F f = 1) (ps : List (List Int)) : Sgn1 (ps.map F) := fun k => by
  rw [List.getD_eq_getElem?_getD, List.getElem?_map]
  cases ps[k]? with
  | none => exact .inr (.inl rfl)
  | some p => exact hF p
theorem mapF_get (F : List Int → Int) (ps : List (List Int)) {k : Nat} (hk : k < ps.length) : (ps.map F).getD k 0 = F (ps.getD k []) := by
  simp [List.getD_eq_getElem?_getD, List.getElem?_eq_getElem hk]

set_option maxHeartbeats 400000 in
theorem varend_any (m : Bool) (A : Option Addr) (len cap : Nat) (ps : List (List Int)) (w : World) (h : PLst w A len cap ps) (hs : ∀ p ∈ ps, SmP p ∧ p.length ≤ 1000000000) (hl : len ≤ 1000000) :
    Calls Try.prog 20 #[.slice A len cap, .bool m] w fun e w' => e = .returned (.int .i64 ((vst (ps.map (sge m)) len).1 : Nat)) ∧ Below w.heap.size w w' := by
  have hba : Below w.heap.size w (w.alloc (.cells #[.bool m] 4)) := (Below.refl _ _).alloc (Nat.le_refl _) _
  have h1 := h.below hba
  have hlen := h.length
  have Hba := Lib.hid hba
  have hc0 : (w.alloc (.cells #[.bool m] 4)).cell? ⟨w.heap.size, 0, none⟩ = some (.bool m) := by go_simp
  have Hc0 := Lib.hid hc0
  have hcall : ∀ k, k < len → ∀ Aj lj cj w', PolyAt w' Aj lj cj (ps.getD k []) → Below (w.alloc (.cells #[.bool m] 4)).heap.size (w.alloc (.cells #[.bool m] 4)) w' → Calls Try.prog 42 #[.slice Aj lj cj, .pointer (some ⟨w.heap.size, 0, none⟩)] w' fun e w'' => e = .returned (.int .i64 ((ps.map (sge m)).getD k 0)) ∧ Below w'.heap.size w' w'' := by
    intro k hk Aj lj cj w' hp hb
    have hmem : ps.getD k [] ∈ ps := by rw [List.getD_eq_getElem?_getD, List.getElem?_eq_getElem (by omega)]; exact List.getElem_mem _
    obtain ⟨s1, s2⟩ := hs _ hmem
    rw [mapF_get _ _ (by omega)]
    exact varend1_any ikAt _ _ _ _ _ m _ hp s1 (by rw [← hp.length]; exact s2) ((hb.cell (p := ⟨w.heap.size, 0, none⟩) (by simp)).trans Hc0.out)
  clear h hba hc0
  go_enter Try.func20, Try.ntmps20
  go_wp2_with fail
  refine (changesE_any _ (ps.map (sge m)) _ _ _ ps _ h1 (sgnMap _ (sge_unit m) ps) hl hcall).mono ?_
  rintro e w1 ⟨rfl, hb⟩
  have Hb := Lib.hid (Hba.out.trans (hb.mono Hba.out.size))
  clear h1 hb hcall
  go_wp2
  go_ret
  exact ⟨rfl, Hb.out⟩

set_option maxHeartbeats 400000 in
theorem lost_any (A : Option Addr) (len cap : Nat) (ps : List (List Int)) (w : World) (h : PLst w A len cap ps) (hs : ∀ p ∈ ps, SmP p ∧ p.length ≤ 1000000000) (hl : len ≤ 1000000) :
    Calls Try.prog 43 #[.slice A len cap] w fun e w' => e = .returned (.int .i64 (((vst (ps.map (sge true)) len).1 : Int) - ((vst (ps.map (sge false)) len).1 : Int))) ∧ Below w.heap.size w w' := by
  have h1 := (vst_le (ps.map (sge true)) len).1
  have h2 := (vst_le (ps.map (sge false)) len).1
  obtain ⟨a, ha⟩ : ∃ a, a = (vst (ps.map (sge true)) len).1 := ⟨_, rfl⟩
  obtain ⟨b, hb⟩ : ∃ b, b = (vst (ps.map (sge false)) len).1 := ⟨_, rfl⟩
  rw [← ha] at h1
  rw [← hb] at h2
  rw [← ha, ← hb]
  have hw : IntKind.i64.wrap ((a : Int) - (b : Int)) = (a : Int) - (b : Int) := IntWalk.i64_in _ (by omega)
  have Ha := Lib.hid ha
  have Hb := Lib.hid hb
  clear ha hb
  go_enter Try.func43, Try.ntmps43
  go_wp2_with fail
  refine (varend_any true _ _ _ _ _ h hs hl).mono ?_
  rintro e w1 ⟨he, hb1⟩
  rw [← Ha.out] at he
  subst he
  have h01 := h.below hb1
  have Hb1 := Lib.hid hb1
  clear h hb1
  go_wp2_with fail
  refine (varend_any false _ _ _ _ _ h01 hs hl).mono ?_
  rintro e w2 ⟨he, hb2⟩
  rw [← Hb.out] at he
  subst he
  have Hb2 := Lib.hid (Hb1.out.trans (hb2.mono Hb1.out.size))
  clear h01 hb2
  go_wp2
  go_ret
  exact ⟨rfl, Hb2.out⟩

theorem w2_pred : pred w2 = w2 := by decide
theorem w2_pred' : pred [0, 2] = [0, 1] := by decide
theorem w2_nrem : nrem w2 [0, 1] = [1] := by decide
theorem w2_nrem' : nrem [0, 1] [1] = [] := by decide
theorem w2_chok : chOK 3 (pred w2) (pred (pder w2)) := by
  rw [w2_der, w2_pred, w2_pred']
  refine .inr ⟨⟨(fitp_100 (by decide)).dl, fitp_100 (by decide), by decide, by decide, by decide, (fitp_100 (by decide)).smp, by decide, (fitp_100 (by decide)).dl⟩, ?_⟩
  rw [w2_nrem]
  refine .inr ⟨⟨(fitp_100 (by decide)).dl, fitp_100 (by decide), by decide, by decide, by decide, (fitp_100 (by decide)).smp, by decide, (fitp_100 (by decide)).dl⟩, ?_⟩
  rw [w2_nrem']
  exact .inl rfl
theorem w2_chn : chn 3 (pred w2) (pred (pder w2)) = [[0, 1], [1]] := by
  rw [w2_der, w2_pred, w2_pred']
  show [0, 1] :: (if nrem w2 [0, 1] = [] then [] else nrem w2 [0, 1] :: (if nrem [0, 1] (nrem w2 [0, 1]) = [] then [] else _)) = _
  rw [w2_nrem, w2_nrem']
  rfl
theorem w2_chain : pchain 3 w2 (pder w2) = [w2, [0, 1], [1]] := by
  unfold pchain
  rw [w2_chn, w2_pred, if_neg (by decide)]

set_option maxHeartbeats 400000 in
/-- x^2 - 2 has two real roots. -/
theorem all_w2 (A : Option Addr) (la ca : Nat) (w : World) (hf : PolyN w A la ca w2) :
    Calls Try.prog 21 #[.slice A la ca] w fun e w' => e = .returned (.int .i64 2) ∧ Below w.heap.size w w' := by
  go_enter Try.func21, Try.ntmps21
  go_wp2_with fail
  refine (part_w2 _ _ _ _ hf).mono ?_
  rintro e w1 ⟨A1, l1, c1, rfl, h1, hb1⟩
  have hl : l1 = 3 := h1.length.symm
  subst hl
  have Hb1 := Lib.hid hb1
  clear hf hb1
  go_wp2_with fail
  refine (sturmof_any _ _ _ _ _ h1 (fitp_100 (by decide)).smp (by rw [w2_der]; exact (fitp_100 (by decide)).smp) (by omega) 3 w2_chok (by rw [w2_chn]; decide)).mono ?_
  rintro e w2' ⟨A2, l2, c2, rfl, h2, hb2⟩
  rw [w2_chain] at h2
  have hl : l2 = 3 := h2.length.symm
  subst hl
  have Hb2 := Lib.hid (Hb1.out.trans (hb2.mono Hb1.out.size))
  clear h1 hb2
  go_wp2_with fail
  refine (lost_any _ _ _ _ _ h2 (fun p hp => by
    simp only [List.mem_cons, List.not_mem_nil, or_false] at hp
    rcases hp with rfl | rfl | rfl
    · exact ⟨(fitp_100 (by decide)).smp, by decide⟩
    · exact ⟨(fitp_100 (by decide)).smp, by decide⟩
    · exact ⟨(fitp_100 (by decide)).smp, by decide⟩) (by omega)).mono ?_
  rintro e w3 ⟨he, hb3⟩
  rw [show (((vst ([w2, [0, 1], [1]].map (sge true)) 3).1 : Nat) : Int) - (((vst ([w2, [0, 1], [1]].map (sge false)) 3).1 : Nat) : Int) = 2 by decide] at he
  subst he
  have Hb3 := Lib.hid (Hb2.out.trans (hb3.mono Hb2.out.size))
  clear h2 hb3
  go_wp2
  go_ret
  exact ⟨rfl, Hb3.out⟩

theorem w2_at (w : World) : I64At (w.alloc (.cells #[.int .i64 (-2), .int .i64 0, .int .i64 1] 2)) (some ⟨w.heap.size, 0, none⟩) 3 3 w2 := by
  refine ⟨rfl, by omega, .inr ⟨w.heap.size, 0, rfl, by simp, fun j hj => ?_⟩⟩
  match j, hj with
  | 0, _ => simp [w2]
  | 1, _ => simp [w2]
  | 2, _ => simp [w2]

set_option maxHeartbeats 400000 in
theorem awake15_any (w : World) :
    Calls Try.prog 5 #[] w fun e w' => e = .returned (.bool true) ∧ Below w.heap.size w w' := by
  have h0 := w2_at w
  have hb0 : Below w.heap.size w (w.alloc (.cells #[.int .i64 (-2), .int .i64 0, .int .i64 1] 2)) := (Below.refl _ _).alloc (Nat.le_refl _) _
  have Hb0 := Lib.hid hb0
  clear hb0
  go_enter Try.func5, Try.ntmps5
  go_wp2_with fail
  refine (pof_any _ _ _ _ _ h0 (by intro c hc; unfold w2 at hc; unfold I64; simp at hc; omega) (by omega)).mono ?_
  rintro e w1 ⟨A1, l1, c1, rfl, h1, hb1⟩
  rw [show ptrim w2 = w2 from rfl] at h1
  have Hb1 := Lib.hid (Hb0.out.trans (hb1.mono Hb0.out.size))
  clear h0 hb1 Hb0
  go_wp2_with fail
  refine (all_w2 _ _ _ _ h1).mono ?_
  rintro e w2' ⟨rfl, hb2⟩
  have Hb2 := Lib.hid (Hb1.out.trans (hb2.mono Hb1.out.size))
  clear h1 hb2
  go_wp2
  go_ret
  exact ⟨rfl, Hb2.out⟩
end Go.Proofs.Ytdihefmjfnlpcaa
