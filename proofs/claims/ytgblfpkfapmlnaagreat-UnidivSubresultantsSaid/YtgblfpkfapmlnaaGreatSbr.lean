/- The walk of unidiv.Subresultants. -/
import Derived.Test.YtgblfpkfapmlnaaGreatApd
import Derived.Test.YtgblfpkfapmlnaaGreatAwl
namespace Go.Proofs.YtgblfpkfapmlnaaGreat
open Go.RowKit Go.Shelf
attribute [local go_sem] Oper.semAt_some

/-- v is a slice of the values vs, nil or a row of slices at b or behind it -/
def RowV (W : World) (b : Nat) (v : Value) (vs : List Value) : Prop := (v = .slice none 0 0 ∧ vs = []) ∨ ∃ g cs, v = .slice (some ⟨g, 0, none⟩) vs.length cs.size ∧ b ≤ g ∧ Blk W g 23 cs ∧ vs.length ≤ cs.size ∧ 0 < cs.size ∧ (∀ j, j < cs.size → ∃ A l c, cs[j]? = some (.slice A l c)) ∧ ∀ j, j < vs.length → cs[j]? = vs[j]?
theorem RowV.same {W W' : World} {b : Nat} {v : Value} {vs : List Value} (h : RowV W b v vs) (hs : ∀ (k : Nat) (o : Obj), b ≤ k → SlO o → W.heap[k]? = some o → W'.heap[k]? = some o) : RowV W' b v vs := by
  rcases h with h | ⟨g, cs, h1, h2, h3, h4, h5, h6, h7⟩
  · exact .inl h
  · exact .inr ⟨g, cs, h1, h2, hs g _ h2 ⟨h5, h6⟩ h3, h4, h5, h6, h7⟩
theorem RowV.slice {W : World} {b : Nat} {v : Value} {vs : List Value} (h : RowV W b v vs) : ∃ A l c, v = .slice A l c := by
  rcases h with ⟨h, _⟩ | ⟨g, cs, h, _⟩
  · exact ⟨_, _, _, h⟩
  · exact ⟨_, _, _, h⟩
/-- what the loop's body rests on -/
structure SI (gl gf base : Nat) (W0 : World) (pre : List El) (W : World) : Prop where
  box : ∃ v, Blk W gl 29 #[v] ∧ RowV W (W0.heap.size + 2) v (pre.map El.val)
  keep : Keep gf W0 W
  bel : Below base W0 W
  le : base ≤ gl
  lb : gl < W0.heap.size
  lf : gf < W0.heap.size
  ne : gl ≠ gf
  le2 : base ≤ W0.heap.size
section
variable {gl gf base : Nat} {W0 W W' : World} {pre : List El}
theorem blk_same {g : Nat} {t : TypeId} {cs : Array Value} (h : Blk W g t cs) (e : W'.heap[g]? = W.heap[g]?) : Blk W' g t cs := e.trans h
theorem SI.put (h : SI gl gf base W0 pre W) {l : Nat} {o o' : Obj} (hl : W.heap[l]? = some o) (hc : o.isCells = false) (hle : W0.heap.size ≤ l) : SI gl gf base W0 pre (W.putObj l o') := by
  obtain ⟨v, h1, h2⟩ := h.box
  have hlb := h.lb
  refine ⟨⟨v, blk_same h1 (World.putObj_heap_other (by omega)), h2.same fun k o2 _ hs hk => ?_⟩, h.keep.trans (Keep.putObj gf hl hc), h.bel.trans ⟨rfl, rfl, rfl, by simp, fun k hk => World.putObj_heap_other (by have := h.le2; omega)⟩, h.le, h.lb, h.lf, h.ne, h.le2⟩
  have hne : k ≠ l := by
    intro e
    subst e
    rw [hl] at hk
    cases hk
    cases o <;> first | exact hs | cases hc
  rw [World.putObj_heap_other (by first | exact hne | exact Ne.symm hne)]
  exact hk
theorem SI.alloc (h : SI gl gf base W0 pre W) (o : Obj) : SI gl gf base W0 pre (W.alloc o) := by
  obtain ⟨v, h1, h2⟩ := h.box
  exact ⟨⟨v, h1.alloc o, h2.same fun k _ _ _ hk => (Below.heap_alloc W o k (Array.getElem?_eq_some_iff.1 hk).1).trans hk⟩, h.keep.trans (Keep.below gf ((Below.refl _ _).alloc (Nat.le_refl _) _)), h.bel.alloc (Nat.le_trans h.le2 h.keep.size) _, h.le, h.lb, h.lf, h.ne, h.le2⟩
theorem SI.near (h : SI gl gf base W0 pre W) (hb : Near (W0.heap.size + 2) W W') : SI gl gf base W0 pre W' := by
  obtain ⟨v, h1, h2⟩ := h.box
  have hlb := h.lb
  have hlf := h.lf
  exact ⟨⟨v, h1.below hb.bel (by omega), h2.same fun k o _ hs hk => hb.slo k o hs hk⟩, h.keep.belowB hb.bel (by omega) (by omega), h.bel.trans (hb.bel.mono (Nat.le_trans h.le2 (by omega))), h.le, h.lb, h.lf, h.ne, h.le2⟩
/-- one element is added -/
theorem SI.step (h : SI gl gf base W0 pre W) (x : El) (hsz : W0.heap.size + 2 ≤ W.heap.size) {v : Value} (hbx : Blk W gl 29 #[v]) (hrow : RowV W (W0.heap.size + 2) v (pre.map El.val)) {cs : Array Value} (hv : (v = .slice none 0 0 ∧ pre.length = 0 ∧ cs = #[]) ∨ ∃ g, v = .slice (some ⟨g, 0, none⟩) pre.length cs.size ∧ W0.heap.size + 2 ≤ g ∧ Blk W g 23 cs ∧ 0 < cs.size ∧ ∀ j, j < cs.size → ∃ A l c, cs[j]? = some (.slice A l c))
    (hcv : ∀ j, j < pre.length → cs[j]? = (pre.map El.val)[j]?)
    {ob : Obj} {g' : Nat} {w' : World} {CS : Array Value} (hk : Blk w' g' 23 CS) (hc1 : pre.length + 1 ≤ CS.size) (hc2 : ∀ j, j < pre.length → CS[j]? = cs[j]?) (hc3 : CS[pre.length]? = some x.val) (hc4 : ∀ j, pre.length + 1 ≤ j → j < CS.size → CS[j]? = some (.slice none 0 0) ∨ CS[j]? = cs[j]?)
    (hst : (v = .slice (some ⟨g', 0, none⟩) pre.length CS.size ∧ w' = (W.alloc ob).setCell ⟨g', pre.length, none⟩ x.val ∧ CS.size = cs.size ∧ Blk (W.alloc ob) g' 23 cs) ∨ (g' = (W.alloc ob).heap.size ∧ w' = (W.alloc ob).drew.alloc (.cells CS 23))) :
    Blk w' gl 29 #[v] ∧ (w'.setCell ⟨gl, 0, none⟩ (.slice (some ⟨g', 0, none⟩) (pre.length + 1) CS.size)).heap[W0.heap.size]? = W.heap[W0.heap.size]? ∧ (w'.setCell ⟨gl, 0, none⟩ (.slice (some ⟨g', 0, none⟩) (pre.length + 1) CS.size)).heap[W0.heap.size + 1]? = W.heap[W0.heap.size + 1]? ∧ Keep gf W (w'.setCell ⟨gl, 0, none⟩ (.slice (some ⟨g', 0, none⟩) (pre.length + 1) CS.size)) ∧ SI gl gf base W0 (pre ++ [x]) (w'.setCell ⟨gl, 0, none⟩ (.slice (some ⟨g', 0, none⟩) (pre.length + 1) CS.size)) := by
  obtain ⟨nv, hnv⟩ : ∃ nv, nv = Value.slice (some ⟨g', 0, none⟩) (pre.length + 1) CS.size := ⟨_, rfl⟩
  rw [← hnv]
  have hlb := h.lb
  have hlf := h.lf
  have hle := h.le
  have hle2 := h.le2
  have hne := h.ne
  have hg' : W0.heap.size + 2 ≤ g' := by
    rcases hst with ⟨h1, _⟩ | ⟨h1, _⟩
    · rcases hv with ⟨h2, _⟩ | ⟨g, h2, h3, _⟩
      · rw [h1] at h2; cases h2
      · rw [h1] at h2
        injection h2 with h2 _ _
        injection h2 with h2
        injection h2 with h2 _
        omega
    · rw [h1, World.size_alloc]; omega
  -- what lay there lies there, but for the row
  have hold : ∀ k, k < W.heap.size → k ≠ g' → w'.heap[k]? = W.heap[k]? := fun k hk1 hk2 => by
    rcases hst with ⟨_, h1, _⟩ | ⟨h0, h1⟩
    · rw [h1]; exact (Below.heap_setCell _ ⟨g', pre.length, none⟩ _ k hk2).trans (Below.heap_alloc W ob k hk1)
    · rw [h1]
      exact (Below.heap_alloc _ _ k (by show k < (W.alloc ob).heap.size; rw [World.size_alloc]; omega)).trans (Below.heap_alloc W ob k hk1)
  have hbw : Below base W w' := by
    rcases hst with ⟨_, h1, _⟩ | ⟨_, h1⟩
    · rw [h1]; exact ((Below.refl _ _).alloc (by omega) ob).setCell (p := ⟨g', pre.length, none⟩) (by show base ≤ g'; omega) _
    · rw [h1]; exact (((Below.refl _ _).alloc (by omega) ob).drew).alloc (by simp; omega) _
  have hF : Below base W (w'.setCell ⟨gl, 0, none⟩ nv) := hbw.setCell (p := ⟨gl, 0, none⟩) hle _
  have hfar : ∀ k, k < W.heap.size → k ≠ g' → k ≠ gl → (w'.setCell ⟨gl, 0, none⟩ nv).heap[k]? = W.heap[k]? := fun k h1 h2 h3 => (Below.heap_setCell w' ⟨gl, 0, none⟩ nv k h3).trans (hold k h1 h2)
  have hb1 : Blk w' gl 29 #[v] := blk_same hbx (hold gl (by omega) (by omega))
  obtain ⟨Av, lv, cv, hvs⟩ := hrow.slice
  have hkeep : Keep gf W (w'.setCell ⟨gl, 0, none⟩ nv) := by
    refine ⟨hF.os, hF.tape, hF.output, hF.size, fun k o hs hko _ => ?_, fun ⟨A, l, c, hb⟩ => ⟨A, l, c, blk_same hb (hfar gf (by omega) (by omega) (Ne.symm hne))⟩⟩
    have hkl := (Array.getElem?_eq_some_iff.1 hko).1
    rw [hfar k hkl ?_ ?_]
    · exact hko
    · intro e
      subst e
      rcases hst with ⟨h1, _⟩ | ⟨h1, _⟩
      · rcases hv with ⟨h2, _⟩ | ⟨g, h2, _, h3, h4, h5⟩
        · rw [h1] at h2; cases h2
        · rw [h1] at h2
          injection h2 with h2 _ _
          injection h2 with h2
          injection h2 with h2 _
          subst h2
          unfold Blk at h3
          rw [h3] at hko
          cases hko
          exact hs ⟨h4, h5⟩
      · rw [World.size_alloc] at h1; omega
    · intro e
      subst e
      have hbx2 := hbx
      unfold Blk at hbx2
      rw [hbx2, hvs] at hko
      cases hko
      exact hs (slo_one _ _ _ _ _)
  have hslice : ∀ j, j < CS.size → ∃ A l c, CS[j]? = some (.slice A l c) := fun j hj => by
    have hcs : ∀ j, j < cs.size → ∃ A l c, cs[j]? = some (.slice A l c) := fun j hj => by
      rcases hv with ⟨_, _, h3⟩ | ⟨_, _, _, _, _, h5⟩
      · rw [h3] at hj; simp at hj
      · exact h5 j hj
    have hlen : pre.length ≤ cs.size ∨ pre.length = 0 := by
      rcases hv with ⟨_, h2, _⟩ | ⟨_, _, _, _, _, _⟩
      · exact .inr h2
      · rcases Nat.lt_or_ge cs.size pre.length with h6 | h6
        · have := hcv cs.size h6
          rw [Array.getElem?_eq_none (Nat.le_refl _), List.getElem?_eq_getElem (by simpa using h6)] at this
          cases this
        · exact .inl h6
    rcases Nat.lt_trichotomy j pre.length with h1 | h1 | h1
    · rw [hc2 j h1]; exact hcs j (by omega)
    · subst h1; rw [hc3]; exact ⟨x.A, x.l, x.c, rfl⟩
    · rcases hc4 j h1 hj with h2 | h2
      · exact ⟨none, 0, 0, h2⟩
      · rw [h2]
        rcases Nat.lt_or_ge j cs.size with h3 | h3
        · exact hcs j h3
        · rw [Array.getElem?_eq_none h3, Array.getElem?_eq_getElem hj] at h2; cases h2
  refine ⟨hb1, hfar _ (by omega) (by omega) (by omega), hfar _ (by omega) (by omega) (by omega), hkeep, ⟨⟨nv, ?_, .inr ⟨g', CS, ?_, hg', blk_same hk (Below.heap_setCell w' ⟨gl, 0, none⟩ nv g' (by show g' ≠ gl; omega)), ?_, by omega, hslice, fun j hj => ?_⟩⟩, h.keep.trans hkeep, h.bel.trans hF, h.le, h.lb, h.lf, h.ne, h.le2⟩⟩
  · have := hb1.set_ 0 nv
    simpa using this
  · rw [hnv, List.length_map, List.length_append]; rfl
  · rw [List.length_map, List.length_append]; exact hc1
  · rw [List.length_map, List.length_append] at hj
    rcases Nat.lt_or_ge j pre.length with h1 | h1
    · rw [hc2 j h1, hcv j h1, List.map_append, List.getElem?_append_left (by simpa using h1)]
    · have h2 : j = pre.length := by simp at hj; omega
      subst h2
      rw [hc3, List.map_append, List.getElem?_append_right (by simp)]
      simp
end

/-- a slice of canonical polynomials -/
structure PLsN (w : World) (A : Option Addr) (len cap : Nat) (ps : List (List Int)) : Prop where
  length : ps.length = len
  elems : len = 0 ∨ ∃ b off, A = some ⟨b, off, none⟩ ∧ b < w.heap.size ∧ ∀ j, j < len → ∃ Aj lj cj, w.cell? ⟨b, off + j, none⟩ = some (.slice Aj lj cj) ∧ PolyN w Aj lj cj (ps.getD j [])
theorem PLsN.below {w w' : World} {A : Option Addr} {len cap : Nat} {ps : List (List Int)} (h : PLsN w A len cap ps) (hb : Below w.heap.size w w') : PLsN w' A len cap ps := by
  refine ⟨h.length, ?_⟩
  rcases h.elems with h0 | ⟨b, off, hA, hlt, hc⟩
  · exact .inl h0
  · refine .inr ⟨b, off, hA, Nat.lt_of_lt_of_le hlt hb.size, fun j hj => ?_⟩
    obtain ⟨Aj, lj, cj, h1, h2⟩ := hc j hj
    exact ⟨Aj, lj, cj, (hb.cell (p := ⟨b, off + j, none⟩) hlt).trans h1, h2.below ikN hb⟩
theorem PLsN.at_ {w : World} {A : Option Addr} {len cap : Nat} {ps : List (List Int)} (h : PLsN w A len cap ps) (hl : 0 < len) : ∃ b off, A = some ⟨b, off, none⟩ ∧ b < w.heap.size ∧ ∀ j, j < len → ∃ Aj lj cj, w.cell? ⟨b, off + j, none⟩ = some (.slice Aj lj cj) ∧ PolyN w Aj lj cj (ps.getD j []) := by
  rcases h.elems with h0 | h1
  · omega
  · exact h1

theorem info_plst : (Tryz.prog.info? 23).map (fun i => (i.zero, i.size, i.bytes)) = some (some (.slice none 0 0), 1, 24) := by kernel_rfl

set_option maxRecDepth 100000 in
set_option maxHeartbeats 8000000 in
theorem subres_walk {I J : IntPred} (hI : IK I) (hJ : IK J) (A : Option Addr) (la ca : Nat) (f : List Int) (B : Option Addr) (lb cb : Nat) (g : List Int) (w : World) (hf : PolyP I w A la ca f) (hg : PolyP J w B lb cb g) (hla : la ≤ 1000000) (hlb : lb ≤ 1000000)
    (g1 : 1 ≤ plen g) (hfg : plen g ≤ plen f) (k : Nat) (sF : FitP f) (sG : FitP g)
    (hok : rOK k ⟨ptrim f, ptrim g, -1, (-1) ^ (plen f - plen g + 1)⟩) (hk : k ≤ 1000) :
    CallsIn Fence.wide 9 Tryz.prog 9 #[.slice A la ca, .slice B lb cb] w fun e w' => ∃ A1 c1, e = .returned (.tuple #[.slice A1 (rseq k f g).length c1, .int .i64 0]) ∧ PLsN w' A1 (rseq k f g).length c1 (rseq k f g) ∧ Below w.heap.size w w' := by
  have Hok := Lib.hid hok
  have hsf : SmP f := sF.smp
  have hsg : SmP g := sG.smp
  have SF := Lib.hid sF
  have SG := Lib.hid sG
  clear hok sF sG
  have Hf := Lib.hid (hf.at_ hI)
  have Hg := Lib.hid (hg.at_ hJ)
  obtain ⟨df, hdf⟩ : ∃ d, plen f = d + 1 := ⟨plen f - 1, by omega⟩
  obtain ⟨dg, hdg⟩ : ∃ d, plen g = d + 1 := ⟨plen g - 1, by omega⟩
  have hfb : df < 1000000 := by have := plen_le f; have := hf.length; omega
  have hgb : dg < 1000000 := by have := plen_le g; have := hg.length; omega
  have hdd : dg ≤ df := by omega
  have Hdf := Lib.hid hdf
  have Hdg := Lib.hid hdg
  clear hf hg
  refine callsIn_of_wp_marks Tryz.func9 rfl trivial ?_ rfl
  simp only [Tryz.ntmps9, List.size_toArray, List.length_cons, List.length_nil, Nat.reduceAdd, Nat.reduceSub, Array.replicate_succ, Array.replicate_zero, List.push_toArray, List.append_toArray, List.nil_append, List.cons_append]
  clear hdf hdg g1 hfg
  gi_wp2_with fail
  refine ⟨trivial, (callsIn_wide.2 (degree_any _ _ _ _ _ Hg.out hsg (by omega))).mono ?_⟩
  rintro e w1 ⟨rfl, hb1⟩
  rw [Hdg.out, show ((dg + 1 : Nat) : Int) - 1 = (dg : Int) by omega]
  have Hf1 := Lib.hid (Hf.out.below ikAt hb1)
  have Hg1 := Lib.hid (Hg.out.below ikAt hb1)
  have Hb1 := Lib.hid hb1
  have dg0 : decide ((dg : Int) < 0) = false := decide_eq_false (by omega)
  have dfg : decide ((df : Int) < (dg : Int)) = false := decide_eq_false (by omega)
  clear hb1 Hf Hg
  gi_wp2_with fail
  refine ⟨trivial, (callsIn_wide.2 (degree_any _ _ _ _ _ Hf1.out hsf (by omega))).mono ?_⟩
  rintro e w2 ⟨rfl, hb2⟩
  rw [Hdf.out, show ((df + 1 : Nat) : Int) - 1 = (df : Int) by omega]
  have Hf2 := Lib.hid (Hf1.out.below ikAt hb2)
  have Hg2 := Lib.hid (Hg1.out.below ikAt hb2)
  have Hb2 := Lib.hid (Hb1.out.trans (hb2.mono Hb1.out.size))
  clear hb2 Hf1 Hg1 Hb1
  gi_wp2_with fail
  refine ⟨trivial, (callsIn_wide.2 (degree_any _ _ _ _ _ Hg2.out hsg (by omega))).mono ?_⟩
  rintro e w3 ⟨rfl, hb3⟩
  rw [Hdg.out, show ((dg + 1 : Nat) : Int) - 1 = (dg : Int) by omega]
  have Hf3 := Lib.hid (Hf2.out.below ikAt hb3)
  have Hg3 := Lib.hid (Hg2.out.below ikAt hb3)
  have Hb3 := Lib.hid (Hb2.out.trans (hb3.mono Hb2.out.size))
  clear hb3 Hf2 Hg2 Hb2
  gi_wp2_with fail
  obtain ⟨W, hW⟩ : ∃ W, W = w3.alloc (.cells #[.slice none 0 0] 29) := ⟨_, rfl⟩
  obtain ⟨gl, hgl⟩ : ∃ b, b = w3.heap.size := ⟨_, rfl⟩
  have hba : Below w3.heap.size w3 W := by rw [hW]; exact (Below.refl _ _).alloc (Nat.le_refl _) _
  have hbl : Blk W gl 29 #[.slice none 0 0] := by rw [hW, hgl]; exact Blk.new _ _ _
  rw [← hW, ← hgl]
  have Hf8 := Lib.hid (Hf3.out.below ikAt hba)
  have Hg8 := Lib.hid (Hg3.out.below ikAt hba)
  have Hb8 := Lib.hid (Hb3.out.trans (hba.mono Hb3.out.size))
  have hglw : w.heap.size ≤ gl := by rw [hgl]; exact Hb3.out.size
  clear hW hgl hba Hf3 Hg3 Hb3
  refine ⟨trivial, (callsIn_wide.2 (remainders_any _ _ _ _ _ _ W)).mono ?_⟩
  rintro e w8 ⟨rfl, hw8⟩
  have hba : Below W.heap.size W w8 := by rw [hw8]; exact ((Below.refl _ _).alloc (Nat.le_refl _) _).alloc (by simp) _
  have hb1 : Blk w8 W.heap.size 23 #[.slice A la ca] := by rw [hw8]; exact (Blk.new _ _ _).alloc _
  have hb2 : Blk w8 (W.heap.size + 1) 23 #[.slice B lb cb] := by rw [hw8]; have := Blk.new (W.alloc (.cells #[.slice A la ca] 23)) 23 #[.slice B lb cb]; simp only [World.size_alloc] at this; exact this
  have hbl8 := hbl.below hba hbl.lt
  have Hf9 := Lib.hid (Hf8.out.below ikAt hba)
  have Hg9 := Lib.hid (Hg8.out.below ikAt hba)
  have Hb9 := Lib.hid (Hb8.out.trans (hba.mono Hb8.out.size))
  have hglW := hbl.lt
  obtain ⟨gf, hgf⟩ : ∃ b, b = W.heap.size := ⟨_, rfl⟩
  obtain ⟨gg, hgg⟩ : ∃ b, b = W.heap.size + 1 := ⟨_, rfl⟩
  rw [← hgf] at hb1
  rw [← hgg] at hb2
  rw [← hgg, ← hgf]
  have hws := Hb9.out.size
  have HB1 := Lib.hid hb1
  have HB2 := Lib.hid hb2
  have HBL := Lib.hid hbl8
  have hgl8 := hbl8.lt
  have hgf8 := hb1.lt
  have hne : gl ≠ gf := by omega
  clear hba hw8 hgf hgg hb1 hb2 hbl8 hbl Hf8 Hg8 Hb8 hglW
  gi_wp2_with fail
  refine wpIn_fed rfl (enters_of Tryz.func65 (by kernel_rfl) rfl) (remainders_feeds gf gg gf ⟨A, la, ca, f⟩ ⟨B, lb, cb, g⟩ w8 Hf9.out Hg9.out HB1.out HB2.out SF.out SG.out hla hlb ⟨_, _, _, HB1.out⟩ k Hok.out) rfl
    ?pre1 (SI gl gf w.heap.size w8) (fun _ _ _ => False)
    (fun s W l o o' h hl hc hle => h.put hl hc hle) (fun c s W l o o' h hl hc hle => h) (fun s W o h => h.alloc o)
    (fun s A B hb h => h.near hb) (fun c s A B hb h => h)
    ⟨⟨_, HBL.out, .inl ⟨rfl, rfl⟩⟩, Keep.refl _ _, Below.refl _ _, hglw, hgl8, hgf8, hne, hws⟩ (fun x => { tmps := #[.slice A la ca, .slice B lb cb, undef, undef, .slice none 0 0, .int .i64 0, .pointer (some ⟨gl, 0, none⟩), x.val, .slice B lb cb, .int .i64 (dg : Int), .bool false, .bool false, .slice A la ca, .int .i64 (df : Int), .slice B lb cb, .int .i64 (dg : Int), .bool false, .bool false, .slice A la ca, .slice B lb cb, .func (.func 65) #[] #[.pointer (some ⟨gf, 0, none⟩), .pointer (some ⟨gg, 0, none⟩)], x.val, undef, undef, undef, undef, undef], defers := [] }) ?assign1 ?body1 ?done1 ?stop1
  case pre1 =>
    rintro x W l o o' ⟨h1, h2⟩ hl hc
    exact ⟨PolyP.putObj h1 hl hc, h2⟩
  case assign1 =>
    intro l m x W K hK
    gi_wp2_with (rw [Oper.semAt_eq _ _ _ (fun c h => by cases h)]; go_simp; try go_bits)
    exact hK
  case body1 =>
    rintro l m pre x W hI ⟨hx, hmem⟩ hN hs
    obtain ⟨v, hbx, hrow⟩ := hI.box
    obtain ⟨Av, lv, cv, hvs⟩ := hrow.slice
    have hpl : pre.length ≤ 1002 := by have := rseq_length k f g; dsimp only at hN; omega
    have q0 : W.cell? ⟨gl, 0, none⟩ = some v := hbx.cell 0
    have q1 := hbx.frozen 0
    obtain ⟨cs, hv, hcv⟩ : ∃ cs : Array Value, ((v = .slice none 0 0 ∧ pre.length = 0 ∧ cs = #[]) ∨ ∃ g, v = .slice (some ⟨g, 0, none⟩) pre.length cs.size ∧ w8.heap.size + 2 ≤ g ∧ Blk W g 23 cs ∧ 0 < cs.size ∧ ∀ j, j < cs.size → ∃ A l c, cs[j]? = some (.slice A l c)) ∧ ∀ j, j < pre.length → cs[j]? = (pre.map El.val)[j]? := by
      rcases hrow with ⟨h1, h2⟩ | ⟨g, cs, h1, h2, h3, h4, h5, h6, h7⟩
      · have h3 : pre.length = 0 := by have := congrArg List.length h2; rw [List.length_map] at this; exact this
        exact ⟨#[], .inl ⟨h1, h3, rfl⟩, fun j hj => by omega⟩
      · rw [List.length_map] at h1 h7
        exact ⟨cs, .inr ⟨g, h1, h2, h3, h5, h6⟩, h7⟩
    have hcap : (v = .slice none 0 0 ∧ pre.length = 0 ∧ cs = #[]) ∨ ∃ g, v = .slice (some ⟨g, 0, none⟩) pre.length cs.size ∧ Blk (W.alloc (.cells #[x.val] 23)) g 23 cs ∧ pre.length ≤ cs.size := by
      rcases hv with h | ⟨g, h1, _, h3, h4, _⟩
      · exact .inl h
      · refine .inr ⟨g, h1, h3.alloc _, ?_⟩
        rcases Nat.lt_or_ge cs.size pre.length with h6 | h6
        · have := hcv cs.size h6
          rw [Array.getElem?_eq_none (Nat.le_refl _), List.getElem?_eq_getElem (by simpa using h6)] at this
          cases this
        · exact h6
    have HV := Lib.hid hv
    have HCV := Lib.hid hcv
    have HCap := Lib.hid hcap
    have HI := Lib.hid hI
    have HBX := Lib.hid hbx
    have HRow := Lib.hid hrow
    have Hvs := Lib.hid hvs
    have hglt := hbx.lt
    clear hv hcv hcap hI hbx hrow hvs hx hmem hN
    obtain ⟨i0, hi, hz0, hz1, hz2⟩ := info_parts info_plst
    gi_wp2_with (first | (gi_at_builtin; refine wpListIn_app1 rfl (.tmp 22) (.tmp 24) 29 23 rfl i0 (.slice none 0 0) Tryz.underlying29 hi hz0 hz1 (by omega) rfl rfl v pre.length cs rfl HCap.out W.heap.size x.val rfl (by go_simp) rfl (by omega) ?_) | (rw [Oper.semAt_eq _ _ _ (fun c h => by cases h)]; go_simp; try go_bits))
    intro g' w' CS h1 h2 h3 h4 h5 hst
    have hst' : (v = .slice (some ⟨g', 0, none⟩) pre.length CS.size ∧ w' = (W.alloc (.cells #[x.val] 23)).setCell ⟨g', pre.length, none⟩ x.val ∧ CS.size = cs.size ∧ Blk (W.alloc (.cells #[x.val] 23)) g' 23 cs) ∨ (g' = (W.alloc (.cells #[x.val] 23)).heap.size ∧ w' = (W.alloc (.cells #[x.val] 23)).drew.alloc (.cells CS 23)) := by
      rcases hst with h | ⟨h6, h7⟩
      · exact .inl h
      · exact .inr ⟨by rw [World.size_alloc]; exact h6, h7⟩
    obtain ⟨k1, k2, k3, k4, k5⟩ := HI.out.step x hs HBX.out HRow.out HV.out HCV.out h1 h2 h3 h4 h5 hst'
    have K := Lib.hid (And.intro k2 (And.intro k3 (And.intro k4 k5)))
    have p0 : w'.cell? ⟨gl, 0, none⟩ = some v := k1.cell 0
    have p1 := k1.frozen 0
    obtain ⟨sz, hsz⟩ : ∃ sz, sz = CS.size := ⟨_, rfl⟩
    rw [← hsz] at K ⊢
    clear k1 k2 k3 k4 k5 h1 h2 h3 h4 h5 hst hst' hsz HV HCV HCap HI HBX HRow q0 q1
    obtain ⟨Av, lv, cv, rfl⟩ : ∃ A l c, v = .slice A l c := ⟨_, _, _, Hvs.out⟩
    clear Hvs
    gi_wp2
    exact ⟨K.out.1, K.out.2.1, K.out.2.2.1, K.out.2.2.2⟩
  case done1 =>
    rintro D xs W hD hS hI hP hK
    obtain ⟨v, hbx, hrow⟩ := hI.box
    have q0 : W.cell? ⟨gl, 0, none⟩ = some v := hbx.cell 0
    have hlen : (xs.map El.val).length = (rseq k f g).length := by rw [List.length_map, ← hS, List.length_map]
    have hput : ∀ (g : Nat) (cs : Array Value), Blk W g 23 cs → ∀ o, Blk (W.putObj D o) g 23 cs := fun g cs h o => by
      refine blk_same h (World.putObj_heap_other ?_)
      intro e
      unfold Blk at h
      rw [e, hK] at h
      cases h
    have hfin : ∃ A1 c1, v = .slice A1 (rseq k f g).length c1 ∧ ∀ o, PLsN (W.putObj D o) A1 (rseq k f g).length c1 (rseq k f g) := by
      rw [← hlen]
      rcases hrow with ⟨h1, h2⟩ | ⟨gv, cs, h1, h2, h3, h4, h5, h6, h7⟩
      · rw [h2] at hlen
        simp [rseq] at hlen
      · refine ⟨_, _, h1, fun o => ⟨hlen.symm, .inr ⟨gv, 0, rfl, (hput gv cs h3 o).lt, fun j hj => ?_⟩⟩⟩
        have hj2 : j < xs.length := by rw [List.length_map] at hj; exact hj
        have h8 := h7 j hj
        rw [List.getElem?_map, List.getElem?_eq_getElem hj2] at h8
        have hok := (hP (xs[j]) (List.getElem_mem _)).1
        refine ⟨xs[j].A, xs[j].l, xs[j].c, by rw [Nat.zero_add, (hput gv cs h3 o).cell, h8]; rfl, ?_⟩
        have h9 : (rseq k f g).getD j [] = xs[j].p := by
          have : (xs.map El.p)[j]? = (rseq k f g)[j]? := by rw [hS]
          rw [List.getD_eq_getElem?_getD, ← this, List.getElem?_map, List.getElem?_eq_getElem hj2]; rfl
        rw [h9]
        exact PolyP.putObj hok hK rfl
    obtain ⟨A1, c1, rfl, hpl⟩ := hfin
    have HP := Lib.hid hpl
    have HB := Lib.hid (Hb9.out.trans (hI.bel.mono (Nat.le_refl _)))
    have HK := Lib.hid hK
    clear hpl hbx hrow hI hP hS hput hlen hK
    gi_wp2
    refine ⟨by simp, .inl ⟨_, _, rfl, run_takeDeferred HK.out, ?_⟩⟩
    refine ⟨.tuple #[.slice A1 (rseq k f g).length c1, .int .i64 0], by simp [results, Tryz.results9, go_sem], A1, c1, rfl, HP.out _, HB.out.trans ⟨rfl, rfl, rfl, by simp, fun k hk => World.putObj_heap_other (by omega)⟩⟩
  case stop1 =>
    rintro D c pre W hD _ hF
    exact hF.elim

theorem subres_any {I J : IntPred} (hI : IK I) (hJ : IK J) (A : Option Addr) (la ca : Nat) (f : List Int) (B : Option Addr) (lb cb : Nat) (g : List Int) (w : World) (hf : PolyP I w A la ca f) (hg : PolyP J w B lb cb g) (hla : la ≤ 1000000) (hlb : lb ≤ 1000000)
    (g1 : 1 ≤ plen g) (hfg : plen g ≤ plen f) (k : Nat) (sF : FitP f) (sG : FitP g)
    (hok : rOK k ⟨ptrim f, ptrim g, -1, (-1) ^ (plen f - plen g + 1)⟩) (hk : k ≤ 1000) :
    Calls Tryz.prog 9 #[.slice A la ca, .slice B lb cb] w fun e w' => ∃ A1 c1, e = .returned (.tuple #[.slice A1 (rseq k f g).length c1, .int .i64 0]) ∧ PLsN w' A1 (rseq k f g).length c1 (rseq k f g) ∧ Below w.heap.size w w' :=
  callsIn_wide.1 (subres_walk hI hJ A la ca f B lb cb g w hf hg hla hlb g1 hfg k sF sG hok hk)
end Go.Proofs.YtgblfpkfapmlnaaGreat
