/- The walk of the law SturmVariations: it answers true, and only makes new memory. -/
import Derived.Test.YtdihefmjfnlpcaaStg
import Derived.Test.YtdihefmjfnlpcaaOwa
namespace Go.Proofs.Ytdihefmjfnlpcaa
open Go.RowKit

/-- The four own slices of the law. -/
structure LS (w : World) (base : Nat) (v5 v6 v7 v8 : Value) (n5 n6 n7 n8 : Nat) (ps : List (List Int)) (x6 x7 x8 : List Int) : Prop where
  a : OwnV w base v5 n5 ps
  b : OwnJ w base v6 n6 x6
  c : OwnJ w base v7 n7 x7
  d : OwnJ w base v8 n8 x8
  p56 : Apart v5 v6
  p57 : Apart v5 v7
  p58 : Apart v5 v8
  p67 : Apart v6 v7
  p68 : Apart v6 v8
  p78 : Apart v7 v8
section
variable {w w' : World} {base : Nat} {v5 v6 v7 v8 v' : Value} {n5 n6 n7 n8 m : Nat} {ps ps' : List (List Int)} {x6 x7 x8 x' : List Int}
theorem LS.below (h : LS w base v5 v6 v7 v8 n5 n6 n7 n8 ps x6 x7 x8) (hb : Below w.heap.size w w') : LS w' base v5 v6 v7 v8 n5 n6 n7 n8 ps x6 x7 x8 :=
  ⟨h.a.below hb, h.b.below hb, h.c.below hb, h.d.below hb, h.p56, h.p57, h.p58, h.p67, h.p68, h.p78⟩
theorem LS.put5 (h : LS w base v5 v6 v7 v8 n5 n6 n7 n8 ps x6 x7 x8) (hf : FrA w w' v5 v') (ho : OwnV w' base v' m ps') : LS w' base v' v6 v7 v8 m n6 n7 n8 ps' x6 x7 x8 :=
  ⟨ho, h.b.frame hf h.p56, h.c.frame hf h.p57, h.d.frame hf h.p58, h.p56.grown hf (fun g hg => (h.b.blt g hg).2), h.p57.grown hf (fun g hg => (h.c.blt g hg).2), h.p58.grown hf (fun g hg => (h.d.blt g hg).2), h.p67, h.p68, h.p78⟩
theorem LS.put6 (h : LS w base v5 v6 v7 v8 n5 n6 n7 n8 ps x6 x7 x8) (hf : FrA w w' v6 v') (ho : OwnJ w' base v' m x') : LS w' base v5 v' v7 v8 n5 m n7 n8 ps x' x7 x8 :=
  ⟨h.a.frame hf h.p56.symm, ho, h.c.frame hf h.p67, h.d.frame hf h.p68, (h.p56.symm.grown hf (fun g hg => (h.a.blt g hg).2)).symm, h.p57, h.p58, h.p67.grown hf (fun g hg => (h.c.blt g hg).2), h.p68.grown hf (fun g hg => (h.d.blt g hg).2), h.p78⟩
theorem LS.put7 (h : LS w base v5 v6 v7 v8 n5 n6 n7 n8 ps x6 x7 x8) (hf : FrA w w' v7 v') (ho : OwnJ w' base v' m x') : LS w' base v5 v6 v' v8 n5 n6 m n8 ps x6 x' x8 :=
  ⟨h.a.frame hf h.p57.symm, h.b.frame hf h.p67.symm, ho, h.d.frame hf h.p78, h.p56, (h.p57.symm.grown hf (fun g hg => (h.a.blt g hg).2)).symm, h.p58, (h.p67.symm.grown hf (fun g hg => (h.b.blt g hg).2)).symm, h.p68, h.p78.grown hf (fun g hg => (h.d.blt g hg).2)⟩
theorem LS.put8 (h : LS w base v5 v6 v7 v8 n5 n6 n7 n8 ps x6 x7 x8) (hf : FrA w w' v8 v') (ho : OwnJ w' base v' m x') : LS w' base v5 v6 v7 v' n5 n6 n7 m ps x6 x7 x' :=
  ⟨h.a.frame hf h.p58.symm, h.b.frame hf h.p68.symm, h.c.frame hf h.p78.symm, ho, h.p56, h.p57, (h.p58.symm.grown hf (fun g hg => (h.a.blt g hg).2)).symm, h.p67, (h.p68.symm.grown hf (fun g hg => (h.b.blt g hg).2)).symm, (h.p78.symm.grown hf (fun g hg => (h.c.blt g hg).2)).symm⟩
theorem apart_nil {u : Value} : Apart (.slice none 0 0) u := fun g h => by cases h
theorem LS.nil (w : World) (base : Nat) : LS w base (.slice none 0 0) (.slice none 0 0) (.slice none 0 0) (.slice none 0 0) 0 0 0 0 [] [] [] [] :=
  ⟨OwnV.nil _ _, OwnJ.nil _ _, OwnJ.nil _ _, OwnJ.nil _ _, apart_nil, apart_nil, apart_nil, apart_nil, apart_nil, apart_nil⟩
end

/-! ### The numbers are small -/
theorem fit_lt2 {z : Int} (h : z.natAbs < 18446744073709551616) : Fit z := by
  refine Nat.lt_of_lt_of_le (m := BB ^ 2) ?_ (Nat.pow_le_pow_right BB_pos (by omega))
  rw [BB_eq]; omega
theorem scs_bd {p : List Int} {z q : Int} (n : Nat) (hp : ∀ k, (p.getD k 0).natAbs ≤ 32768) (hz : z.natAbs ≤ 128) (hq : q.natAbs ≤ 128) : ∀ t, (scs p z q n t).2.natAbs ≤ 128 ^ t ∧ (scs p z q n t).1.natAbs ≤ t * (32768 * 128 ^ t)
  | 0 => by simp [scs]
  | t + 1 => by
    obtain ⟨h1, h2⟩ := scs_bd n hp hz hq t
    have e1 : 128 ^ (t + 1) = 128 * 128 ^ t := by rw [Nat.pow_succ, Nat.mul_comm]
    have hpw : (if t = 0 then (scs p z q n t).2 else (scs p z q n t).2 * q).natAbs ≤ 128 ^ (t + 1) := by
      split
      · omega
      · rw [Int.natAbs_mul, e1, Nat.mul_comm]; exact Nat.mul_le_mul hq h1
    simp only [scs]
    refine ⟨hpw, ?_⟩
    generalize (if t = 0 then (scs p z q n t).2 else (scs p z q n t).2 * q) = pw at hpw ⊢
    have h3 : ((scs p z q n t).1 * z).natAbs ≤ t * (32768 * 128 ^ (t + 1)) := by
      rw [Int.natAbs_mul, e1]
      refine Nat.le_trans (Nat.mul_le_mul h2 hz) (Nat.le_of_eq ?_)
      grind
    have h4 : (p.getD (n - 1 - t) 0 * pw).natAbs ≤ 32768 * 128 ^ (t + 1) := by
      rw [Int.natAbs_mul]; exact Nat.mul_le_mul (hp _) hpw
    have h5 : (t + 1) * (32768 * 128 ^ (t + 1)) = t * (32768 * 128 ^ (t + 1)) + 32768 * 128 ^ (t + 1) := by grind
    have h6 := Int.natAbs_add_le ((scs p z q n t).1 * z) (p.getD (n - 1 - t) 0 * pw)
    omega
theorem i16_ok {f : List Int} {z : Int} {q : Nat} (hf : ∀ k, (f.getD k 0).natAbs ≤ 32768) (hl : f.length ≤ 6) (hz : z.natAbs ≤ 128) (hq : q ≤ 128) : PoOK z q f := by
  refine ⟨fun k => fit_lt2 (by have := hf k; omega), by omega, fun t ht => ?_⟩
  have hpl := plen_le f
  have hz2 : (z.tdiv (Nat.gcd z.natAbs q)).natAbs ≤ 128 := by rw [Int.natAbs_tdiv]; exact Nat.le_trans (Nat.div_le_self _ _) hz
  have hq2 : ((q / Nat.gcd z.natAbs q : Nat) : Int).natAbs ≤ 128 := by rw [Int.natAbs_natCast]; exact Nat.le_trans (Nat.div_le_self _ _) hq
  obtain ⟨h1, h2⟩ := scs_bd (plen f) (p := ptrim f) (fun k => by rw [ptrim_getD]; exact hf k) hz2 hq2 t
  have h3 : 128 ^ t ≤ 128 ^ 6 := Nat.pow_le_pow_right (by omega) (by omega)
  have h4 : t * (32768 * 128 ^ t) ≤ 6 * (32768 * 128 ^ 6) := Nat.mul_le_mul (by omega) (Nat.mul_le_mul_left _ h3)
  exact ⟨fit_lt2 (by omega), fit_lt2 (by omega)⟩
theorem at_ok {p d : Int} (hp : I8 p) (hd : I8 d) : AtOK (rtz p d) (rtq p d) ∧ (rtz p d).natAbs ≤ 128 ∧ rtq p d ≤ 128 := by
  obtain ⟨b1, b2, b3⟩ := fr_bd hp hd
  have hz : (rtz p d).natAbs ≤ 128 := by
    unfold rtz
    rw [Int.natAbs_tdiv, Int.natAbs_mul]
    refine Nat.le_trans (Nat.div_le_self _ _) ?_
    have : (sg (frd d)).natAbs ≤ 1 := by rcases sg_cases (frd d) with ⟨_, e⟩ | ⟨_, e⟩ | ⟨_, e⟩ <;> omega
    exact Nat.le_trans (Nat.mul_le_mul this b1) (by omega)
  have hg : 0 < Nat.gcd (frn p d).natAbs (frd d).natAbs := Nat.gcd_pos_of_pos_right _ (by omega)
  have hq : rtq p d ≤ 128 := by unfold rtq; exact Nat.le_trans (Nat.div_le_self _ _) (by omega)
  have hq0 : 0 < rtq p d := by
    unfold rtq
    exact Nat.div_pos (Nat.le_of_dvd (by omega) (Nat.gcd_dvd_right _ _)) hg
  refine ⟨⟨by unfold U64; rw [BB_eq]; omega, by rw [BB_eq]; omega, hq0, fit_lt2 ?_, fit_lt2 ?_⟩, hz, hq⟩
  · rw [Int.natAbs_tdiv]; exact Nat.lt_of_le_of_lt (Nat.div_le_self _ _) (by omega)
  · rw [Int.natAbs_natCast]; exact Nat.lt_of_le_of_lt (Nat.div_le_self _ _) (by omega)

/-- the first k values of a function -/
def upk {α : Type} (F : Nat → α) (k : Nat) : List α := (List.range k).map F
theorem upk_succ {α : Type} (F : Nat → α) (k : Nat) : upk F (k + 1) = upk F k ++ [F k] := by simp [upk, List.range_succ]
theorem upk_mem {α : Type} {F : Nat → α} {k : Nat} {x : α} (h : x ∈ upk F k) : ∃ j, j < k ∧ x = F j := by
  obtain ⟨j, hj, rfl⟩ := List.mem_map.1 h
  exact ⟨j, List.mem_range.1 hj, rfl⟩
theorem upk_map {α β : Type} (F : Nat → α) (G : α → β) (k : Nat) : (upk F k).map G = upk (fun j => G (F j)) k := by simp [upk]
theorem sgn_upk (F : Nat → Int) (hF : ∀ j, F j = -1 ∨ F j = 0 ∨ F j = 1) (k : Nat) : Sgn1 (upk F k) := fun j => by
  unfold upk
  rw [List.getD_eq_getElem?_getD, List.getElem?_map]
  cases (List.range k)[j]? with
  | none => exact .inr (.inl rfl)
  | some x => exact hF x

set_option maxRecDepth 100000 in
set_option maxHeartbeats 8000000 in
theorem law_vars (AA : Nat → Option Addr) (LL CC : Nat → Nat) (PP : Nat → List Int) (q0 q1 : Int) (w : World) (hI : ∀ k, k < 3 → I16At w (AA k) (LL k) (CC k) (PP k) ∧ LL k ≤ 9223372036854775807) (h0 : I8 q0) (h1 : I8 q1) :
    Calls Try.prog 4 #[.agg #[.slice (AA 0) (LL 0) (CC 0), .slice (AA 1) (LL 1) (CC 1), .slice (AA 2) (LL 2) (CC 2)], .agg #[.int .i8 q0, .int .i8 q1]] w fun e w' => e = .returned (.bool true) ∧ Below w.heap.size w w' := by
  obtain ⟨ha, hzb, hqb⟩ := at_ok h0 h1
  obtain ⟨z, hz⟩ : ∃ z, z = rtz q0 q1 := ⟨_, rfl⟩
  obtain ⟨q, hq⟩ : ∃ q, q = rtq q0 q1 := ⟨_, rfl⟩
  rw [← hz, ← hq] at ha
  rw [← hz] at hzb
  rw [← hq] at hqb
  have HZ := Lib.hid hz
  have HQ := Lib.hid hq
  obtain ⟨F, hF⟩ : ∃ F : Nat → List Int, F = fun k => ptrim ((PP k).take 6) := ⟨_, rfl⟩
  have HF : Hid (∀ k, ptrim ((PP k).take 6) = F k) := Lib.hid (fun k => by rw [hF])
  have hPo : ∀ k, k < 3 → PoOK z q (F k) := fun k hk => by
    rw [hF]
    refine i16_ok (fun j => ?_) ?_ hzb hqb
    · show ((ptrim ((PP k).take 6)).getD j 0).natAbs ≤ 32768
      rw [ptrim_getD]
      rcases Nat.lt_or_ge j ((PP k).take 6).length with h | h
      · have hmem : ((PP k).take 6).getD j 0 ∈ PP k := by
          rw [List.getD_eq_getElem?_getD, List.getElem?_eq_getElem h]
          exact List.mem_of_mem_take (List.getElem_mem _)
        have := (hI k hk).1.range _ hmem
        omega
      · rw [getD_out _ h]; omega
    · show (ptrim ((PP k).take 6)).length ≤ 6
      rw [ptrim_length]
      have := plen_le ((PP k).take 6)
      rw [List.length_take] at this
      omega
  have hSm : ∀ k, k < 3 → SmP (F k) := fun k hk => (hPo k hk).fit.smp
  have HI := Lib.hid hI
  have HPo := Lib.hid hPo
  have HSm := Lib.hid hSm
  obtain ⟨W0, hW0⟩ : ∃ W0, W0 = (w.alloc (.cells #[.slice (AA 0) (LL 0) (CC 0), .slice (AA 1) (LL 1) (CC 1), .slice (AA 2) (LL 2) (CC 2)] 42)).alloc (.cells #[.int .i8 q0, .int .i8 q1] 44) := ⟨_, rfl⟩
  have hbW : Below w.heap.size w W0 := by rw [hW0]; exact below_two w _ _ (Nat.le_refl _)
  have hcells : Hid (∀ k, k < 3 → W0.cell? ⟨w.heap.size, k, none⟩ = some (.slice (AA k) (LL k) (CC k))) := Lib.hid (fun k hk => by
    rw [hW0]
    match k, hk with
    | 0, _ => go_simp
    | 1, _ => go_simp
    | 2, _ => go_simp)
  have hc30 : Hid (W0.cell? ⟨w.heap.size + 1, 0, none⟩ = some (.int .i8 q0)) := Lib.hid (by rw [hW0]; go_simp)
  have hc31 : Hid (W0.cell? ⟨w.heap.size + 1, 1, none⟩ = some (.int .i8 q1)) := Lib.hid (by rw [hW0]; go_simp)
  have hsW : w.heap.size + 2 = W0.heap.size := by rw [hW0]; simp
  have HW0 := Lib.hid hW0
  have HbW := Lib.hid hbW
  clear hI hPo hSm hz hq hF hbW hW0
  go_enter Try.func4, Try.ntmps4
  go_wp2_with fail
  refine (awake15_any _).mono ?_
  rintro e w1 ⟨rfl, hb1⟩
  have hb1' : Below W0.heap.size W0 w1 := by rw [HW0.out]; exact hb1
  have Hb1 := Lib.hid hb1'
  clear hb1 hb1'
  go_wp2
  go_loopw [5, 6, 7, 8, 9] (fun s5 s6 s7 s8 s9 wr => ∃ k : Nat, k ≤ 3 ∧ s9 = .int .i64 (k : Int) ∧ LS wr W0.heap.size s5 s6 s7 s8 k k k k (upk F k) (upk (fun j => sat z q (F j)) k) (upk (fun j => sge false (F j)) k) (upk (fun j => sge true (F j)) k) ∧ Below W0.heap.size W0 wr) (fun _ _ _ _ s9 _ => 3 - (intOf s9).toNat)
  case atStart => exact ⟨0, by omega, rfl, LS.nil _ _, Hb1.out⟩
  case round =>
    clear Hb1
    obtain ⟨k, hk, rfl, hls, hbw⟩ := hrel
    have HL := Lib.hid hls
    have Hbw := Lib.hid hbw
    by_cases hlt : k < 3
    · have hki : (k : Int) < 3 := by omega
      have e0 := (hbw.cell (p := ⟨w.heap.size, k, none⟩) (show w.heap.size < _ by omega)).trans (hcells.out k hlt)
      obtain ⟨h16, hl16⟩ := HI.out k hlt
      have h16r := (h16.below HbW.out).below hbw
      clear hls hbw h16
      go_wp2_with fail
      refine (short_any _ _ _ 6 _ _ h16r (by omega) hl16).mono ?_
      rintro e w2 ⟨A2, l2, c2, rfl, h2, hb2⟩
      rw [HF.out k] at h2
      have hl2 : l2 ≤ 1000000 := by have h3 := h2.length; have h4 := (HPo.out k hlt).len; omega
      have HL2 := Lib.hid (HL.out.below hb2)
      have Hbw2 := Lib.hid (Hbw.out.trans (hb2.mono Hbw.out.size))
      have HP2 := Lib.hid h2
      clear h16r hl16 e0 h2 hb2 HL Hbw
      have hba : Below w2.heap.size w2 (w2.alloc (.cells #[.slice A2 l2 c2] 25)) := (Below.refl _ _).alloc (Nat.le_refl _) _
      have HL3 := Lib.hid (HL2.out.below hba)
      have Hbw3 := Lib.hid (Hbw2.out.trans (hba.mono Hbw2.out.size))
      have HP3 := Lib.hid (HP2.out.below ikN hba)
      clear hba HL2 Hbw2 HP2
      go_wp2_with (at_builtin; refine wpList_appV rfl (.tmp 21) (.tmp 23) rfl W0.heap.size k _ _ rfl HL3.out.a Hbw3.out.size _ _ _ _ _ rfl (by go_simp) HP3.out (by omega) ?_)
      intro v5 w4 ho hf
      have HL4 := Lib.hid (HL3.out.put5 hf ho)
      have HP4 := Lib.hid (hf.poly HP3.out)
      have Hbw4 := Lib.hid (hf.below (fun g hg => (HL3.out.a.blt g hg).1) Hbw3.out.size Hbw3.out)
      clear ho hf HL3 HP3 Hbw3
      have e30 := (Hbw4.out.cell (p := ⟨w.heap.size + 1, 0, none⟩) (show w.heap.size + 1 < _ by omega)).trans hc30.out
      have e31 := (Hbw4.out.cell (p := ⟨w.heap.size + 1, 1, none⟩) (show w.heap.size + 1 < _ by omega)).trans hc31.out
      go_wp2_with fail
      refine (rat15_any q0 q1 _ h0 h1).mono ?_
      rintro e w5 ⟨⟨n5, A5, l5, c5, B5, m5, d5, rfl, h5, h6⟩, hb5⟩
      rw [← HZ.out] at h5
      rw [← HQ.out] at h6
      have HL5 := Lib.hid (HL4.out.below hb5)
      have HP5 := Lib.hid (HP4.out.below ikN hb5)
      have Hbw5 := Lib.hid (Hbw4.out.trans (hb5.mono Hbw4.out.size))
      have hpo := HPo.out k hlt
      clear hb5 HL4 HP4 Hbw4 e30 e31
      go_wp2_with fail
      refine (signat_any ikN _ _ _ _ _ _ _ _ _ _ _ _ _ _ HP5.out hpo.fit hl2 h5 h6 ha.u ha.v ha.pos hpo.ok ha.fz ha.fq).mono ?_
      rintro e w6 ⟨he, hb6⟩
      have he2 : e = .returned (.int .i64 (sat z q (F k))) := he
      subst he2
      clear he
      have HL6 := Lib.hid (HL5.out.below hb6)
      have HP6 := Lib.hid (HP5.out.below ikN hb6)
      have Hbw6 := Lib.hid (Hbw5.out.trans (hb6.mono Hbw5.out.size))
      clear hb6 HL5 HP5 Hbw5 h5 h6 hpo
      have hba : Below w6.heap.size w6 (w6.alloc (.cells #[.int .i64 (sat z q (F k))] 3)) := (Below.refl _ _).alloc (Nat.le_refl _) _
      have HLa := Lib.hid (HL6.out.below hba)
      have Hba := Lib.hid (Hbw6.out.trans (hba.mono Hbw6.out.size))
      have HPa := Lib.hid (HP6.out.below ikN hba)
      clear hba HL6 Hbw6 HP6
      go_wp2_with (at_builtin; refine wpList_appJ rfl (.tmp 25) (.tmp 30) rfl W0.heap.size k _ _ rfl HLa.out.b Hba.out.size _ (sat z q (F k)) rfl (by go_simp) (by omega) ?_)
      intro v6 w7 ho hf
      have HL7 := Lib.hid (HLa.out.put6 hf ho)
      have HP7 := Lib.hid (hf.poly HPa.out)
      have Hbw7 := Lib.hid (hf.below (fun g hg => (HLa.out.b.blt g hg).1) Hba.out.size Hba.out)
      clear ho hf HLa HPa Hba
      have hsm := HSm.out k hlt
      go_wp2_with fail
      refine (signend_any ikN _ _ _ _ false _ HP7.out hsm (by omega)).mono ?_
      rintro e w8 ⟨rfl, hb8⟩
      have HL8 := Lib.hid (HL7.out.below hb8)
      have HP8 := Lib.hid (HP7.out.below ikN hb8)
      have Hbw8 := Lib.hid (Hbw7.out.trans (hb8.mono Hbw7.out.size))
      clear hb8 HL7 HP7 Hbw7
      have hba : Below w8.heap.size w8 (w8.alloc (.cells #[.int .i64 (sge false (F k))] 3)) := (Below.refl _ _).alloc (Nat.le_refl _) _
      have HLa := Lib.hid (HL8.out.below hba)
      have Hba := Lib.hid (Hbw8.out.trans (hba.mono Hbw8.out.size))
      have HPa := Lib.hid (HP8.out.below ikN hba)
      clear hba HL8 Hbw8 HP8
      go_wp2_with (at_builtin; refine wpList_appJ rfl (.tmp 32) (.tmp 35) rfl W0.heap.size k _ _ rfl HLa.out.c Hba.out.size _ (sge false (F k)) rfl (by go_simp) (by omega) ?_)
      intro v7 w9 ho hf
      have HL9 := Lib.hid (HLa.out.put7 hf ho)
      have HP9 := Lib.hid (hf.poly HPa.out)
      have Hbw9 := Lib.hid (hf.below (fun g hg => (HLa.out.c.blt g hg).1) Hba.out.size Hba.out)
      clear ho hf HLa HPa Hba
      go_wp2_with fail
      refine (signend_any ikN _ _ _ _ true _ HP9.out hsm (by omega)).mono ?_
      rintro e w10 ⟨rfl, hb10⟩
      have HL10 := Lib.hid (HL9.out.below hb10)
      have HP10 := Lib.hid (HP9.out.below ikN hb10)
      have Hbw10 := Lib.hid (Hbw9.out.trans (hb10.mono Hbw9.out.size))
      clear hb10 HL9 HP9 Hbw9
      have hba : Below w10.heap.size w10 (w10.alloc (.cells #[.int .i64 (sge true (F k))] 3)) := (Below.refl _ _).alloc (Nat.le_refl _) _
      have HLa := Lib.hid (HL10.out.below hba)
      have Hba := Lib.hid (Hbw10.out.trans (hba.mono Hbw10.out.size))
      have HPa := Lib.hid (HP10.out.below ikN hba)
      clear hba HL10 Hbw10 HP10
      go_wp2_with (at_builtin; refine wpList_appJ rfl (.tmp 37) (.tmp 40) rfl W0.heap.size k _ _ rfl HLa.out.d Hba.out.size _ (sge true (F k)) rfl (by go_simp) (by omega) ?_)
      intro v8 w11 ho hf
      have HL11 := Lib.hid (HLa.out.put8 hf ho)
      have HP11 := Lib.hid (hf.poly HPa.out)
      have Hbw11 := Lib.hid (hf.below (fun g hg => (HLa.out.d.blt g hg).1) Hba.out.size Hba.out)
      clear ho hf HLa HPa Hba
      have hfin := HL11.out
      rw [← upk_succ F k, ← upk_succ (fun j => sat z q (F j)) k, ← upk_succ (fun j => sge false (F j)) k, ← upk_succ (fun j => sge true (F j)) k] at hfin
      have Hfin := Lib.hid hfin
      clear hfin HL11 HP11
      go_wp2
      go_roundw
      case rel => exact ⟨k + 1, by omega, by go_num, Hfin.out, Hbw11.out⟩
      case measure => simp [intOf]; omega
    · have hk3 : k = 3 := by omega
      subst hk3
      obtain ⟨A5, c5, rfl, hp5⟩ := HL.out.a.plst
      obtain ⟨A6, c6, rfl, hp6⟩ := HL.out.b.at_
      obtain ⟨A7, c7, rfl, hp7⟩ := HL.out.c.at_
      obtain ⟨A8, c8, rfl, hp8⟩ := HL.out.d.at_
      have H5 := Lib.hid hp5
      have H6 := Lib.hid hp6
      have H7 := Lib.hid hp7
      have H8 := Lib.hid hp8
      have e30 := (hbw.cell (p := ⟨w.heap.size + 1, 0, none⟩) (show w.heap.size + 1 < _ by omega)).trans hc30.out
      have e31 := (hbw.cell (p := ⟨w.heap.size + 1, 1, none⟩) (show w.heap.size + 1 < _ by omega)).trans hc31.out
      obtain ⟨N6, hN6⟩ : ∃ N, N = (vst (upk (fun j => sat z q (F j)) 3) 3).1 := ⟨_, rfl⟩
      obtain ⟨N7, hN7⟩ : ∃ N, N = (vst (upk (fun j => sge false (F j)) 3) 3).1 := ⟨_, rfl⟩
      obtain ⟨N8, hN8⟩ : ∃ N, N = (vst (upk (fun j => sge true (F j)) 3) 3).1 := ⟨_, rfl⟩
      have HN6 := Lib.hid hN6
      have HN7 := Lib.hid hN7
      have HN8 := Lib.hid hN8
      clear hls hbw hp5 hp6 hp7 hp8 HL hN6 hN7 hN8
      go_wp2_with fail
      refine (rat15_any q0 q1 _ h0 h1).mono ?_
      rintro e w5 ⟨⟨n5, B1, l5, c9, B5, m5, d5, rfl, h5, h6⟩, hb5⟩
      rw [← HZ.out] at h5
      rw [← HQ.out] at h6
      have H5b := H5.out.below hb5
      have H6b := Lib.hid (H6.out.below hb5)
      have H7b := Lib.hid (H7.out.below hb5)
      have H8b := Lib.hid (H8.out.below hb5)
      have Hbw5 := Lib.hid (Hbw.out.trans (hb5.mono Hbw.out.size))
      clear hb5 H5 H6 H7 H8 Hbw e30 e31
      go_wp2_with fail
      refine (vars_any _ _ _ _ _ _ _ _ _ _ _ _ _ _ H5b h5 h6 ha (fun p hp => by
        obtain ⟨j, hj, rfl⟩ := upk_mem hp
        exact HPo.out j hj) (by omega)).mono ?_
      rintro e w6 ⟨he, hb6⟩
      rw [upk_map, ← HN6.out] at he
      subst he
      have H5c := Lib.hid (H5b.below hb6)
      have H6c := H6b.out.below hb6
      have H7c := Lib.hid (H7b.out.below hb6)
      have H8c := Lib.hid (H8b.out.below hb6)
      have Hbw6 := Lib.hid (Hbw5.out.trans (hb6.mono Hbw5.out.size))
      clear hb6 H5b H6b H7b H8b Hbw5 h5 h6
      go_wp2_with fail
      refine (lawchg_any _ _ _ _ _ H6c (sgn_upk _ (fun j => sat_unit z q (F j)) 3) (by omega)).mono ?_
      rintro e w7 ⟨he, hb7⟩
      rw [← HN6.out] at he
      subst he
      have H5d := H5c.out.below hb7
      have H7d := Lib.hid (H7c.out.below hb7)
      have H8d := Lib.hid (H8c.out.below hb7)
      have Hbw7 := Lib.hid (Hbw6.out.trans (hb7.mono Hbw6.out.size))
      clear hb7 H5c H6c H7c H8c Hbw6
      have hmem : ∀ p ∈ upk F 3, SmP p ∧ p.length ≤ 1000000000 := fun p hp => by
        obtain ⟨j, hj, rfl⟩ := upk_mem hp
        exact ⟨HSm.out j hj, by have := (HPo.out j hj).len; omega⟩
      have Hmem := Lib.hid hmem
      clear hmem
      go_wp2_with fail
      refine (varend_any false _ _ _ _ _ H5d Hmem.out (by omega)).mono ?_
      rintro e w8 ⟨he, hb8⟩
      rw [upk_map, ← HN7.out] at he
      subst he
      have H5e := Lib.hid (H5d.below hb8)
      have H7e := H7d.out.below hb8
      have H8e := Lib.hid (H8d.out.below hb8)
      have Hbw8 := Lib.hid (Hbw7.out.trans (hb8.mono Hbw7.out.size))
      clear hb8 H5d H7d H8d Hbw7
      go_wp2_with fail
      refine (lawchg_any _ _ _ _ _ H7e (sgn_upk _ (fun j => sge_unit false (F j)) 3) (by omega)).mono ?_
      rintro e w9 ⟨he, hb9⟩
      rw [← HN7.out] at he
      subst he
      have H5f := H5e.out.below hb9
      have H8f := Lib.hid (H8e.out.below hb9)
      have Hbw9 := Lib.hid (Hbw8.out.trans (hb9.mono Hbw8.out.size))
      clear hb9 H5e H7e H8e Hbw8
      go_wp2_with fail
      refine (varend_any true _ _ _ _ _ H5f Hmem.out (by omega)).mono ?_
      rintro e w10 ⟨he, hb10⟩
      rw [upk_map, ← HN8.out] at he
      subst he
      have H8g := H8f.out.below hb10
      have Hbw10 := Lib.hid (Hbw9.out.trans (hb10.mono Hbw9.out.size))
      clear hb10 H5f H8f Hbw9
      go_wp2_with fail
      refine (lawchg_any _ _ _ _ _ H8g (sgn_upk _ (fun j => sge_unit true (F j)) 3) (by omega)).mono ?_
      rintro e w11 ⟨he, hb11⟩
      rw [← HN8.out] at he
      subst he
      have Hbw11 := Lib.hid (Hbw10.out.trans (hb11.mono Hbw10.out.size))
      clear hb11 H8g Hbw10
      go_wp2
      go_ret
      exact ⟨rfl, HbW.out.trans (Hbw11.out.mono HbW.out.size)⟩
end Go.Proofs.Ytdihefmjfnlpcaa
