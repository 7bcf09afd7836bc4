/- The walks of package natural, first part: trim, Normal, IsZero, Of, Cmp. -/
import Derived.Test.YtfpliceenjbclaaProg
import Derived.Test.YtfpliceenjbclaaMem
import Derived.WalkKit
import Derived.WalkSpells
import Derived.WalkLawsBesides
import Derived.BigQuiet
import Derived.Deep.QuietTactic
import Derived.Test.YtfpliceenjbclaaLaws
import Derived.Deep.DeepMust
import Derived.Deep.DeepFit
namespace Go.Proofs.Ytfpliceenjbclaa
open Go.RowKit

set_option maxHeartbeats 400000 in
theorem trim_dig (A : Option Addr) (len cap n : Nat) (ds : List Nat) (w : World) (hd : DigAt w A len cap ds) (hv : val ds = n) (hm : len ≤ 8796093022208) :
    Calls Try.prog 136 #[.slice A len cap] w fun e w' => ∃ len', e = .returned (.slice A len' cap) ∧ NatN w A len' cap n ∧ w = w' := by
  have hfin : NatN w A (tlen ds) cap n := by
    refine ⟨?_⟩
    rw [← hv, digs_val hd.wd]
    exact hd.take (by have := tlen_le ds; have := hd.length; omega)
  have htl : tlen ds ≤ len := by have := tlen_le ds; have := hd.length; omega
  have hcap := hd.cap
  have Hv := Lib.hid hv
  clear hv
  go_enter Try.func136, Try.ntmps136
  go_wp2
  go_loop [3] (fun n => ∃ k : Nat, k ≤ len ∧ tlen ds ≤ k ∧ n = .int .i64 k) (fun n => (intOf n).toNat)
  case atStart => exact ⟨len, by omega, by omega, rfl⟩
  case round =>
    obtain ⟨k, hk, ht, rfl⟩ := hrel
    cases k with
    | zero =>
      have h0 : tlen ds = 0 := by omega
      rw [h0] at hfin
      clear h0 ht htl
      go_wp2
      go_ret
      exact ⟨0, rfl, hfin, rfl⟩
    | succ k =>
      obtain ⟨b, off, rfl, hb, hc⟩ := hd.at_ (by omega)
      have hcell := hc k (by omega)
      have hpr := Lib.hid (tlen_pred ds k ht)
      have heq := Lib.hid (tlen_eq ds k ht)
      clear hc hd
      go_wp2
      · have h0 : (((ds[k]?.getD 0 : Nat) : Int) == 0) = true := by assumption
        go_round
        case rel =>
          refine ⟨k, by omega, hpr.out ?_, by go_num⟩
          rw [List.getD_eq_getElem?_getD]
          have := beq_iff_eq.1 h0
          omega
        case measure => simp [intOf]
      · have h0 : (((ds[k]?.getD 0 : Nat) : Int) == 0) = false := by assumption
        have h1 : tlen ds = k + 1 := by
          refine heq.out ?_
          rw [List.getD_eq_getElem?_getD]
          have := beq_eq_false_iff_ne.1 h0
          omega
        go_ret
        rw [h1] at hfin
        exact ⟨k + 1, rfl, hfin, rfl⟩

theorem trim_any (A : Option Addr) (len cap n : Nat) (w : World) (h : NatAt w A len cap n) (hs : Sm n) :
    Calls Try.prog 136 #[.slice A len cap] w fun e w' => ∃ len', e = .returned (.slice A len' cap) ∧ NatN w A len' cap n ∧ w = w' := by
  obtain ⟨hsh, ds, hd, hv⟩ := h
  exact trim_dig A len cap n ds w hd hv (by unfold Sm at hs; omega)

set_option maxHeartbeats 400000 in
theorem isZero_dig (A : Option Addr) (len cap n : Nat) (ds : List Nat) (w : World) (h : DigAt w A len cap ds) (hv : val ds = n) (hm : len ≤ 2199023255552) :
    Calls Try.prog 124 #[.slice A len cap] w fun e w' => e = .returned (.bool (decide (n = 0))) ∧ w = w' := by
  go_enter Try.func124, Try.ntmps124
  go_wp2_with fail
  refine (trim_dig _ _ _ _ _ _ h hv (by omega)).mono ?_
  clear hv
  rintro e w1 ⟨l1, rfl, h1, rfl⟩
  go_wp2
  go_ret
  refine ⟨?_, rfl⟩
  have hl := h1.len
  congr 2
  rcases Nat.eq_zero_or_pos n with h0 | h0
  · subst h0; rw [dlen_zero] at hl; subst hl; simp
  · have : dlen n ≠ 0 := fun h' => by have := dlen_eq_zero h'; omega
    have h2 : ¬ n = 0 := by omega
    simp [h2]; omega

theorem isZero_any (A : Option Addr) (len cap n : Nat) (w : World) (h : NatAt w A len cap n) (hs : Sm n) :
    Calls Try.prog 124 #[.slice A len cap] w fun e w' => e = .returned (.bool (decide (n = 0))) ∧ w = w' := by
  obtain ⟨hsh, ds, hd, hv⟩ := h
  exact isZero_dig A len cap n ds w hd hv (by unfold Sm at hs; omega)

set_option maxHeartbeats 400000 in
theorem normal_dig (A : Option Addr) (len cap n : Nat) (ds : List Nat) (w : World) (h : DigAt w A len cap ds) (hv : val ds = n) (hmm : len ≤ 2199023255552) :
    Calls Try.prog 137 #[.slice A len cap] w fun e w' => ∃ A' len' cap', e = .returned (.slice A' len' cap') ∧ NatN w' A' len' cap' n ∧ Below w.heap.size w w' := by
  go_enter Try.func137, Try.ntmps137
  go_wp2_with fail
  refine (trim_dig _ _ _ _ _ _ h hv (by omega)).mono ?_
  rintro e w1 ⟨l1, rfl, h1, rfl⟩
  have hl := Lib.hid h1.len
  have hm : l1 ≤ 2199023255552 := by have h1 := hl.out; have h2 := dlen_val_le h.wd; have h3 := h.length; rw [hv] at h2; omega
  clear h hv
  go_wp2_with (at_make; refine wpList_make_dig _ rfl (.tmp 7) (.tmp 7) rfl l1 rfl rfl (by omega) ?_)
  intro w1 hz hb hsz
  have hx := h1.digits.below hb
  have Hsz := Lib.hid hsz
  clear hsz h1
  go_wp2_with ((with_reducible show wpList _ _ _ (⟨some 11, _, _, _, _, _⟩ :: _) _ _); refine wpList_copy_dig rfl (.tmp 9) (.tmp 10) rfl w.heap.size 0 (List.replicate l1 0) _ _ _ _ _ _ _ rfl rfl hz hx (fun _ => rfl) (by simp) (Nat.le_refl _) ?_)
  intro w2 hz2 hb2 hs2 _
  have Hs2 := Lib.hid hs2
  clear hs2 hz
  go_wp2
  go_ret
  refine ⟨_, _, _, rfl, ⟨?_⟩, hb.trans (hb2.mono (Nat.le_refl _))⟩
  have hd := hx.length
  rw [dsplice_whole _ _ hd] at hz2
  have := hz2.dig (digs_wd n) (cap := l1) (by omega)
  rw [hd] at this
  exact this

theorem normal_any (A : Option Addr) (len cap n : Nat) (w : World) (h : NatAt w A len cap n) (hs : Sm n) :
    Calls Try.prog 137 #[.slice A len cap] w fun e w' => ∃ A' len' cap', e = .returned (.slice A' len' cap') ∧ NatN w' A' len' cap' n ∧ Below w.heap.size w w' := by
  obtain ⟨hsh, ds, hd, hv⟩ := h
  exact normal_dig A len cap n ds w hd hv (by unfold Sm at hs; omega)

/-- a number that fits 64 bits -/
def U64 (n : Nat) : Prop := n < BB * BB

set_option maxHeartbeats 400000 in
theorem of_any (n : Nat) (w : World) (h : U64 n) :
    Calls Try.prog 83 #[.int .u64 (n : Int)] w fun e w' => ∃ A' len' cap', e = .returned (.slice A' len' cap') ∧ NatN w' A' len' cap' n ∧ Below w.heap.size w w' := by
  go_enter Try.func83, Try.ntmps83
  go_wp2_with fail
  have hv := digs_two h
  have hrow : DRow (w.alloc (Obj.cells #[Value.int IntKind.u32 ((n : Int) % 4294967296), Value.int IntKind.u32 ((n : Int) / 4294967296 % 4294967296)] 155)) w.heap.size [n % BB, n / BB % BB] := by
    have := Blk.new w 155 #[Value.int IntKind.u32 ((n : Int) % 4294967296), Value.int IntKind.u32 ((n : Int) / 4294967296 % 4294967296)]
    simpa [DRow, dcells, BB_eq] using this
  have hd : Wd [n % BB, n / BB % BB] := Wd.cons (Nat.mod_lt _ BB_pos) (Wd.cons (Nat.mod_lt _ BB_pos) Wd.nil)
  have hsm : Sm n := by
    have := dlen_val_le hd
    rw [hv] at this
    simp at this
    unfold Sm; omega
  have hat : NatAt (w.alloc (Obj.cells #[Value.int IntKind.u32 ((n : Int) % 4294967296), Value.int IntKind.u32 ((n : Int) / 4294967296 % 4294967296)] 155)) (some ⟨w.heap.size, 0, none⟩) 2 2 n :=
    ⟨by omega, _, hrow.dig hd (by simp), hv⟩
  clear hv hrow hd h
  refine (normal_any _ _ _ _ _ hat hsm).mono ?_
  rintro e w1 ⟨A1, l1, c1, rfl, h1, hb⟩
  clear hat hsm
  go_wp2
  go_ret
  exact ⟨_, _, _, rfl, h1, ((Below.refl _ _).alloc (Nat.le_refl _) _).trans (hb.mono (by simp))⟩

set_option maxHeartbeats 400000 in
theorem cmp_dig (A B : Option Addr) (la ca lb cb a b : Nat) (da db : List Nat) (w : World) (ha : DigAt w A la ca da) (hb : DigAt w B lb cb db) (hva : val da = a) (hvb : val db = b) (hsa : la ≤ 2199023255552) (hsb : lb ≤ 2199023255552) :
    Calls Try.prog 81 #[.slice A la ca, .slice B lb cb] w fun e w' => e = .returned (.int .i64 (cmpn a b)) ∧ ∃ n, w' = w.drewN n := by
  go_enter Try.func81, Try.ntmps81
  go_wp2_with fail
  refine (trim_dig _ _ _ _ _ _ ha hva (by omega)).mono ?_
  rintro e w1 ⟨la', rfl, ha', rfl⟩
  go_wp2_with fail
  refine (trim_dig _ _ _ _ _ _ hb hvb (by omega)).mono ?_
  rintro e w1 ⟨lb', rfl, hb', rfl⟩
  have hla := Lib.hid ha'.len
  have hlb := Lib.hid hb'.len
  have hm : la' ≤ 2199023255552 := by have h1 := hla.out; have h2 := dlen_val_le ha.wd; have h3 := ha.length; rw [hva] at h2; omega
  clear ha hb hva hvb hsa hsb
  rcases Nat.lt_trichotomy la' lb' with hlt | heq | hgt
  · go_wp2
    go_ret
    refine ⟨?_, 0, rfl⟩
    rw [cmpn_lt (lt_of_dlen (by have := hla.out; have := hlb.out; omega))]; rfl
  · subst heq
    have hda := ha'.digits
    have hdb := hb'.digits
    have hab : Hid ((digs a).length = la' ∧ (digs b).length = la') := ⟨hda.length, hdb.length⟩
    go_wp2
    go_loopw [4, 5] (fun _ i wr => ∃ k : Nat, k ≤ la' ∧ i = .int .i64 ((k : Int) - 1) ∧ Hid ((digs a).drop k = (digs b).drop k) ∧ ∃ n, wr = w.drewN n) (fun _ i _ => (intOf i + 1).toNat)
    case atStart => exact ⟨la', Nat.le_refl _, rfl, by rw [List.drop_eq_nil_of_le (by rw [hab.out.1]; omega), List.drop_eq_nil_of_le (by rw [hab.out.2]; omega)]; rfl, 0, rfl⟩
    case round =>
      obtain ⟨k, hk, rfl, hdr, n, rfl⟩ := hrel
      cases k with
      | zero =>
        go_wp2
        go_ret
        refine ⟨?_, n, rfl⟩
        have e : a = b := by
          have := hdr.out
          simp only [List.drop_zero] at this
          rw [← val_digs a, this, val_digs]
        rw [cmpn_eq e]; rfl
      | succ k =>
        obtain ⟨b1, o1, rfl, hb1, hc1⟩ := hda.at_ (by omega)
        obtain ⟨b2, o2, rfl, hb2, hc2⟩ := hdb.at_ (by omega)
        have hcell1 := hc1 k (by omega)
        have hcell2 := hc2 k (by omega)
        have hkl : (k : Int) < (la' : Int) := by omega
        clear hc1 hc2 hda hdb ha' hb'
        rw [show ((k + 1 : Nat) : Int) - 1 = (k : Int) from by omega]
        go_wp2
        go_quiet (fail)
        go_wp2
        · have hlt : (digs a)[k]?.getD 0 < (digs b)[k]?.getD 0 := by assumption
          go_ret
          refine ⟨?_, by (try simp only [World.drewN_drewN]); exact ⟨_, rfl⟩⟩
          have := val_lt_of_digit (digs_wd a) (hab.out.1.trans hab.out.2.symm) (k := k) (by rw [hab.out.1]; omega) hdr.out (by simpa [List.getD_eq_getElem?_getD] using hlt)
          rw [val_digs, val_digs] at this
          rw [cmpn_lt this]; rfl
        · go_quiet (fail)
          go_wp2
          · have hlt : (digs b)[k]?.getD 0 < (digs a)[k]?.getD 0 := by assumption
            go_ret
            refine ⟨?_, by (try simp only [World.drewN_drewN]); exact ⟨_, rfl⟩⟩
            have := val_lt_of_digit (digs_wd b) (hab.out.2.trans hab.out.1.symm) (k := k) (by rw [hab.out.2]; omega) hdr.out.symm (by simpa [List.getD_eq_getElem?_getD] using hlt)
            rw [val_digs, val_digs] at this
            rw [cmpn_gt this]; rfl
          · have h1 : ¬ (digs a)[k]?.getD 0 < (digs b)[k]?.getD 0 := by assumption
            have h2 : ¬ (digs b)[k]?.getD 0 < (digs a)[k]?.getD 0 := by assumption
            go_roundw
            case rel =>
              refine ⟨k, by omega, rfl, ?_, by (try simp only [World.drewN_drewN]); exact ⟨_, rfl⟩⟩
              have h3 : (digs a).getD k 0 = (digs b).getD k 0 := by simp only [List.getD_eq_getElem?_getD]; omega
              show (digs a).drop k = (digs b).drop k
              rw [drop_getD_cons _ (by rw [hab.out.1]; omega), drop_getD_cons (digs b) (by rw [hab.out.2]; omega), hdr.out, h3]
            case measure => simp [intOf]
  · go_wp2
    go_ret
    refine ⟨?_, 0, rfl⟩
    rw [cmpn_gt (lt_of_dlen (by have := hla.out; have := hlb.out; omega))]; rfl

theorem cmp_any (A B : Option Addr) (la ca lb cb a b : Nat) (w : World) (ha : NatAt w A la ca a) (hb : NatAt w B lb cb b) (hsa : Sm a) (hsb : Sm b) :
    Calls Try.prog 81 #[.slice A la ca, .slice B lb cb] w fun e w' => e = .returned (.int .i64 (cmpn a b)) ∧ ∃ n, w' = w.drewN n := by
  obtain ⟨hsh, ds, hd, hv⟩ := ha
  obtain ⟨hsh2, ds2, hd2, hv2⟩ := hb
  exact cmp_dig A B la ca lb cb a b ds ds2 w hd hd2 hv hv2 (by unfold Sm at hsa; omega) (by unfold Sm at hsb; omega)

end Go.Proofs.Ytfpliceenjbclaa
