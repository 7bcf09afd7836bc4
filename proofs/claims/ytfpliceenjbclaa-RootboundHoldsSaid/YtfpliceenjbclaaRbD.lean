/- The walks of the law's helpers: Poly. -/
import Derived.Test.YtfpliceenjbclaaRbC
namespace Go.Proofs.Ytfpliceenjbclaa
open Go.RowKit

theorem info_i64 : (Try.prog.info? 2).map (fun i => (i.zero, i.size, i.bytes)) = some (some (.int .i64 0), 1, 8) := by kernel_rfl

/-- an own slice of int64s (or ints) that holds the first k of p -/
def OwnI (e : TypeId) (w : World) (base : Nat) (v : Value) (k : Nat) (p : List Int) : Prop := w.ownsRow base e 1 v k ((p.map (Value.int .i64)).take k)

theorem OwnI.step {e : TypeId} {wr w1 w : World} {base k : Nat} {u v' : Value} {p : List Int} {o : Obj} (hk : k < p.length) (hbase : base ≤ wr.heap.size) (h : OwnI e wr base u k p) (hn : Below base w wr)
    (h' : w1.ownsRow base e 1 v' (k + 1) ((p.map (Value.int .i64)).take k ++ [.int .i64 (p[k]?.getD 0)])) (hg : (wr.alloc o).grownBy w1 u.ownBlock) : OwnI e w1 base v' (k + 1) p ∧ Below base w w1 := by
  refine ⟨?_, (hn.alloc hbase o).grown hg (by simp; omega) (fun j hj => (World.ownsRow.lt h j hj).1)⟩
  unfold OwnI
  have e1 : (p.map (Value.int .i64)).take (k + 1) = (p.map (Value.int .i64)).take k ++ [.int .i64 (p[k]?.getD 0)] := by
    rw [List.take_add_one]
    simp [List.getElem?_map, List.getElem?_eq_getElem hk]
  rw [e1]; exact h'

theorem OwnI.at_ {e : TypeId} {w : World} {base : Nat} {v : Value} {p : List Int} (h : OwnI e w base v p.length p) : ∃ A cap, v = .slice A p.length cap ∧ I64At w A p.length cap p := by
  obtain ⟨hl, h0 | ⟨g, cap, cur, rfl, hg, hh, hc, hm, hs, ht⟩⟩ := h
  · obtain ⟨rfl, hz⟩ := h0
    refine ⟨none, 0, by rw [hz], rfl, by omega, .inl hz⟩
  · refine ⟨_, cap, rfl, rfl, hc, .inr ⟨g, 0, rfl, Blk.lt (t := e) (cs := cur) hh, fun j hj => ?_⟩⟩
    rw [Blk.cell (t := e) (cs := cur) hh, Nat.zero_add]
    have e2 := congrArg (fun l => l[j]?) ht
    simp only [Nat.mul_one] at e2
    rw [List.getElem?_take_of_lt (by omega), List.getElem?_take_of_lt (by omega)] at e2
    rw [← Array.getElem?_toList, e2]
    simp [List.getElem?_eq_getElem hj, List.getD_eq_getElem?_getD]

set_option maxHeartbeats 1000000 in
theorem poly_any (A : Option Addr) (len cap : Nat) (p : List Int) (w : World) (h : I64At w A len cap p) (hp : ∀ c ∈ p, I64 c) (hm : len ≤ 1099511627776) :
    Calls Try.prog 21 #[.slice A len cap] w fun e w' => ∃ A' len' cap', e = .returned (.slice A' len' cap') ∧ PolyN w' A' len' cap' (ptrim p) ∧ Below w.heap.size w w' := by
  obtain ⟨i0, hi, hz0, hz1, hz2⟩ := info_parts info_i64
  have hlen := Lib.hid h.length
  go_enter Try.func21, Try.ntmps21
  go_wp2
  go_loopw [3, 4] (fun v i wr => ∃ k : Nat, k ≤ len ∧ i = .int .i64 (k : Int) ∧ OwnI 2 wr w.heap.size v k p ∧ Below w.heap.size w wr) (fun _ i _ => len - (intOf i).toNat)
  case atStart => exact ⟨0, Nat.zero_le _, rfl, World.ownsRow_nil _ _ _ _, Below.refl _ _⟩
  case round =>
    obtain ⟨k, hk, rfl, hown, hbw⟩ := hrel
    have Hown := Lib.hid hown
    have Hbw := Lib.hid hbw
    clear hown
    by_cases hlt : k < len
    · obtain ⟨b, off, rfl, hb, hc⟩ := h.at_ (by omega)
      have hcell := (hbw.cell (p := ⟨b, off + k, none⟩) hb).trans (hc k hlt)
      clear hc h hbw
      go_wp2_with (at_builtin; refine wpList_append_own _ rfl _ _ 114 rfl w.heap.size 2 i0 (.int .i64 0) 1 8 Try.underlying114 hi hz0 hz1 hz2 rfl (by decide) _ _ _ rfl (World.ownsRow.alloc Hown.out _) ⟨wr.heap.size, 0, none⟩ 1 1 [.int .i64 (p.getD k 0)] rfl rfl ?c1 ?c2 ?c3 ?c4 ?c5 ?_)
      case c1 =>
        intro j u hj
        match j, hj with
        | 0, hj => simp at hj; subst hj; simp [Addr.add]
      case c2 => intro u hu; simp at hu; subst hu; rfl
      case c3 => unfold maxLen; omega
      case c4 => omega
      case c5 => have := Hbw.out.size; simp; omega
      · intro v' w1 hown' hgrow _
        have R := Lib.hid (OwnI.step (by rw [hlen.out]; exact hlt) Hbw.out.size Hown.out Hbw.out hown' hgrow)
        clear hown' hgrow hcell
        go_wp2
        go_roundw
        case rel => exact ⟨k + 1, by omega, by go_num, R.out.1, R.out.2⟩
        case measure => simp [intOf]; omega
    · have hk2 : len = k := by omega
      subst hk2
      have ho := Hown.out
      rw [← hlen.out] at ho
      obtain ⟨A', cap', rfl, hat⟩ := ho.at_
      rw [hlen.out] at hat
      have hl2 := hlen.out
      clear ho h hbw hi hz0 hz1 hz2
      rw [hl2] at *
      go_wp2_with fail
      refine (pof_any _ _ _ _ _ hat hp hm).mono ?_
      rintro e w2 ⟨A2, l2, c2, rfl, h2, hb2⟩
      have H2 := Lib.hid h2
      have Hb2 := Lib.hid (Hbw.out.trans (hb2.mono Hbw.out.size))
      clear h2 hb2 hat
      go_wp2
      go_ret
      exact ⟨_, _, _, rfl, H2.out, Hb2.out⟩
end Go.Proofs.Ytfpliceenjbclaa
