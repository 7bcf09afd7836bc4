/- Laws for the walk: make and copy on rows of digits. -/
import Derived.Test.YtfpliceenjbclaaProg
import Derived.Test.YtfpliceenjbclaaMem
import Derived.WalkKit
import Derived.WalkSpells
import Derived.WalkLawsBesides
import Derived.Laws.CopyOwn
import Derived.Lib.Hide
namespace Go.Proofs.Ytfpliceenjbclaa
open Go.RowKit

theorem info_u32 : (Try.prog.info? 155).map (fun i => (i.zero, i.size, i.bytes)) = some (some (.int .u32 0), 1, 4) := by kernel_rfl
theorem size_u32 : (Try.prog.info? 155).map (·.size) = some 1 := by kernel_rfl

theorem madeCells_one (v : Value) (n : Nat) : madeCells #[v] n = (List.replicate n v).toArray := by
  apply Array.ext'
  simp [madeCells, List.map_const', Nat.mod_one]

theorem dcells_replicate (n : Nat) : dcells (List.replicate n 0) = (List.replicate n (.int .u32 0)).toArray := by
  simp [dcells]

/-- make(Nat, n): a new row of n zeros -/
theorem wpList_make_dig (w : World) {ops : Array Oper} {rest : List Oper} {o : Oper} {a : Act} {Q : Exit → Act → World → Prop}
    (hg : o.guard = none) (l c : Operand) (hop : o.op = Op.makeSlice 41 l c) (n : Nat) (hl : a.eval l = .int .i64 (n : Int)) (hc : a.eval c = .int .i64 (n : Int)) (hn : n ≤ 17592186044416)
    (hK : ∀ w', DRow w' w.heap.size (List.replicate n 0) → Below w.heap.size w w' → w'.heap.size = w.heap.size + 1 → wpList Try.prog ops Q rest (a.put o.dst (.slice (some ⟨w.heap.size, 0, none⟩) n n)) w') :
    wpList Try.prog ops Q (o :: rest) a w := by
  obtain ⟨i, hi, hz, hs, hb⟩ := info_parts info_u32
  refine wpList_plain hg fun K hK' => ?_
  have hrun := run_make (P := Try.prog) w 41 155 i (.int .u32 0) Try.underlying41 hi hz .i64 .i64 (n : Int) (n : Int) (by omega) (by omega) (by rw [hb]; omega) (by omega)
  unfold Oper.wp
  simp [execOp, hop, hl, hc, hrun, Result.andThen]
  refine hK' _ _ (hK _ ?_ ((Below.refl _ _).alloc (Nat.le_refl _) _) (by simp))
  unfold DRow
  rw [dcells_replicate, ← madeCells_one, hs, Nat.mul_one]
  exact Blk.new w _ _

/-- copy(z[off:..], x): the digits of x that have room go over -/
theorem wpList_copy_dig {w : World} {ops : Array Oper} {rest : List Oper} {o : Oper} {a : Act} {Q : Exit → Act → World → Prop} (hgd : o.guard = none) (d s : Operand)
    (ho : o.op = .call { callee := .builtin .copy, args := #[d, s], argTypes := #[41, 41] })
    (g off : Nat) (zs : List Nat) (dp sp : Option Addr) (dLen dCap sLen sCap : Nat) (ds : List Nat) (hd : a.eval d = .slice dp dLen dCap) (hs : a.eval s = .slice sp sLen sCap)
    (hz : DRow w g zs) (hx : DigAt w sp sLen sCap ds) (hdp : 0 < sLen → dp = some ⟨g, off, none⟩) (hfit : off + sLen ≤ zs.length) (hsd : sLen ≤ dLen)
    (h : ∀ w', DRow w' g (dsplice zs off ds) → Below g w w' → w'.heap.size = w.heap.size → (∀ k, k ≠ g → w'.heap[k]? = w.heap[k]?) → wpList Try.prog ops Q rest (a.put o.dst (goInt sLen)) w') :
    wpList Try.prog ops Q (o :: rest) a w := by
  have hlen := hx.length
  by_cases h0 : sLen = 0
  · subst h0
    have hds : ds = [] := List.eq_nil_of_length_eq_zero hlen
    subst hds
    refine wpList_copy_nothing hgd d s _ _ ho 155 Try.underlying41 size_u32 dp sp dLen dCap 0 sCap hd hs (by simp) ?_
    exact h w (by simpa [dsplice] using hz) (Below.refl _ _) rfl (fun _ _ => rfl)
  · obtain ⟨b, o2, rfl, hb, hc⟩ := hx.at_ (by omega)
    have := hdp (by omega)
    subst this
    refine wpList_copy_own hgd d s _ _ ho 155 Try.underlying41 size_u32 g off dLen dCap ⟨b, o2, none⟩ sLen sCap hd hs (dcells zs) 155 hz (ds.map fun d : Nat => Value.int .u32 (d : Int)) (by rw [List.length_map, hlen]; exact (Nat.min_eq_left hsd).symm) ?_ (by simp [dcells, hlen]; omega) (by intro v hv; obtain ⟨_, _, rfl⟩ := List.mem_map.1 hv; rfl) ?_
    · intro j v hv
      have hj : j < sLen := by have := (List.getElem?_eq_some_iff.1 hv).1; simpa [hlen] using this
      rw [Addr.add_lit, hc j hj]
      rw [← hv]
      simp [List.getD_eq_getElem?_getD, hlen, hj]
    · have e1 : (ds.map fun d : Nat => Value.int .u32 (d : Int)).length = sLen := by simp [hlen]
      rw [e1]
      refine h _ ?_ ((below_setRow (Below.refl _ _) (Nat.le_refl _) _)) (by simp [World.setRow]) (fun k hk => setRow_other w g k _ hk)
      have := setRow_heap w g _ ((dcells zs).toList.take off ++ ((ds.map fun d : Nat => Value.int .u32 (d : Int)) ++ (dcells zs).toList.drop (off + sLen))).toArray 155 _ hz
      unfold DRow Blk
      rw [this]
      simp [dcells, dsplice, hlen]

end Go.Proofs.Ytfpliceenjbclaa
