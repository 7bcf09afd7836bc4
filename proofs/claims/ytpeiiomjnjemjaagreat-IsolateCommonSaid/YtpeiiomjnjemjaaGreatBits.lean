/- The walks of natural.BitLen, integer.BitLen, rootbound.logarithm, rootbound.Log. (Len32 by the shelf: text Shelf, written by the kit's lay-shelf.mjs and lay-plain.mjs.) -/
import Derived.Test.YtpeiiomjnjemjaaGreatShelf
import Derived.Test.YtpeiiomjnjemjaaGreatIntE
import Derived.Test.YtpeiiomjnjemjaaGreatIrow
namespace Go.Proofs.YtpeiiomjnjemjaaGreat
open Go.RowKit
structure BL (n k:Nat):Prop where
 lt:n<2^k
 le:0<n->2^k<=2*n
theorem aux_BL:∀ f x,x<2^f->BL x (Lib.bitLenAux f x):=by
 intro f
 induction f with
 | zero =>
   intro x h
   have:x=0:=by simpa using h
   subst this
   exact ⟨by decide,fun h=>by omega⟩
 | succ f ih =>
   intro x h
   rw[Lib.bitLenAux]
   by_cases h0:x=0
   ·rw[if_pos h0]
    subst h0
    exact ⟨by decide,fun h=>by omega⟩
   ·rw[if_neg h0]
    rw[Nat.pow_succ] at h
    obtain ⟨h1,h2⟩:=ih (x / 2) (by omega)
    refine ⟨by rw[Nat.add_comm,Nat.pow_succ];omega,fun _=>?_⟩
    rw[Nat.add_comm,Nat.pow_succ]
    by_cases h3:0<x / 2
    ·have:=h2 h3
     omega
    ·have h4:x / 2=0:=by omega
     rw[h4]
     have:Lib.bitLenAux f 0=0:=by cases f<;>simp[Lib.bitLenAux]
     rw[this]
     omega
theorem len_BL {x:Nat} (h:x<4294967296):BL x (Lib.bitLen x):=aux_BL 64 x (Nat.lt_trans h (by decide))
theorem BL_le {n k m:Nat} (h:BL n k) (h0:0<n) (hn:n<2^m):k<=m:=by
 rcases Nat.lt_or_ge m k with h1 | h1
 ·have h2:=h.le h0
  have h3:2^(m+1)<=2^k:=Nat.pow_le_pow_right (by omega) h1
  rw[Nat.pow_succ] at h3
  omega
 ·exact h1
theorem digs_top {a:Nat} (h:a≠0):0<(digs a).getD (dlen a-1) 0:=by
 have h1:tlen (digs a)=dlen a:=tlen_digs a
 have h2:dlen a≠0:=fun e=>h (dlen_eq_zero e)
 rcases Nat.eq_zero_or_pos ((digs a).getD (dlen a-1) 0) with h0 | h0
 ·have:=tlen_pred (digs a) (dlen a-1) (by omega) h0
  omega
 ·exact h0
end Go.Proofs.YtpeiiomjnjemjaaGreat
