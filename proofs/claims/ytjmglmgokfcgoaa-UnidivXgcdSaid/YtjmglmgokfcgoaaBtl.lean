/- The walks of cylinderref08.Scale, cylinderref09.Lead, Neg. -/
import Derived.Test.YtjmglmgokfcgoaaBth
namespace Go.Proofs.Ytjmglmgokfcgoaa
open Go.RowKit
structure ZP (w:World) (A:Option Addr) (len cap:Nat) (f:List Int):Prop where
 length:f.length=len
 elems:len=0∨∃ b off,A=some ⟨b,off,none⟩∧b<w.heap.size∧∀ j,j<len→∃ s Aj lj cj,w.cell? ⟨b,off+j*2,none⟩=some (.int .i64 s)∧w.cell? ⟨b,off+j*2+1,none⟩=some (.slice Aj lj cj)∧ZAt w s Aj lj cj (f.getD j 0)
 cap:len≤cap
theorem ZP.at_ {w:World} {A:Option Addr} {len cap:Nat} {f:List Int} (h:ZP w A len cap f) (hl:0<len):∃ b off,A=some ⟨b,off,none⟩∧b<w.heap.size∧∀ j,j<len→∃ s Aj lj cj,w.cell? ⟨b,off+j*2,none⟩=some (.int .i64 s)∧w.cell? ⟨b,off+j*2+1,none⟩=some (.slice Aj lj cj)∧ZAt w s Aj lj cj (f.getD j 0):=by
 rcases h.elems with h0 | h1
 ·omega
 ·exact h1
theorem ZP.take {w:World} {A:Option Addr} {len cap:Nat} {f:List Int} (h:ZP w A len cap f) {k:Nat} (hk:k≤len):ZP w A k cap (f.take k):=by
 refine ⟨by rw [List.length_take,h.length];omega,?_,by have:=h.cap;omega⟩
 rcases Nat.eq_zero_or_pos k with h0 | h0
 ·exact .inl h0
 ·obtain ⟨b,off,hA,hlt,hc⟩:=h.at_ (by omega)
  refine .inr ⟨b,off,hA,hlt,fun j hj=>?_⟩
  rw [take_getD' f hj]
  exact hc j (by omega)
end Go.Proofs.Ytjmglmgokfcgoaa
namespace Go.Proofs.Ytjmglmgokfcgoaa
open Go.RowKit
def zps (f g:List Int):List Int:=ptrim (tab (max f.length g.length) (fun j=>f.getD j 0+g.getD j 0))
theorem zps_get (f g:List Int) (k:Nat):(zps f g).getD k 0=f.getD k 0+g.getD k 0:=by
 unfold zps
 rw [ptrim_getD]
 by_cases h:k<max f.length g.length
 ·rw [tab_get _ h]
 ·rw [getD_out _ (by rw [tab_length];omega),getD_out f (by omega),getD_out g (by omega)];rfl
def zsc (f:List Int) (c:Int):List Int:=ptrim (tab f.length (fun j=>f.getD j 0*c))
theorem zsc_get (f:List Int) (c:Int) (k:Nat):(zsc f c).getD k 0=f.getD k 0*c:=by
 unfold zsc
 rw [ptrim_getD]
 by_cases h:k<f.length
 ·rw [tab_get _ h]
 ·rw [getD_out _ (by rw [tab_length];omega),getD_out f (by omega),Int.zero_mul]
theorem zps_trim (f g:List Int):ptrim (zps f g)=zps f g:=by unfold zps;rw [ptrim_ptrim]
def zup (f:List Int) (n:Nat):List Int:=if f=[] then [] else List.replicate n 0 ++ f
theorem zup_get (f:List Int) (n k:Nat):(zup f n).getD k 0=if k<n then 0 else f.getD (k-n) 0:=by
 unfold zup
 by_cases h:f=[]
 ·rw [if_pos h,h];simp
 ·rw [if_neg h,List.getD_eq_getElem?_getD]
  by_cases hk:k<n
  ·rw [if_pos hk,List.getElem?_append_left (by simpa using hk)];simp [hk]
  ·rw [if_neg hk,List.getElem?_append_right (by simp;omega),List.length_replicate,← List.getD_eq_getElem?_getD]
end Go.Proofs.Ytjmglmgokfcgoaa
namespace Go.Proofs.Ytjmglmgokfcgoaa
open Go.RowKit
end Go.Proofs.Ytjmglmgokfcgoaa
namespace Go.Proofs.Ytjmglmgokfcgoaa
open Go.RowKit
end Go.Proofs.Ytjmglmgokfcgoaa
