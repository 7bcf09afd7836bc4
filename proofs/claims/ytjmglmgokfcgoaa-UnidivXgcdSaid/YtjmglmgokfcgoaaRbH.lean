/- The law RootboundVariations: the walk. -/
import Derived.Test.YtjmglmgokfcgoaaPolB
import Derived.Test.YtjmglmgokfcgoaaDivC
import Derived.IntWalk
namespace Go.Proofs.Ytjmglmgokfcgoaa
open Go.RowKit
def Tiny (m:Nat) (p:List Int):Prop:=∀ k,(p.getD k 0).natAbs≤m
end Go.Proofs.Ytjmglmgokfcgoaa
namespace Go.Proofs.Ytjmglmgokfcgoaa
open Go.RowKit
def hst (p:List Int):Nat→Nat
 | 0=>0
 | k+1=>if hst p k<(p.getD k 0).natAbs then (p.getD k 0).natAbs else hst p k
section
variable {w W W':World} {n1:Bool} {A1:Option Addr} {l1 c1:Nat} {q:Int}
end
end Go.Proofs.Ytjmglmgokfcgoaa
namespace Go.Proofs.Ytjmglmgokfcgoaa
open Go.RowKit
end Go.Proofs.Ytjmglmgokfcgoaa
namespace Go.Proofs.Ytjmglmgokfcgoaa
open Go.RowKit
end Go.Proofs.Ytjmglmgokfcgoaa
namespace Go.Proofs.Ytjmglmgokfcgoaa
open Go.RowKit
def OwnI (e:TypeId) (w:World) (base:Nat) (v:Value) (k:Nat) (p:List Int):Prop:=w.ownsRow base e 1 v k ((p.map (Value.int .i64)).take k)
theorem OwnI.at_ {e:TypeId} {w:World} {base:Nat} {v:Value} {p:List Int} (h:OwnI e w base v p.length p):∃ A cap,v=.slice A p.length cap∧I64At w A p.length cap p:=by
 obtain ⟨hl,h0 | ⟨g,cap,cur,rfl,hg,hh,hc,hm,hs,ht⟩⟩:=h
 ·obtain ⟨rfl,hz⟩:=h0
  refine ⟨none,0,by rw [hz],rfl,by omega,.inl hz⟩
 ·refine ⟨_,cap,rfl,rfl,hc,.inr ⟨g,0,rfl,Blk.lt (t:=e) (cs:=cur) hh,fun j hj=>?_⟩⟩
  rw [Blk.cell (t:=e) (cs:=cur) hh,Nat.zero_add]
  have e2:=congrArg (fun l=>l[j]?) ht
  simp only [Nat.mul_one] at e2
  rw [List.getElem?_take_of_lt (by omega),List.getElem?_take_of_lt (by omega)] at e2
  rw [← Array.getElem?_toList,e2]
  simp [List.getElem?_eq_getElem hj,List.getD_eq_getElem?_getD]
end Go.Proofs.Ytjmglmgokfcgoaa
namespace Go.Proofs.Ytjmglmgokfcgoaa
open Go.RowKit
structure IBox (W:World) (g:Nat) (n:Bool) (A:Option Addr) (l c:Nat) (z:Int):Prop where
 c0:W.cell? ⟨g,0,none⟩=some (.bool n)
 c1:W.cell? ⟨g,1,none⟩=some (.slice A l c)
 f0:W.frozen? ⟨g,0,none⟩=false
 f1:W.frozen? ⟨g,1,none⟩=false
 lt:g<W.heap.size
 hz:IntN W n A l c z
abbrev put2 (W:World) (g:Nat) (n:Bool) (A:Option Addr) (l c:Nat):World:=(W.setCell ⟨g,0,none⟩ (.bool n)).setCell ⟨g,1,none⟩ (.slice A l c)
section
variable {W W':World} {g g':Nat} {n n':Bool} {A A':Option Addr} {l c l' c':Nat} {z z':Int}
theorem IBox.move (h:IBox W g n A l c z) (hb:Below W.heap.size W W'):IBox W' g n A l c z:=by
 obtain ⟨hc,hf⟩:=bcell hb
 exact ⟨(hc _ _ h.lt).trans h.c0,(hc _ _ h.lt).trans h.c1,(hf _ _ h.lt).trans h.f0,(hf _ _ h.lt).trans h.f1,Nat.lt_of_lt_of_le h.lt hb.size,h.hz.below hb⟩
theorem IBox.nil (W:World):IBox (W.alloc (ibox false none 0 0)) W.heap.size false none 0 0 0 :=
 ⟨by go_simp,by go_simp,by go_simp,by go_simp,by simp,⟨NatN.zero _ _ _,by simp⟩⟩
theorem IBox.make (h:IntN W n A l c z):IBox (W.alloc (ibox n A l c)) W.heap.size n A l c z :=
 ⟨by go_simp,by go_simp,by go_simp,by go_simp,by simp,h.below ((Below.refl _ _).alloc (Nat.le_refl _) _)⟩
theorem IBox.put (h:IBox W g n A l c z) (hz:IntN W n' A' l' c' z'):IBox (put2 W g n' A' l' c') g n' A' l' c' z':=by
 have k0:=h.c0
 have k1:=h.c1
 have f0:=h.f0
 have f1:=h.f1
 exact ⟨by go_simp,by go_simp,by go_simp,by go_simp,by simpa [World.setCell] using h.lt,hz.ret _ _ k0 k1⟩
theorem IBox.far (h:IBox W g n A l c z) (h':IBox W g' n' A' l' c' z') (hg:g≠g') (u v:Value):IBox ((W.setCell ⟨g',0,none⟩ u).setCell ⟨g',1,none⟩ v) g n A l c z:=by
 have k0:=h.c0
 have k1:=h.c1
 have f0:=h.f0
 have f1:=h.f1
 have j0:=h'.c0
 have j1:=h'.c1
 exact ⟨by go_simp,by go_simp,by go_simp,by go_simp,by simpa [World.setCell] using h.lt,h.hz.ret _ _ j0 j1⟩
end
theorem plen_lead (ds:List Int):∀ k,plen ds=k+1→ds.getD k 0≠0:=by
 induction ds with
 | nil=>intro k h;simp [plen] at h
 | cons d ds ih =>
   intro k h
   by_cases h1:plen ds=0
   ·by_cases h2:d=0
    ·rw [plen_cons_zero h1 h2] at h;omega
    ·rw [plen_cons_one h1 h2] at h
     have:k=0:=by omega
     subst this
     simpa using h2
   ·rw [plen_cons_succ h1] at h
    obtain ⟨j,rfl⟩:∃ j,k=j+1:=⟨k-1,by omega⟩
    rw [List.getD_cons_succ]
    exact ih j (by omega)
theorem plead_ne {p:List Int} (h:plen p≠0):plead p≠0:=plen_lead p _ (by omega)
theorem bcellS {W w1:World} (hb:Below W.heap.size W w1):(∀ a:Addr,(W.cell? a).isSome=true→w1.cell? a=W.cell? a)∧(∀ a:Addr,(W.cell? a).isSome=true→w1.frozen? a=W.frozen? a):=by
 refine ⟨fun a h=>?_,fun a h=>?_⟩<;>obtain ⟨u,hu⟩:=Option.isSome_iff_exists.1 h
 ·exact hb.cell (World.block_lt_of_cell? W a hu)
 ·exact hb.frozen (World.block_lt_of_cell? W a hu)
end Go.Proofs.Ytjmglmgokfcgoaa
namespace Go.Proofs.Ytjmglmgokfcgoaa
open Go.RowKit
end Go.Proofs.Ytjmglmgokfcgoaa
namespace Go.Proofs.Ytjmglmgokfcgoaa
open Go.RowKit
structure I16At (w:World) (A:Option Addr) (len cap:Nat) (p:List Int):Prop where
 length:p.length=len
 range:∀ c∈p,-32768≤c∧c≤32767
 cells:len=0∨∃ b off,A=some ⟨b,off,none⟩∧b<w.heap.size∧∀ j,j<len→w.cell? ⟨b,off+j,none⟩=some (.int .i16 (p.getD j 0))
theorem I16At.at_ {w:World} {A:Option Addr} {len cap:Nat} {p:List Int} (h:I16At w A len cap p) (hl:0<len) :
  ∃ b off,A=some ⟨b,off,none⟩∧b<w.heap.size∧∀ j,j<len→w.cell? ⟨b,off+j,none⟩=some (.int .i16 (p.getD j 0)):=by
 rcases h.cells with h0 | h1
 ·omega
 ·exact h1
end Go.Proofs.Ytjmglmgokfcgoaa
namespace Go.Proofs.Ytjmglmgokfcgoaa
open Go.RowKit
theorem getD_ge_plen (p:List Int):∀ k,plen p≤k→p.getD k 0=0:=by
 induction p with
 | nil=>intro k _;simp
 | cons d ds ih =>
   intro k h
   by_cases h1:plen ds=0
   ·by_cases h2:d=0
    ·cases k with
     | zero=>simpa using h2
     | succ k=>rw [List.getD_cons_succ];exact ih k (by omega)
    ·rw [plen_cons_one h1 h2] at h
     obtain ⟨j,rfl⟩:∃ j,k=j+1:=⟨k-1,by omega⟩
     rw [List.getD_cons_succ];exact ih j (by omega)
   ·rw [plen_cons_succ h1] at h
    obtain ⟨j,rfl⟩:∃ j,k=j+1:=⟨k-1,by omega⟩
    rw [List.getD_cons_succ];exact ih j (by omega)
theorem take_getD (p:List Int) {n k:Nat} (h:k<n):(p.take n).getD k 0=p.getD k 0:=by simp [List.getD_eq_getElem?_getD,h]
theorem Tiny.i64 {m:Nat} {p:List Int} (h:Tiny m p) (hm:m≤9223372036854775807):∀ c∈p,I64 c:=by
 intro c hc
 obtain ⟨k,hk⟩:=List.getElem?_of_mem hc
 have:=h k
 rw [List.getD_eq_getElem?_getD,hk] at this
 unfold I64
 simp at this
 omega
end Go.Proofs.Ytjmglmgokfcgoaa
