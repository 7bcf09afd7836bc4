/- The state of descartes.Roots' search: an own row of roots that grows by append, the frame of a call. -/
import Derived.Test.YtjmglmgokfcgoaaGreatRatD
import Derived.Test.YtjmglmgokfcgoaaGreatGcdA
import Derived.Test.YtjmglmgokfcgoaaGreatQuo
import Derived.Test.YtjmglmgokfcgoaaGreatLes
import Derived.Test.YtjmglmgokfcgoaaGreatSft
import Derived.Test.YtjmglmgokfcgoaaGreatOwp
import Derived.ArgAppend
namespace Go.Proofs.YtjmglmgokfcgoaaGreat
open Go.RowKit
def One (W:World) (z:Int) (s:Value) (wx:World):Prop:=∃ g n A l c,s=.pointer (some ⟨g,0,none⟩)∧W.heap.size≤g∧IBox wx g n A l c z∧Below W.heap.size W wx
section
variable {W w9:World} {n:Bool} {A:Option Addr} {l c g:Nat} {z:Int}
end
end Go.Proofs.YtjmglmgokfcgoaaGreat
namespace Go.Proofs.YtjmglmgokfcgoaaGreat
open Go
section
variable {P:Program} {ops:Array Oper} {Q:Exit→Act→World→Prop} {md:Region.Mode}
def ClosedL (md:Region.Mode) (ops:Array Oper) (listed:Array Bool):Prop:=∀ (j:Nat) (o:Oper),ops[j]?=some o→listed.getD j false=true→∀ e∈o.after,Region.binds md e=true→listed.getD e.on false=true
theorem ClosedL.step {listed:Array Bool} (h:ClosedL md ops listed) {i:Nat} (hi:i∈Region.ready md ops listed):ClosedL md ops (listed.setIfInBounds i true):=by
 intro j o ho hl e he hb
 have key:listed.getD e.on false=true:=by
  rcases Nat.decEq j i with hne | heq
  ·refine h j o ho ?_ e he hb
   rw [← hl,getD_set_ne false (Ne.symm hne)]
  ·subst heq
   obtain ⟨_,o2,ho2,h2⟩:=mem_ready.1 hi
   rw [ho] at ho2
   injection ho2 with ho2
   subst ho2
   exact h2 e he hb
 exact getD_set_true key
end
end Go.Proofs.YtjmglmgokfcgoaaGreat
namespace Go.Proofs.YtjmglmgokfcgoaaGreat
open Go.RowKit
def Nd (v:Value):Prop:=NoDigit v∧v.oneCell'=true
structure ORt (w:World) (g n cap:Nat):Prop where
 blk:∃ cs,Blk w g 53 cs∧cs.size=cap*6∧∀ j,j<cap*6→∃ v,cs[j]?=some v∧Nd v
 le:n≤cap
structure FrS (g g':Nat) (W W':World):Prop where
 os:W'.os=W.os
 tape:W'.tape=W.tape
 output:W'.output=W.output
 size:W.heap.size≤W'.heap.size
 same:∀ k,k<W.heap.size→k≠g→k≠g'→W'.heap[k]?=W.heap[k]?
theorem FrS.refl (g g':Nat) (W:World):FrS g g' W W:=⟨rfl,rfl,rfl,Nat.le_refl _,fun _ _ _ _=>rfl⟩
theorem FrS.of_below {g g':Nat} {W W':World} (h:Below W.heap.size W W'):FrS g g' W W':=⟨h.os,h.tape,h.output,h.size,fun k hk _ _=>h.block k hk⟩
theorem FrS.trans {g g1 g2:Nat} {A B C:World} (h:FrS g g1 A B) (k:FrS g g2 B C) (hg:g2=g1∨A.heap.size≤g2):FrS g g1 A C :=
 ⟨k.os.trans h.os,k.tape.trans h.tape,k.output.trans h.output,Nat.le_trans h.size k.size,fun i hi h1 h2=>(k.same i (Nat.lt_of_lt_of_le hi h.size) h1 (by rcases hg with e | e<;>omega)).trans (h.same i hi h1 h2)⟩
theorem FrS.mono {g g' B:Nat} {W0 W W':World} (h:FrS g g' W W') (hb:Below B W0 W) (h1:B≤g) (h2:B≤g') (hB:B≤W.heap.size):Below B W0 W' :=
 ⟨h.os.trans hb.os,h.tape.trans hb.tape,h.output.trans hb.output,Nat.le_trans hb.size h.size,fun k hk=>(h.same k (by omega) (by omega) (by omega)).trans (hb.block k hk)⟩
section
variable {g g':Nat} {W W':World}
theorem FrS.cell (h:FrS g g' W W') {k:Nat} (hk:k<W.heap.size) (h1:k≠g) (h2:k≠g') (o:Nat):W'.cell? ⟨k,o,none⟩=W.cell? ⟨k,o,none⟩:=World.cell?_of_block (w:=W) (h.same k hk h1 h2)
theorem FrS.frozen (h:FrS g g' W W') {k:Nat} (hk:k<W.heap.size) (h1:k≠g) (h2:k≠g') (o:Nat):W'.frozen? ⟨k,o,none⟩=W.frozen? ⟨k,o,none⟩:=by
 simp [World.frozen?,h.same k hk h1 h2]
def NdB (W:World) (g:Nat):Prop:=∀ o v,W.cell? ⟨g,o,none⟩=some v→NoDigit v
theorem DigAt.frs {A:Option Addr} {len cap:Nat} {ds:List Nat} (hd:DigAt W A len cap ds) (h:FrS g g' W W') (h1:NdB W g) (h2:NdB W g'):DigAt W' A len cap ds:=by
 refine ⟨hd.length,hd.cap,hd.wd,?_⟩
 rcases hd.cells with e | ⟨b,off,hA,hlt,hc⟩
 ·exact .inl e
 ·rcases Nat.eq_zero_or_pos len with e | e
  ·exact .inl e
  ·have hne:∀ x,NdB W x→b≠x:=fun x hx ex=>by
    subst ex
    exact hx _ _ (hc 0 e) _ rfl
   exact .inr ⟨b,off,hA,Nat.lt_of_lt_of_le hlt h.size,fun j hj=>(h.cell hlt (hne g h1) (hne g' h2) _).trans (hc j hj)⟩
theorem NatN.frs {A:Option Addr} {len cap n:Nat} (hd:NatN W A len cap n) (h:FrS g g' W W') (h1:NdB W g) (h2:NdB W g'):NatN W' A len cap n:=⟨hd.digits.frs h h1 h2⟩
theorem IntN.frs {neg:Bool} {A:Option Addr} {len cap:Nat} {z:Int} (hd:IntN W neg A len cap z) (h:FrS g g' W W') (h1:NdB W g) (h2:NdB W g'):IntN W' neg A len cap z:=⟨hd.nat.frs h h1 h2,hd.sign⟩
theorem RBox.frs {k:Nat} {n:Bool} {A B:Option Addr} {l c m d q:Nat} {z:Int} (hr:RBox W k n A l c B m d z q) (h:FrS g g' W W') (h1:NdB W g) (h2:NdB W g') (k1:k≠g) (k2:k≠g'):RBox W' k n A l c B m d z q :=
 ⟨(h.cell hr.lt k1 k2 _).trans hr.c0,(h.cell hr.lt k1 k2 _).trans hr.c1,(h.cell hr.lt k1 k2 _).trans hr.c2,(h.frozen hr.lt k1 k2 _).trans hr.f0,(h.frozen hr.lt k1 k2 _).trans hr.f1,(h.frozen hr.lt k1 k2 _).trans hr.f2,Nat.lt_of_lt_of_le hr.lt h.size,hr.hz.frs h h1 h2,hr.hq.frs h h1 h2⟩
structure PolyG (g g':Nat) (w:World) (A:Option Addr) (l c:Nat) (p:List Int):Prop where
 n:PolyN w A l c p
 off:l=0∨∃ b o,A=some ⟨b,o,none⟩∧b≠g∧b≠g'
theorem PolyG.below {w w':World} {A:Option Addr} {l c:Nat} {p:List Int} (h:PolyG g g' w A l c p) (hb:Below w.heap.size w w'):PolyG g g' w' A l c p:=⟨h.n.below ikN hb,h.off⟩
theorem PolyG.frs {A:Option Addr} {l c:Nat} {p:List Int} (hp:PolyG g g' W A l c p) (h:FrS g g' W W') (h1:NdB W g) (h2:NdB W g'):PolyN W' A l c p:=by
 refine ⟨hp.n.length,hp.n.cap,?_⟩
 rcases hp.n.elems with h0 | ⟨b,o,hA,hlt,he⟩
 ·exact .inl h0
 ·rcases hp.off with h0 | ⟨b',o',hA',hne,hne'⟩
  ·exact .inl h0
  ·rw [hA] at hA'
   injection hA' with e
   injection e with e1 e2 e3
   subst e1 e2
   refine .inr ⟨b,o,hA,Nat.lt_of_lt_of_le hlt h.size,fun j hj=>?_⟩
   obtain ⟨neg,Aj,lj,cj,f1,f2,f3⟩:=he j hj
   exact ⟨neg,Aj,lj,cj,(h.cell hlt hne hne' _).trans f1,(h.cell hlt hne hne' _).trans f2,f3.frs h h1 h2⟩
end
theorem ORt.lt {w:World} {g n cap:Nat} (h:ORt w g n cap):g<w.heap.size:=by
 obtain ⟨cs,hb,_⟩:=h.blk
 exact hb.lt
theorem ORt.below {w w':World} {g n cap:Nat} (h:ORt w g n cap) (hb:Below w.heap.size w w'):ORt w' g n cap:=by
 have hlt:=h.lt
 obtain ⟨cs,hk,hs⟩:=h.blk
 exact ⟨⟨cs,hk.below hb hlt,hs⟩,h.le⟩
def Grown (gs:Nat) (w:World) (F:Value) (n:Nat) (F':Value) (w':World):Prop:=∃ g' cap',F'=.slice (some ⟨g',0,none⟩) (n+1) cap'∧ORt w' g' (n+1) cap'∧g'≠gs∧((∃ g cap,F=.slice (some ⟨g,0,none⟩) n cap∧g'=g∧FrS g g w w')∨(w.heap.size≤g'∧Below w.heap.size w w'))
def Fnd (gs:Nat) (w:World) (F:Value) (n:Nat):Prop:=(n=0∧F=.slice none 0 0)∨∃ g cap,F=.slice (some ⟨g,0,none⟩) n cap∧ORt w g n cap∧g≠gs
theorem Fnd.below {gs:Nat} {w w':World} {F:Value} {n:Nat} (h:Fnd gs w F n) (hb:Below w.heap.size w w'):Fnd gs w' F n:=by
 rcases h with h | ⟨g,cap,h1,h2,h3⟩
 ·exact .inl h
 ·exact .inr ⟨g,cap,h1,h2.below hb,h3⟩
theorem frs_set {gs g:Nat} {w W:World} (h:FrS gs g w W) (k:Nat) (v:Value):FrS gs g w (W.setCell ⟨g,k,none⟩ v) :=
 ⟨h.os,h.tape,h.output,by simpa [World.setCell] using h.size,fun i hi h1 h2=>(Below.heap_setCell W _ v i h2).trans (h.same i hi h1 h2)⟩
theorem frs_setCells {gs g:Nat} {w:World}:∀ (vs:List Value) (o:Nat) {W:World},FrS gs g w W→FrS gs g w (W.setCells g o vs)
 | [],_,_,h=>h
 | v :: vs,o,_,h=>frs_setCells vs (o+1) (frs_set h o v)
theorem ORt.far {w:World} {g n cap:Nat} (h:ORt w g n cap) {p:Addr} (hp:g≠p.block) (u:Value):ORt (w.setCell p u) g n cap:=by
 obtain ⟨cs,hk,hs,hc⟩:=h.blk
 exact ⟨⟨cs,hk.far hp u,hs,hc⟩,h.le⟩
theorem FrS.weaken {g g' k:Nat} {W W':World} (h:FrS g g W W') (hk:g=g'):FrS k g' W W':=by
 subst hk
 exact ⟨h.os,h.tape,h.output,h.size,fun i hi _ h2=>h.same i hi h2 h2⟩
theorem FrS.self {g g':Nat} {W W':World} (h:FrS g g' W W') (k:Nat) (v:Value):FrS g g' W (W'.setCell ⟨g,k,none⟩ v) :=
 ⟨h.os,h.tape,h.output,by simpa [World.setCell] using h.size,fun i hi h1 h2=>(Below.heap_setCell W' _ v i h1).trans (h.same i hi h1 h2)⟩
def fbk (gs:Nat):Value→Nat
 | .slice (some a) _ _=>a.block
 | _=>gs
theorem Grown.slice {gs n:Nat} {w w':World} {F F':Value} (h:Grown gs w F n F' w'):∃ g cap,F'=.slice (some ⟨g,0,none⟩) (n+1) cap:=by
 obtain ⟨g,cap,e,_⟩:=h
 exact ⟨g,cap,e⟩
theorem Grown.cell {gs n:Nat} {w w':World} {F F':Value} (h:Grown gs w F n F' w') {k:Nat} (hk:k<w.heap.size) (hne:k≠fbk gs F) (o:Nat):w'.cell? ⟨k,o,none⟩=w.cell? ⟨k,o,none⟩:=by
 obtain ⟨g',cap',e,ho,hg,h⟩:=h
 rcases h with ⟨g,cap,eF,eg,hf⟩ | ⟨_,hb⟩
 ·rw [eF] at hne
  exact hf.cell hk hne hne o
 ·exact hb.cell (p:=⟨k,o,none⟩) hk
theorem Grown.blk {gs n t:Nat} {w w':World} {F F':Value} {cs:Array Value} (h:Grown gs w F n F' w') (hb:Blk w gs t cs):Blk w' gs t cs:=by
 obtain ⟨g',cap',e,ho,hg,h⟩:=h
 rcases h with ⟨g,cap,eF,eg,hf⟩ | ⟨_,hbb⟩
 ·exact (hf.same gs hb.lt (by omega) (by omega)).trans hb
 ·exact hb.below hbb hb.lt
theorem Grown.fin {gs n:Nat} {w0 w w':World} {A:Option Addr} {l c:Nat} {F F':Value} (h:Grown gs w F n F' w') (hb:Blk w gs 166 #[.slice A l c,F]) (hw:Below w0.heap.size w0 w) :
  Blk (w'.setCell ⟨gs,1,none⟩ F') gs 166 #[.slice A l c,F']∧Fnd gs (w'.setCell ⟨gs,1,none⟩ F') F' (n+1)∧FrS gs (fbk gs F) w0 (w'.setCell ⟨gs,1,none⟩ F')∧(fbk gs F'=fbk gs F∨w0.heap.size≤fbk gs F'):=by
 have hk:=h.blk hb
 obtain ⟨g',cap',e,ho,hg,h⟩:=h
 refine ⟨hk.set_ 1 F',.inr ⟨g',cap',e,ho.far hg _,hg⟩,?_,?_⟩
 ·refine FrS.self (FrS.trans (g2:=fbk gs F) (FrS.of_below hw) ?_ (.inl rfl)) 1 F'
  rcases h with ⟨g,cap,eF,eg,hf⟩ | ⟨_,hbb⟩
  ·rw [eF];exact hf.weaken rfl
  ·exact FrS.of_below hbb
 ·rw [e]
  rcases h with ⟨g,cap,eF,eg,hf⟩ | ⟨hle,_⟩
  ·rw [eF];exact .inl eg
  ·exact .inr (Nat.le_trans hw.size hle)
theorem PolyG.next {g g' g2:Nat} {W W':World} {A:Option Addr} {l c:Nat} {p:List Int} (hp:PolyG g g' W A l c p) (h:FrS g g' W W') (h1:NdB W g) (h2:NdB W g') (hg:g2=g'∨W.heap.size≤g2):PolyG g g2 W' A l c p:=by
 refine ⟨hp.frs h h1 h2,?_⟩
 rcases hp.n.elems with h0 | ⟨b,o,hA,hlt,_⟩
 ·exact .inl h0
 ·rcases hp.off with h0 | ⟨b',o',hA',hne,hne'⟩
  ·exact .inl h0
  ·rw [hA] at hA'
   injection hA' with e
   injection e with e1 e2 e3
   subst e1 e2
   exact .inr ⟨b,o,hA,hne,by rcases hg with e | e<;>omega⟩
end Go.Proofs.YtjmglmgokfcgoaaGreat
