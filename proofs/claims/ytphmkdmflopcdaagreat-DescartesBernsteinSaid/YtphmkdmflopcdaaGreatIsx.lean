/- The walk of isolate's split: the bisection with what it finds. -/
import Derived.Test.YtphmkdmflopcdaaGreatSrc
import Derived.Test.YtphmkdmflopcdaaGreatIsp
import Derived.Test.YtphmkdmflopcdaaGreatStg
namespace Go.Proofs.YtphmkdmflopcdaaGreat
open Go Go.RowKit
def RtV (w:World) (r:Fq×Fq) (vs:List Value):Prop :=
 ∃ n A l c B m d n' A' l' c' B' m' d',vs=[.bool n,.slice A l c,.slice B m d,.bool n',.slice A' l' c',.slice B' m' d']/\IntN w n A l c r.1.z/\NatN w B m d r.1.q/\IntN w n' A' l' c' r.2.z/\NatN w B' m' d' r.2.q
theorem RtV.below {w w':World} {r:Fq×Fq} {vs:List Value} (h:RtV w r vs) (hb:Below w.heap.size w w'):RtV w' r vs:=by
 obtain ⟨n,A,l,c,B,m,d,n',A',l',c',B',m',d',e,h1,h2,h3,h4⟩:=h
 exact ⟨n,A,l,c,B,m,d,n',A',l',c',B',m',d',e,h1.below hb,h2.below hb,h3.below hb,h4.below hb⟩
theorem RtV.frs {g g':Nat} {W W':World} {r:Fq×Fq} {vs:List Value} (h:RtV W r vs) (hf:FrS g g' W W') (k1:NdB W g) (k2:NdB W g'):RtV W' r vs:=by
 obtain ⟨n,A,l,c,B,m,d,n',A',l',c',B',m',d',e,h1,h2,h3,h4⟩:=h
 exact ⟨n,A,l,c,B,m,d,n',A',l',c',B',m',d',e,h1.frs hf k1 k2,h2.frs hf k1 k2,h3.frs hf k1 k2,h4.frs hf k1 k2⟩
theorem RtV.len {w:World} {r:Fq×Fq} {vs:List Value} (h:RtV w r vs):vs.length=6:=by
 obtain ⟨n,A,l,c,B,m,d,n',A',l',c',B',m',d',e,h1,h2,h3,h4⟩:=h
 rw[e];rfl
theorem RtV.mk {w:World} {n:Bool} {A:Option Addr} {l c:Nat} {B:Option Addr} {m d:Nat} {n':Bool} {A':Option Addr} {l' c':Nat} {B':Option Addr} {m' d':Nat} {r:Fq×Fq} (h1:IntN w n A l c r.1.z) (h2:NatN w B m d r.1.q) (h3:IntN w n' A' l' c' r.2.z) (h4:NatN w B' m' d' r.2.q) :
  RtV w r [.bool n,.slice A l c,.slice B m d,.bool n',.slice A' l' c',.slice B' m' d']:=⟨n,A,l,c,B,m,d,n',A',l',c',B',m',d',rfl,h1,h2,h3,h4⟩
def Vals (w:World) (g o:Nat) (rs:List (Fq×Fq)):Prop:=∀ (i:Nat) (r:Fq×Fq),rs[i]?=some r->∃ vs,RtV w r vs/\∀ (j:Nat) (v:Value),vs[j]?=some v->w.cell? ⟨g,o+i*6+j,none⟩=some v
theorem Vals.below {w w':World} {g o:Nat} {rs:List (Fq×Fq)} (h:Vals w g o rs) (hg:g<w.heap.size) (hb:Below w.heap.size w w'):Vals w' g o rs:=fun i r hr=>by
 obtain ⟨vs,h1,h2⟩:=h i r hr
 exact ⟨vs,h1.below hb,fun j v hv=>(hb.cell (p:=⟨g,o+i*6+j,none⟩) hg).trans (h2 j v hv)⟩
def FndV (B gs:Nat) (w:World) (F:Value) (rs:List (Fq×Fq)):Prop:=(rs=[]/\F=.slice none 0 0)∨∃ g cap,F=.slice (some ⟨g,0,none⟩) rs.length cap/\ORt w g rs.length cap/\g≠gs/\Vals w g 0 rs/\B<=g
theorem FndV.below {B gs:Nat} {w w':World} {F:Value} {rs:List (Fq×Fq)} (h:FndV B gs w F rs) (hb:Below w.heap.size w w'):FndV B gs w' F rs:=by
 rcases h with h | ⟨g,cap,h1,h2,h3,h4,h5⟩
 ·exact .inl h
 ·exact .inr ⟨g,cap,h1,h2.below hb,h3,h4.below h2.lt hb,h5⟩
def GrownV (B gs:Nat) (w:World) (F:Value) (rs:List (Fq×Fq)) (r:Fq×Fq) (F':Value) (w':World):Prop:=∃ g' cap',F'=.slice (some ⟨g',0,none⟩) (rs.length+1) cap'/\ORt w' g' (rs.length+1) cap'/\g'≠gs/\Vals w' g' 0 (rs ++ [r])/\B<=g'/\((∃ g cap,F=.slice (some ⟨g,0,none⟩) rs.length cap/\g'=g/\FrS g g w w')∨(w.heap.size<=g'/\Below w.heap.size w w'))
theorem GrownV.grown {B gs:Nat} {w w':World} {F F':Value} {rs:List (Fq×Fq)} {r:Fq×Fq} (h:GrownV B gs w F rs r F' w'):Grown gs w F rs.length F' w':=by
 obtain ⟨g',cap',h1,h2,h3,_,_,h4⟩:=h
 exact ⟨g',cap',h1,h2,h3,h4⟩
theorem GrownV.fin {B gs t:Nat} {rs:List (Fq×Fq)} {r:Fq×Fq} {w0 w w':World} {F F' P C:Value} (h:GrownV B gs w F rs r F' w') (hb:Blk w gs t #[P,C,F]) (hP:NoDigit P) (hC:NoDigit C) (hF:NoDigit F) (hw:Below w0.heap.size w0 w) :
  Blk (w'.setCell ⟨gs,2,none⟩ F') gs t #[P,C,F']/\FndV B gs (w'.setCell ⟨gs,2,none⟩ F') F' (rs ++ [r])/\FrS gs (fbk gs F) w0 (w'.setCell ⟨gs,2,none⟩ F')/\(fbk gs F'=fbk gs F∨w0.heap.size<=fbk gs F'):=by
 have hk:=h.grown.blk hb
 have hnd:NdB w' gs:=blk_ndb hk fun j v hv=>by
  match j,hv with
  | 0,hv=>simp at hv;subst hv;exact hP
  | 1,hv=>simp at hv;subst hv;exact hC
  | 2,hv=>simp at hv;subst hv;exact hF
  | j+3,hv=>simp at hv
 have hfs:FrS gs gs w' (w'.setCell ⟨gs,2,none⟩ F'):=frs_set (FrS.refl _ _ _) _ _
 obtain ⟨g',cap',e,ho,hg,hv,hB,h⟩:=h
 refine ⟨hk.set_ 2 F',.inr ⟨g',cap',by rw[List.length_append];exact e,by rw[List.length_append];exact ho.far hg _,hg,fun i x hx=>?_,hB⟩,?_,?_⟩
 ·obtain ⟨us,h1,h2⟩:=hv i x hx
  exact ⟨us,h1.frs hfs hnd hnd,fun j v hv=>(hfs.cell ho.lt hg hg _).trans (h2 j v hv)⟩
 ·refine FrS.self (FrS.trans (g2:=fbk gs F) (FrS.of_below hw) ?_ (.inl rfl)) 2 F'
  rcases h with ⟨g,cap,eF,eg,hf⟩ | ⟨_,hbb⟩
  ·rw[eF];exact hf.weaken rfl
  ·exact FrS.of_below hbb
 ·rw[e]
  rcases h with ⟨g,cap,eF,eg,hf⟩ | ⟨hle,_⟩
  ·rw[eF];exact .inl eg
  ·exact .inr (Nat.le_trans hw.size hle)
structure MBox (w:World) (g:Nat) (n:Bool) (A:Option Addr) (l c:Nat) (B:Option Addr) (m d:Nat) (z:Int) (q:Nat) (N:Int) (zr:Bool):Prop where
 r:RBox w g n A l c B m d z q
 c3:w.cell? ⟨g,3,none⟩=some (.int .i64 N)
 c4:w.cell? ⟨g,4,none⟩=some (.bool zr)
section
variable {w w':World} {g:Nat} {n:Bool} {A:Option Addr} {l c:Nat} {B:Option Addr} {m d:Nat} {z:Int} {q:Nat} {N:Int} {zr:Bool}
theorem MBox.move (h:MBox w g n A l c B m d z q N zr) (hb:Below w.heap.size w w'):MBox w' g n A l c B m d z q N zr :=
 ⟨h.r.move hb,(hb.cell (p:=⟨g,3,none⟩) h.r.lt).trans h.c3,(hb.cell (p:=⟨g,4,none⟩) h.r.lt).trans h.c4⟩
theorem MBox.frs {k k':Nat} (h:MBox w g n A l c B m d z q N zr) (hf:FrS k k' w w') (h1:NdB w k) (h2:NdB w k') (k1:g≠k) (k2:g≠k'):MBox w' g n A l c B m d z q N zr :=
 ⟨h.r.frs hf h1 h2 k1 k2,(hf.cell h.r.lt k1 k2 _).trans h.c3,(hf.cell h.r.lt k1 k2 _).trans h.c4⟩
end
end Go.Proofs.YtphmkdmflopcdaaGreat
namespace Go.Proofs.YtphmkdmflopcdaaGreat
open Go Go.RowKit
end Go.Proofs.YtphmkdmflopcdaaGreat
namespace Go.Proofs.YtphmkdmflopcdaaGreat
open Go Go.RowKit
structure FqB (a:Fq):Prop where
 p:0<a.q
 z:a.z.natAbs<=ZB
 q:a.q<=ZB
theorem FqB.fz {a:Fq} (h:FqB a):Fit a.z:=zb_fit h.z
theorem FqB.fq {a:Fq} (h:FqB a):Fit (a.q:Int):=zb_fit (by rw[Int.natAbs_natCast];exact h.q)
theorem FqB.at {a:Fq} (h:FqB a):AtOK a.z a.q :=
 ⟨h.fz,h.fq,h.p,zb_fit (by rw[Int.natAbs_tdiv];exact Nat.le_trans (Nat.div_le_self _ _) h.z),zb_fit (by rw[Int.natAbs_natCast];exact Nat.le_trans (Nat.div_le_self _ _) h.q)⟩
end Go.Proofs.YtphmkdmflopcdaaGreat
