/- The walk of cylinderref15.Less. -/
import Derived.Test.YtipocabbjinbhaaGreatLin
import Derived.Test.YtipocabbjinbhaaGreatStg
namespace Go.Proofs.YtipocabbjinbhaaGreat
open Go.RowKit
end Go.Proofs.YtipocabbjinbhaaGreat
namespace Go.Proofs.YtipocabbjinbhaaGreat
open Go.RowKit
def Two (W:World) (z z':Int) (s s':Value) (wx:World):Prop:=∃ g n A l c g' n' A' l' c',s=.pointer (some ⟨g,0,none⟩)∧s'=.pointer (some ⟨g',0,none⟩)∧g≠g'∧W.heap.size≤g∧W.heap.size≤g'∧IBox wx g n A l c z∧IBox wx g' n' A' l' c' z'∧Below W.heap.size W wx
structure Nbx (W:World) (g:Nat):Prop where
 c0:W.cell? ⟨g,0,none⟩=some (.bool false)
 c1:W.cell? ⟨g,1,none⟩=some (.slice none 0 0)
 f0:W.frozen? ⟨g,0,none⟩=false
 f1:W.frozen? ⟨g,1,none⟩=false
 lt:g<W.heap.size
theorem Nbx.box {W:World} {g:Nat} (h:Nbx W g):IBox W g false none 0 0 0:=⟨h.c0,h.c1,h.f0,h.f1,h.lt,⟨NatN.zero _ _ _,by simp⟩⟩
section
variable {W w9:World} {n n':Bool} {A A':Option Addr} {l c l' c' g g':Nat} {z z':Int}
theorem below_new (w:World) (o:Obj):Below w.heap.size w (w.alloc o):=(Below.refl _ _).alloc (Nat.le_refl _) _
end
end Go.Proofs.YtipocabbjinbhaaGreat
namespace Go.Proofs.YtipocabbjinbhaaGreat
open Go.RowKit
set_option maxRecDepth 100000 in
set_option maxHeartbeats 1000000 in
theorem less15_any (p d p' d':Int) (w:World) (hp:I8 p) (hd:I8 d) (hp':I8 p') (hd':I8 d') :
  Calls Tryz.prog 24 #[.agg #[.int .i8 p,.int .i8 d],.agg #[.int .i8 p',.int .i8 d']] w fun e w'=>e=.returned (.bool (decide (frn p d*frd d'<frn p' d'*frd d)))∧Below w.heap.size w w':=by
 have o1:=below_new w (.cells #[.int .i8 p,.int .i8 d] 44)
 have o2:=below_new (w.alloc (.cells #[.int .i8 p,.int .i8 d] 44)) (.cells #[.int .i8 p',.int .i8 d'] 44)
 have Hb:=Lib.hid (o1.trans (o2.mono o1.size))
 obtain ⟨a1,a2,a3⟩:=fr_bd hp hd
 obtain ⟨b1,b2,b3⟩:=fr_bd hp' hd'
 obtain ⟨x,hx⟩:∃ x,x=frn p d:=⟨_,rfl⟩
 obtain ⟨y,hy⟩:∃ y,y=frd d:=⟨_,rfl⟩
 obtain ⟨x',hx'⟩:∃ x,x=frn p' d':=⟨_,rfl⟩
 obtain ⟨y',hy'⟩:∃ y,y=frd d':=⟨_,rfl⟩
 rw [← hx,← hy,← hx',← hy']
 rw [← hx] at a1
 rw [← hy] at a2 a3
 rw [← hx'] at b1
 rw [← hy'] at b2 b3
 have m1:(x*y').natAbs≤128*128:=by rw [Int.natAbs_mul];exact Nat.mul_le_mul a1 (by omega)
 have m2:(x'*y).natAbs≤128*128:=by rw [Int.natAbs_mul];exact Nat.mul_le_mul b1 (by omega)
 have w1:IntKind.i64.wrap (x*y')=x*y':=IntWalk.i64_in _ (by omega)
 have w2:IntKind.i64.wrap (x'*y)=x'*y:=IntWalk.i64_in _ (by omega)
 have X:=Lib.hid hx
 have Y:=Lib.hid hy
 have X':=Lib.hid hx'
 have Y':=Lib.hid hy'
 clear hx hy hx' hy' o1 o2 a1 a2 a3 b1 b2 b3 m1 m2
 go_enter Tryz.func24,Tryz.ntmps24
 go_wp2_with fail
 refine (frac_any _ _ _ hp hd).mono ?_
 rintro e wa ⟨rfl,hba⟩
 rw [← X.out,← Y.out]
 obtain ⟨hcx,_⟩:=bcellS hba
 have k0:wa.cell? ⟨w.heap.size+1,0,none⟩=some (.int .i8 p'):=(hcx _ (by go_simp)).trans (by go_simp)
 have k1:wa.cell? ⟨w.heap.size+1,1,none⟩=some (.int .i8 d'):=(hcx _ (by go_simp)).trans (by go_simp)
 replace Hb:=Lib.hid (Hb.out.trans (hba.mono Hb.out.size))
 clear hcx hba
 go_wp2_with fail
 refine (frac_any _ _ _ hp' hd').mono ?_
 rintro e wb ⟨rfl,hbb⟩
 rw [← X'.out,← Y'.out]
 replace Hb:=Lib.hid (Hb.out.trans (hbb.mono Hb.out.size))
 clear hbb k0 k1
 go_wp2
 go_ret
 exact ⟨rfl,Hb.out⟩
end Go.Proofs.YtipocabbjinbhaaGreat
