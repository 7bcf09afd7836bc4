/- The walks of refine.half, exact, copyOf, isExact. -/
import Derived.Test.YtkefcldcfeolbaaGreatHfp
namespace Go.Proofs.YtkefcldcfeolbaaGreat
open Go Go.RowKit
def aq9 (r:Fq×Fq) (e:Ending) (w:World):Prop :=
 ∃ n A l c B m d n' A' l' c' B' m' d',e=.returned (.agg #[.bool n,.slice A l c,.slice B m d,.bool n',.slice A' l' c',.slice B' m' d'])/\aaA w n A l c r.1.z/\aaT w B m d r.1.q/\aaA w n' A' l' c' r.2.z/\aaT w B' m' d' r.2.q
def pu6 (w:World) (g:Nat) (v0 v1 v2 v3 v4 v5:Value):World:=(((((w.setCell ⟨g,0,none⟩ v0).setCell ⟨g,1,none⟩ v1).setCell ⟨g,2,none⟩ v2).setCell ⟨g,3,none⟩ v3).setCell ⟨g,4,none⟩ v4).setCell ⟨g,5,none⟩ v5
theorem ahU (w:World) (g:Nat) (v0 v1 v2 v3 v4 v5:Value):FrS g g w (pu6 w g v0 v1 v2 v3 v4 v5):=acP (acP (acP (acP (acP (acP (FrS.refl g g w) 0 v0) 1 v1) 2 v2) 3 v3) 4 v4) 5 v5
abbrev agV:Obj:=.cells #[.bool false,.slice none 0 0,.slice none 0 0,.bool false,.slice none 0 0,.slice none 0 0] 40
abbrev rz6:Array Value:=#[.bool false,.slice none 0 0,.slice none 0 0,.bool false,.slice none 0 0,.slice none 0 0]
theorem atW {w:World} {g t:Nat} (h:Blk w g t rz6):NdB w g:=afu h fun j v hv=>by
 match j,hv with
 | 0,hv=>simp at hv;subst hv;exact aax _
 | 1,hv=>simp at hv;subst hv;exact aah _ _ _
 | 2,hv=>simp at hv;subst hv;exact aah _ _ _
 | 3,hv=>simp at hv;subst hv;exact aax _
 | 4,hv=>simp at hv;subst hv;exact aah _ _ _
 | 5,hv=>simp at hv;subst hv;exact aah _ _ _
 | j+6,hv=>simp at hv
section
variable {I:aas} {w w9:World} {g t:Nat} {a b:Fq} {r:Fq×Fq} {n:Bool} {A:Option Addr} {l c:Nat} {B:Option Addr} {m d:Nat} {n':Bool} {A':Option Addr} {l' c':Nat} {B':Option Addr} {m' d':Nat}
theorem aea (hw:Below w.heap.size w w9) (hk:Blk w9 g t rz6) (hg:w.heap.size<=g) (hz:aaA w9 n A l c r.1.z) (hq:aaT w9 B m d r.1.q) (hz':aaA w9 n' A' l' c' r.2.z) (hq':aaT w9 B' m' d' r.2.q) :
  aq9 r (.returned (.agg #[.bool n,.slice A l c,.slice B m d,.bool n',.slice A' l' c',.slice B' m' d'])) (pu6 w9 g (.bool n) (.slice A l c) (.slice B m d) (.bool n') (.slice A' l' c') (.slice B' m' d'))/\Below w.heap.size w (pu6 w9 g (.bool n) (.slice A l c) (.slice B m d) (.bool n') (.slice A' l' c') (.slice B' m' d')):=by
 have hf:=ahU w9 g (.bool n) (.slice A l c) (.slice B m d) (.bool n') (.slice A' l' c') (.slice B' m' d')
 have nd:=atW hk
 exact ⟨⟨n,A,l,c,B,m,d,n',A',l',c',B',m',d',rfl,hz.frs hf nd nd,hq.frs hf nd nd,hz'.frs hf nd nd,hq'.frs hf nd nd⟩,hf.mono hw hg hg hw.size⟩
theorem afv (hz:aaA w n A l c r.1.z) (hq:aaT w B m d r.1.q) (hz':aaA w n' A' l' c' r.2.z) (hq':aaT w B' m' d' r.2.q) (ha:FqB r.1) (hb:FqB r.2) :
  Calls Tryz.prog 53 #[.agg #[.bool n,.slice A l c,.slice B m d,.bool n',.slice A' l' c',.slice B' m' d']] w fun e w'=>e=.returned (.bool (agO r.1 r.2 == 0))/\Below w.heap.size w w':=by
 have o1:=aak w (ahX n A l c B m d n' A' l' c' B' m' d')
 have T:=Lh (apL.make hz hq hz' hq')
 have Hb:=Lh o1
 have p1:=ha.p
 have p2:=hb.p
 clear hz hq hz' hq' o1
 go_enter Tryz.func53,Tryz.ntmps53
 have x0:=T.out.r.c0;have x1:=T.out.r.c1;have x2:=T.out.r.c2;have x3:=T.out.c3;have x4:=T.out.c4;have x5:=T.out.c5
 go_wp2_with fail
 refine (ag6 _ _ _ _ _ _ _ _ _ _ _ _ _ _ _ _ _ _ _ T.out.r.hz.at_ T.out.r.hq.at_ T.out.hz.at_ T.out.hq.at_ (by omega) (by omega) ha.fz ha.fq hb.fz hb.fq).mono ?_
 rintro e w3 ⟨rfl,hb3⟩
 replace Hb:=Lh (Hb.out.trans (hb3.mono Hb.out.size))
 obtain ⟨C,hC⟩:∃ C,C=agO r.1 r.2:=⟨_,rfl⟩
 rw[show afd (r.1.z*(r.2.q:Int)) (r.2.z*(r.1.q:Int))=C from hC.symm]
 have HC:=Lh hC
 clear hb3 hC T
 clear x0 x1 x2 x3 x4 x5
 go_wp2
 go_ret
 exact ⟨by first | (rw[HC.out];done) | (rw[HC.out];rfl),Hb.out⟩
set_option maxRecDepth 100000 in
set_option maxHeartbeats 4000000 in
theorem ara (hz:aaA w n A l c a.z) (hq:aaT w B m d a.q) (ha:FqB a) :
  Calls Tryz.prog 82 #[.agg #[.bool n,.slice A l c,.slice B m d]] w fun e w'=>aq9 (a.nf,a.nf) e w'/\Below w.heap.size w w':=by
 have o1:=aak w (aa0 n A l c B m d)
 have o2:=aak (w.alloc (aa0 n A l c B m d)) agV
 have b2:Below w.heap.size w ((w.alloc (aa0 n A l c B m d)).alloc agV):=o1.alloc (by simp) _
 have R1:=(aci.make hz hq).move o2
 have K3:Blk ((w.alloc (aa0 n A l c B m d)).alloc agV) (w.alloc (aa0 n A l c B m d)).heap.size 40 rz6:=Blk.new _ _ _
 simp only[World.size_alloc] at K3
 have a0:=R1.c0
 have a1:=R1.c1
 have a2:=R1.c2
 replace R1:=Lh R1
 have K4:=Lh K3
 have Hb:=Lh b2
 have hl3:=K3.lt
 obtain ⟨wb,hwb⟩:∃ wb,wb=(w.alloc (aa0 n A l c B m d)).alloc agV:=⟨_,rfl⟩
 clear o1 o2 b2 hz hq K3
 go_enter Tryz.func82,Tryz.ntmps82
 go_wp2_with fail
 rw[<- hwb] at R1 K4 Hb a0 a1 a2 hl3 ⊢
 clear hwb
 obtain ⟨g1,hg1⟩:∃ g,g=w.heap.size:=⟨_,rfl⟩
 obtain ⟨g3,hg3⟩:∃ g,g=w.heap.size+1:=⟨_,rfl⟩
 rw[<- hg1] at R1 a0 a1 a2
 rw[<- hg3] at K4 hl3
 rw[<- hg3,<- hg1]
 have l1:g1<wb.heap.size:=by omega
 have Hg:=Lh (show w.heap.size<=g3 by omega)
 clear hg1 hg3
 refine abM (S:=fun w'=>w'.cell? ⟨g1,0,none⟩=some (.bool n)/\w'.cell? ⟨g1,1,none⟩=some (.slice A l c)/\w'.cell? ⟨g1,2,none⟩=some (.slice B m d)) (by kernel_rfl) (by kernel_rfl) (by (try dsimp only);go_keep) (fun hHeld=>?_)
 simp only[List.pop_toArray,List.dropLast]
 (refine tq 0 ?_;simp only[aac,List.set])
 (refine tq 2 ?_;simp only[aac,List.set])
 refine rdy 1 (fun K hK=>?_);go_simp
 refine (abS _ _ _ _ _ _ _ _ _ _ (R1.out.hz.below Bel.go) (R1.out.hq.below Bel.go) ha.fz ha.fq ha.p).mono ?_
 rintro e w7 ⟨⟨n7,A7,l7,c7,B7,m7,d7,rfl,h7,k7⟩,hb7⟩
 obtain ⟨hcx,hfx⟩:=aao hb7
 have hbz:Below wb.heap.size wb w7:=(Below.trans Bel.go (hb7.mono (by simp<;>omega)))
 replace R1:=Lh (R1.out.move hbz)
 replace K4:=Lh (K4.out.below hbz K4.out.lt)
 replace Hb:=Lh (Hb.out.trans (hbz.mono Hb.out.size))
 refine hK.out _ _ ?_ (fun _=>?_)
 ·((try dsimp only);repeat' apply And.intro)<;>(rw[hcx _ (by go_simp)];go_simp)
 clear hHeld hK K hcx hfx;rename_i hHeld
 have hs7:=hbz.size
 have H7:=Lh (And.intro h7 k7)
 clear h7 k7 hb7 hbz
 refine rdy 3 (fun K hK=>?_);go_simp
 refine (abS _ _ _ _ _ _ _ _ _ _ (R1.out.hz.below Bel.go) (R1.out.hq.below Bel.go) ha.fz ha.fq ha.p).mono ?_
 rintro e w9 ⟨⟨n9,A9,l9,c9,B9,m9,d9,rfl,h9,k9⟩,hb9⟩
 obtain ⟨hcx,hfx⟩:=aao hb9
 have hbz:Below w7.heap.size w7 w9:=(Below.trans Bel.go (hb9.mono (by simp<;>omega)))
 replace K4:=Lh (K4.out.below hbz K4.out.lt)
 replace Hb:=Lh (Hb.out.trans (hbz.mono Hb.out.size))
 replace H7:=Lh (And.intro (H7.out.1.below hbz) (H7.out.2.below hbz))
 refine hK.out _ _ ?_ (fun _=>?_)
 ·((try dsimp only);repeat' apply And.intro)<;>(rw[hcx _ (by go_simp)];go_simp)
 clear hHeld hK K hcx hfx;rename_i hHeld
 have H9:=Lh (And.intro h9 k9)
 clear h9 k9 hb9 hbz R1
 (refine tq 4 ?_;simp only[aac,List.set])
 refine wpAnyH_done (by kernel_rfl) (aaV rfl ?_) _
 clear hHeld a0 a1 a2
 have FX:=Lh (aea (r:=(a.nf,a.nf)) Hb.out K4.out Hg.out H7.out.1 H7.out.2 H9.out.1 H9.out.2);have r0:=(K4.out.cell 0).trans rfl;have r1:=(K4.out.cell 1).trans rfl;have r2:=(K4.out.cell 2).trans rfl;have r3:=(K4.out.cell 3).trans rfl;have r4:=(K4.out.cell 4).trans rfl;have r5:=(K4.out.cell 5).trans rfl;have s0:=K4.out.frozen 0;have s1:=K4.out.frozen 1;have s2:=K4.out.frozen 2;have s3:=K4.out.frozen 3;have s4:=K4.out.frozen 4;have s5:=K4.out.frozen 5;clear K4 Hb;go_wp2;(try clear T);refine bodyPost_ret (v:=.agg #[.bool n7,.slice A7 l7 c7,.slice B7 m7 d7,.bool n9,.slice A9 l9 c9,.slice B9 m9 d9]) (by simp[results,Tryz.results82,go_sem,r0,r1,r2,r3,r4,r5]) rfl FX.out
end
end Go.Proofs.YtkefcldcfeolbaaGreat
