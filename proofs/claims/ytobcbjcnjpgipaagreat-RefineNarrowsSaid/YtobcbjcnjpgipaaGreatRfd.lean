/- The walks of refine.Cmp, awake of chapter 18 and pick. -/
import Derived.Test.YtobcbjcnjpgipaaGreatRfc
namespace Go.Proofs.YtobcbjcnjpgipaaGreat
open Go Go.RowKit
noncomputable def cmpV (f:List Int) (r:Fq×Fq) (a:Fq):Int:=bif vld 2 f r.1 r.2 then cmpr (qpart f) r a else 0
def errV (V:Bool):Int:=bif V then 0 else 1
set_option maxRecDepth 100000 in
set_option maxHeartbeats 4000000 in
theorem rcmpr_any {I:IntPred} (hI:IK I) {w:World} {Af:Option Addr} {lf cf:Nat} {f:List Int} {r:Fq×Fq} {a:Fq} {n:Bool} {A:Option Addr} {l c:Nat} {B:Option Addr} {m d:Nat} {n':Bool} {A':Option Addr} {l' c':Nat} {B':Option Addr} {m' d':Nat} {na:Bool} {Aa:Option Addr} {la ca:Nat} {Ba:Option Addr} {ma da:Nat}
  (hf:PolyP I w Af lf cf f) (hl:f.length<=10) (h9:P9 f) (hz:IntN w n A l c r.1.z) (hq:NatN w B m d r.1.q) (hz':IntN w n' A' l' c' r.2.z) (hq':NatN w B' m' d' r.2.q) (hza:IntN w na Aa la ca a.z) (hqa:NatN w Ba ma da a.q) (ha:FqB r.1) (hb:FqB r.2) (hc:FqB a) :
  Calls Tryz.prog 25 #[.slice Af lf cf,.agg #[.bool n,.slice A l c,.slice B m d,.bool n',.slice A' l' c',.slice B' m' d'],.agg #[.bool na,.slice Aa la ca,.slice Ba ma da]] w fun e w'=>e=.returned (.tuple #[.int .i64 (cmpV f r a),.int .i64 (errV (vld 2 f r.1 r.2))])/\Below w.heap.size w w':=by
 have hlf:lf<=10:=by have:=hf.length;omega
 have o1:=below_new w (tbox n A l c B m d n' A' l' c' B' m' d')
 have o2:=below_new (w.alloc (tbox n A l c B m d n' A' l' c' B' m' d')) (rbox na Aa la ca Ba ma da)
 have b2:Below w.heap.size w ((w.alloc (tbox n A l c B m d n' A' l' c' B' m' d')).alloc (rbox na Aa la ca Ba ma da)):=o1.alloc (by simp) _
 have T:=Lh ((TBox.make hz hq hz' hq').move o2)
 have r2:=RBox.make (hza.below o1) (hqa.below o1)
 simp only[World.size_alloc] at r2
 have R:=Lh r2
 have HP:=Lh (hf.below hI b2)
 have Hb:=Lh b2
 obtain ⟨V,hV⟩:∃ V,V=vld 2 f r.1 r.2:=⟨_,rfl⟩
 obtain ⟨X,hX⟩:∃ X,X=cmpV f r a:=⟨_,rfl⟩
 rw[<- hV,<- hX]
 unfold cmpV at hX
 rw[<- hV] at hX
 have HX:=Lh hX
 have HV:=Lh hV
 clear hz hq hz' hq' hza hqa o1 o2 b2 r2 hf hV hX
 go_enter Tryz.func25,Tryz.ntmps25
 have x0:=T.out.r.c0;have x1:=T.out.r.c1;have x2:=T.out.r.c2;have x3:=T.out.c3;have x4:=T.out.c4;have x5:=T.out.c5;have y0:=R.out.c0;have y1:=R.out.c1;have y2:=R.out.c2
 go_wp2_with fail
 refine (valid_any hI _ _ _ f r.1 r.2 _ _ _ _ _ _ _ _ _ _ _ _ _ _ _ HP.out (by omega) h9.pq T.out.r.hz T.out.r.hq T.out.hz T.out.hq ha hb).mono ?_
 rintro e w1 ⟨he,hb1⟩
 have he2:e=.returned (.bool V):=by rw[HV.out];exact he
 subst he2
 clear he
 clear x0 x1 x2 x3 x4 x5 y0 y1 y2
 replace HP:=Lh (HP.out.below hI hb1);replace T:=Lh (T.out.move hb1);replace R:=Lh (R.out.move hb1);replace Hb:=Lh (Hb.out.trans ((hb1).mono Hb.out.size))
 clear hb1
 cases V with
 | false =>
   have EX:=Lh (show X=0 by rw[HX.out];rfl)
   go_wp2_with fail
   refine bodyPost_ret (v:=.tuple #[.int .i64 0,.int .i64 1]) (by simp[results,Tryz.results25,go_sem]) rfl ⟨by rw[EX.out];rfl,Hb.out⟩
 | true =>
   obtain ⟨wb,hwb⟩:∃ wb,wb=w1:=⟨_,rfl⟩
   obtain ⟨g1,hg1⟩:∃ g,g=w.heap.size:=⟨_,rfl⟩
   obtain ⟨g2,hg2⟩:∃ g,g=w.heap.size+1:=⟨_,rfl⟩
   rw[<- hwb] at T R HP Hb ⊢
   rw[<- hg1] at T
   rw[<- hg2] at R
   rw[<- hg2,<- hg1]
   have l1:=T.out.r.lt
   have l2:=R.out.lt
   clear hwb hg1 hg2
   have x0:=T.out.r.c0;have x1:=T.out.r.c1;have x2:=T.out.r.c2;have x3:=T.out.c3;have x4:=T.out.c4;have x5:=T.out.c5;have y0:=R.out.c0;have y1:=R.out.c1;have y2:=R.out.c2
   have h0:plen f≠0:=fun h0=>by have:=HV.out;rw[vld_nil h0 2 (by omega)] at this;cases this
   have hQ:∀ x,FqB x->PoOK x.z x.q (qpart f):=fun x hx=>h9.part.at (by rw[<- h9.part_t,ptrim_length];have:=h9.part_l;have:=h9.len;omega) hx.z hx.q
   have hql:(qpart f).length<=10:=by rw[<- h9.part_t,ptrim_length];have:=h9.part_l;have:=h9.len;omega
   obtain ⟨Q,hQe⟩:∃ Q,Q=qpart f:=⟨_,rfl⟩
   rw[<- hQe] at hQ hql
   have HQ:=Lh hQ
   have HQe:=Lh hQe
   have EX:=Lh (show X=cmpr Q r a by rw[HX.out,hQe];rfl)
   clear h0 hQ hQe
   go_wp2_with fail
   refine wp_region_held_drew (S:=fun w'=>w'.cell? ⟨g1,0,none⟩=some (.bool n)/\w'.cell? ⟨g1,1,none⟩=some (.slice A l c)/\w'.cell? ⟨g1,2,none⟩=some (.slice B m d)/\w'.cell? ⟨g1,3,none⟩=some (.bool n')/\w'.cell? ⟨g1,4,none⟩=some (.slice A' l' c')/\w'.cell? ⟨g1,5,none⟩=some (.slice B' m' d')/\w'.cell? ⟨g2,0,none⟩=some (.bool na)/\w'.cell? ⟨g2,1,none⟩=some (.slice Aa la ca)/\w'.cell? ⟨g2,2,none⟩=some (.slice Ba ma da)) (by kernel_rfl) (by (try dsimp only);go_keep) (fun hHeld=>?_)
   (refine tq 0 ?_;simp only[put_lit,List.set])
   (refine tq 2 ?_;simp only[put_lit,List.set])
   (refine tq 3 ?_;simp only[put_lit,List.set])
   (refine rdy 1 (fun K hK=>?_);go_simp)
   refine (part_q hI _ _ _ f _ (HP.out.below hI Bel.go) h9.cp.fit.smp (fun _=>h9.q) (by omega)).mono ?_
   rintro e w4 ⟨A4,l4,c4,rfl,h4,hb4⟩
   rw[<- HQe.out] at h4
   have hl4:l4<=10:=by have:=h4.length;omega
   have G4:=Lh ((Below.trans Bel.go (hb4.mono (by simp<;>omega))):Below wb.heap.size wb w4)
   have H4:=Lh h4
   obtain ⟨hcx,hfx⟩:=bcellS hb4;refine hK.out _ _ ?_ (fun _=>?_);(focus (((try dsimp only);repeat' apply And.intro)<;>(rw[hcx _ (by go_simp)];go_simp)));clear hHeld hK K hcx hfx;rename_i hHeld
   clear h4 hb4
   (refine rdy 4 (fun K hK=>?_);go_simp)
   have T4:=T.out.move G4.out
   have R4:=R.out.move G4.out
   refine (compare_any ikN (r:=r) (a:=a) (H4.out.below ikN Bel.go) (by omega) HQ.out (T4.r.hz.below Bel.go) (T4.r.hq.below Bel.go) (T4.hz.below Bel.go) (T4.hq.below Bel.go) (R4.hz.below Bel.go) (R4.hq.below Bel.go) ha hb hc).mono ?_
   rintro e w5 ⟨he,hb5⟩
   have he2:e=.returned (.int .i64 X):=by rw[EX.out];exact he
   subst he2
   have G5:=Lh (G4.out.trans (((Below.trans Bel.go (hb5.mono (by simp<;>omega))):Below w4.heap.size w4 w5).mono G4.out.size))
   obtain ⟨hcx,hfx⟩:=bcellS hb5;refine hK.out _ _ ?_ (fun _=>?_);(focus (((try dsimp only);repeat' apply And.intro)<;>(rw[hcx _ (by go_simp)];go_simp)));clear hHeld hK K hcx hfx;rename_i hHeld
   clear hb5 he T4 R4
   (refine tq 5 ?_;simp only[put_lit,List.set])
   (refine tq 6 ?_;simp only[put_lit,List.set])
   refine wpAnyH_done (by kernel_rfl) ?_ _
   replace Hb:=Lh (Hb.out.trans (G5.out.mono Hb.out.size))
   clear hHeld T R HP G4 G5 H4
   clear x0 x1 x2 x3 x4 x5 y0 y1 y2
   go_wp2
   refine bodyPost_ret (v:=.tuple #[.int .i64 X,.int .i64 0]) (by simp[results,Tryz.results25,go_sem]) rfl ⟨by rfl,Hb.out⟩
end Go.Proofs.YtobcbjcnjpgipaaGreat
