/- The walks of descartes' search.zero and search.split. -/
import Derived.Test.YtphmkdmflopcdaaGreatSrc
import Derived.Test.YtphmkdmflopcdaaGreatMob
import Derived.Test.YtphmkdmflopcdaaGreatSte
namespace Go.Proofs.YtphmkdmflopcdaaGreat
open Go.RowKit
structure AtFit (f:List Int) (z:Int) (q:Nat):Prop where
 u:U64 z.natAbs
 v:q<BB
 p:0<q
 ok:ScOK f (z.tdiv (Nat.gcd z.natAbs q)) ((q / Nat.gcd z.natAbs q:Nat):Int)
 fz:Fit (z.tdiv (Nat.gcd z.natAbs q))
 fq:Fit ((q / Nat.gcd z.natAbs q:Nat):Int)
def sgat (f:List Int) (z:Int) (q:Nat):Int:=sg (sval f (z.tdiv (Nat.gcd z.natAbs q)) ((q / Nat.gcd z.natAbs q:Nat):Int))
set_option maxRecDepth 100000 in
set_option maxHeartbeats 4000000 in
theorem dzeroat_any (gs:Nat) (Ap:Option Addr) (lp cp:Nat) (F:Value) (f:List Int) (n:Bool) (A:Option Addr) (l c:Nat) (B:Option Addr) (m d q:Nat) (z:Int) (w:World)
  (hs:Blk w gs 78 #[.slice Ap lp cp,F]) (hp:PolyN w Ap lp cp f) (ff:FitP f) (hl:lp<=900000) (hz:IntN w n A l c z) (hq:NatN w B m d q) (ha:AtFit f z q) :
  Calls Tryz.prog 45 #[.pointer (some ⟨gs,0,none⟩),.agg #[.bool n,.slice A l c,.slice B m d]] w fun e w'=>e=.returned (.bool (decide (sgat f z q=0)))/\Below w.heap.size w w':=by
 have o1:=below_new w (rbox n A l c B m d)
 have r1:=RBox.make hz hq
 have h1:=hs.below o1 hs.lt
 have hp1:=hp.below ikN o1
 have hlt:=hs.lt
 have x0:=(h1.cell 0).trans rfl
 have R1:=Lh r1
 have HP:=Lh hp1
 have Hb:=Lh o1
 have HA:=Lh ha
 have e1:=r1.c0
 have e2:=r1.c1
 have e3:=r1.c2
 obtain ⟨X,hX⟩:∃ X,X=sgat f z q:=⟨_,rfl⟩
 rw[<- hX]
 have HX:=Lh hX
 clear o1 r1 hs hp hz hq h1 hp1 ha hX
 go_enter Tryz.func45,Tryz.ntmps45
 go_wp2_with fail
 go_region_held3 (fun w'=>w'.cell? ⟨gs,0,none⟩=some (.slice Ap lp cp)/\w'.cell? ⟨w.heap.size,0,none⟩=some (.bool n)/\w'.cell? ⟨w.heap.size,1,none⟩=some (.slice A l c)/\w'.cell? ⟨w.heap.size,2,none⟩=some (.slice B m d)) (go_keep) (first
  | (go_at_call 78;go_must (refine (signat_any ikN _ _ _ _ _ _ _ _ _ _ _ _ _ _ ?_ ff (by omega) ?_ ?_ (u64_fit HA.out.u) (nat_fit HA.out.v) HA.out.p HA.out.ok HA.out.fz HA.out.fq).mono ?_;(exact HP.out.below ikN Bel.go);(exact R1.out.hz.below Bel.go);(exact R1.out.hq.below Bel.go);rintro e w8 ⟨rfl,hb8⟩;rw[show sg (sval f (z.tdiv (Nat.gcd z.natAbs q)) ((q / Nat.gcd z.natAbs q:Nat):Int))=X from HX.out.symm];have Hb8:=Lh (Hb.out.trans ((Below.trans Bel.go (hb8.mono (by simp<;>omega))).mono Hb.out.size));obtain ⟨hcx,hfx⟩:=bcellS hb8;have v0:w8.cell? ⟨gs,0,none⟩=some (.slice Ap lp cp):=(hcx _ (by go_simp)).trans (by go_simp);have v1:w8.cell? ⟨w.heap.size,0,none⟩=some (.bool n):=(hcx _ (by go_simp)).trans (by go_simp);have v2:w8.cell? ⟨w.heap.size,1,none⟩=some (.slice A l c):=(hcx _ (by go_simp)).trans (by go_simp);have v3:w8.cell? ⟨w.heap.size,2,none⟩=some (.slice B m d):=(hcx _ (by go_simp)).trans (by go_simp);clear hcx hfx hb8)))
 go_wp2
 go_ret
 exact ⟨rfl,Hb8.out⟩
def nvar (f:List Int) (z:Int) (q:Nat) (z':Int) (q':Nat):Nat:=(vst (pmobius f q q' z z') (pmobius f q q' z z').length).1
structure DsFit (f:List Int) (z:Int) (q:Nat) (z':Int) (q':Nat):Prop where
 u:U64 z.natAbs
 v:q<BB
 p:0<q
 u':U64 z'.natAbs
 v':q'<BB
 p':0<q'
 ok:MobOK f q q' z z'
 sm:SmP (pmobius f q q' z z')
 ln:(pmobius f q q' z z').length<=1000000
def mdz (z:Int) (q:Nat) (z':Int) (q':Nat):Int:=(z*(q':Int)+z'*(q:Int)).tdiv (Nat.gcd (z*(q':Int)+z'*(q:Int)).natAbs (q*q'*2))
def mdq (z:Int) (q:Nat) (z':Int) (q':Nat):Nat:=q*q'*2 / Nat.gcd (z*(q':Int)+z'*(q:Int)).natAbs (q*q'*2)
inductive DSp (f:List Int):Int->Nat->Int->Nat->Nat->Prop
 | none {z z':Int} {q q':Nat}:DsFit f z q z' q'->nvar f z q z' q'=0->DSp f z q z' q' 0
 | one {z z':Int} {q q':Nat}:DsFit f z q z' q'->nvar f z q z' q'=1->DSp f z q z' q' 1
 | node {z z':Int} {q q' k1 k2:Nat}:DsFit f z q z' q'->2<=nvar f z q z' q'->AtFit f (mdz z q z' q') (mdq z q z' q')->sgat f (mdz z q z' q') (mdq z q z' q')≠0 ->
    DSp f z q (mdz z q z' q') (mdq z q z' q') k1->DSp f (mdz z q z' q') (mdq z q z' q') z' q' k2->DSp f z q z' q' (k1+k2)
theorem nd_six (n:Bool) (A:Option Addr) (l c:Nat) (B:Option Addr) (m d:Nat) (n':Bool) (A':Option Addr) (l' c':Nat) (B':Option Addr) (m' d':Nat):∀ v∈[Value.bool n,.slice A l c,.slice B m d,.bool n',.slice A' l' c',.slice B' m' d'],Nd v:=by
 intro v hv
 simp only[List.mem_cons,List.not_mem_nil,or_false] at hv
 rcases hv with rfl | rfl | rfl | rfl | rfl | rfl
 ·exact nd_bool _
 ·exact nd_slice _ _ _
 ·exact nd_slice _ _ _
 ·exact nd_bool _
 ·exact nd_slice _ _ _
 ·exact nd_slice _ _ _
def SplitSpec (f:List Int) (gs:Nat) (Ap:Option Addr) (lp cp:Nat) (z:Int) (q:Nat) (z':Int) (q':Nat) (k:Nat):Prop :=
 ∀ (F:Value) (N:Nat) (n:Bool) (A:Option Addr) (l c:Nat) (B:Option Addr) (m d:Nat) (n':Bool) (A':Option Addr) (l' c':Nat) (B':Option Addr) (m' d':Nat) (w:World),N+k<=1000000->Blk w gs 78 #[.slice Ap lp cp,F]->Fnd gs w F N->PolyG gs (fbk gs F) w Ap lp cp f ->
   IntN w n A l c z->NatN w B m d q->IntN w n' A' l' c' z'->NatN w B' m' d' q' ->
   Calls Tryz.prog 44 #[.pointer (some ⟨gs,0,none⟩),.agg #[.bool n,.slice A l c,.slice B m d],.agg #[.bool n',.slice A' l' c',.slice B' m' d'],.bool false,.bool false] w
    fun e w'=>(∃ v,e=.returned v)/\∃ F',Blk w' gs 78 #[.slice Ap lp cp,F']/\Fnd gs w' F' (N+k)/\FrS gs (fbk gs F) w w'/\(fbk gs F'=fbk gs F∨w.heap.size<=fbk gs F')
set_option maxRecDepth 100000 in
set_option maxHeartbeats 8000000 in
theorem split_step (f:List Int) (ff:FitP f) (gs:Nat) (Ap:Option Addr) (lp cp:Nat) (hl:lp<=900000) {z z':Int} {q q' k:Nat} (hf:DsFit f z q z' q')
  (hcase:(nvar f z q z' q'=0/\k=0)∨(nvar f z q z' q'=1/\k=1)∨(2<=nvar f z q z' q'/\∃ k1 k2,k=k1+k2/\AtFit f (mdz z q z' q') (mdq z q z' q')/\sgat f (mdz z q z' q') (mdq z q z' q')≠0 /\
    SplitSpec f gs Ap lp cp z q (mdz z q z' q') (mdq z q z' q') k1/\SplitSpec f gs Ap lp cp (mdz z q z' q') (mdq z q z' q') z' q' k2)):SplitSpec f gs Ap lp cp z q z' q' k:=by
 intro F N n A l c B m d n' A' l' c' B' m' d' w hN hB hF hp hz hq hz' hq'
 obtain ⟨V,hV0⟩:∃ V,V=nvar f z q z' q':=⟨_,rfl⟩
 rw[<- hV0] at hcase
 have hV:Hid ((vst (pmobius f q q' z z') (pmobius f q q' z z').length).1=V):=Lh hV0.symm
 have Hcase:=Lh hcase
 clear hV0 hcase
 have o1:=below_new w (rbox n A l c B m d)
 have o2:=below_new (w.alloc (rbox n A l c B m d)) (rbox n' A' l' c' B' m' d')
 have b2:Below w.heap.size w ((w.alloc (rbox n A l c B m d)).alloc (rbox n' A' l' c' B' m' d')):=o1.alloc (by simp) _
 have R1:=(RBox.make hz hq).move o2
 have R2:=RBox.make (hz'.below o1) (hq'.below o1)
 simp only[World.size_alloc] at R2
 have hp2:=hp.below b2
 have hB2:=hB.below b2 hB.lt
 have hF2:=hF.below b2
 have hgl:=hB.lt
 have hfb:fbk gs F<w.heap.size:=by
  rcases hF with ⟨_,e⟩ | ⟨g,cap,e,ho,_⟩
  ·rw[e];exact hgl
  ·rw[e];exact ho.lt
 have HF:=Lh hf
 have x0:=(hB2.cell 0).trans rfl
 have a0:=R1.c0
 have a1:=R1.c1
 have a2:=R1.c2
 have d0:=R2.c0
 have d1:=R2.c1
 have d2:=R2.c2
 replace R1:=Lh R1
 replace R2:=Lh R2
 replace HP:=Lh hp2
 replace HB:=Lh hB2
 replace HFn:=Lh hF2
 have Hb:=Lh b2
 obtain ⟨wb,hwb⟩:∃ wb,wb=(w.alloc (rbox n A l c B m d)).alloc (rbox n' A' l' c' B' m' d'):=⟨_,rfl⟩
 clear o1 o2 b2 hz hq hz' hq' hp hB hF hp2 hB2 hF2 hf
 go_enter Tryz.func44,Tryz.ntmps44
 go_wp2_with fail
 rw[<- hwb] at R1 R2 HP HB HFn Hb a0 a1 a2 d0 d1 d2 x0 ⊢
 clear hwb
 go_region_held3 (fun w'=>w'.cell? ⟨gs,0,none⟩=some (.slice Ap lp cp)/\w'.cell? ⟨w.heap.size,0,none⟩=some (.bool n)/\w'.cell? ⟨w.heap.size,1,none⟩=some (.slice A l c)/\w'.cell? ⟨w.heap.size,2,none⟩=some (.slice B m d)/\w'.cell? ⟨w.heap.size+1,0,none⟩=some (.bool n')/\w'.cell? ⟨w.heap.size+1,1,none⟩=some (.slice A' l' c')/\w'.cell? ⟨w.heap.size+1,2,none⟩=some (.slice B' m' d')) (go_keep) (first
  | (go_at_call 17;go_must (refine (dvar_any ikN _ _ _ _ _ _ _ _ _ _ _ _ _ _ _ _ _ _ _ _ _ _ _ ?_ (by omega) ff ?_ ?_ ?_ ?_ HF.out.u HF.out.v HF.out.p HF.out.u' HF.out.v' HF.out.p' HF.out.ok HF.out.sm HF.out.ln).mono ?_;(exact HP.out.n.below ikN Bel.go);(exact R1.out.hz.below Bel.go);(exact R1.out.hq.below Bel.go);(exact R2.out.hz.below Bel.go);(exact R2.out.hq.below Bel.go);rintro e w8 ⟨rfl,hb8⟩;rw[show (vst (pmobius f q q' z z') (pmobius f q q' z z').length).1=V from hV.out];have Hb8:Hid (Below wb.heap.size wb w8):=Lh (Below.trans Bel.go (hb8.mono (by simp<;>omega)));obtain ⟨hcx,hfx⟩:=bcellS hb8;have v0:w8.cell? ⟨gs,0,none⟩=some (.slice Ap lp cp):=(hcx _ (by go_simp)).trans (by go_simp);have v1:w8.cell? ⟨w.heap.size,0,none⟩=some (.bool n):=(hcx _ (by go_simp)).trans (by go_simp);have v2:w8.cell? ⟨w.heap.size,1,none⟩=some (.slice A l c):=(hcx _ (by go_simp)).trans (by go_simp);have v3:w8.cell? ⟨w.heap.size,2,none⟩=some (.slice B m d):=(hcx _ (by go_simp)).trans (by go_simp);have v4:w8.cell? ⟨w.heap.size+1,0,none⟩=some (.bool n'):=(hcx _ (by go_simp)).trans (by go_simp);have v5:w8.cell? ⟨w.heap.size+1,1,none⟩=some (.slice A' l' c'):=(hcx _ (by go_simp)).trans (by go_simp);have v6:w8.cell? ⟨w.heap.size+1,2,none⟩=some (.slice B' m' d'):=(hcx _ (by go_simp)).trans (by go_simp);clear hcx hfx hb8)))
 rename_i hHeld
 clear hHeld v0 v1 v2 v3 v4 v5 v6 a0 a1 a2 d0 d1 d2 x0
 have hb8:=Hb8.out
 replace R1:=Lh (R1.out.move hb8)
 replace R2:=Lh (R2.out.move hb8)
 replace HP:=Lh (HP.out.below hb8)
 replace HB:=Lh (HB.out.below hb8 HB.out.lt)
 replace HFn:=Lh (HFn.out.below hb8)
 replace Hb:=Lh (Hb.out.trans (hb8.mono Hb.out.size))
 clear Hb8 hb8
 rcases Hcase.out with ⟨hv,hk⟩ | ⟨hv,hk⟩ | ⟨hv,k1,k2,hk,hat,hsg,ih1,ih2⟩
 ·subst hk
  subst hv
  clear Hcase
  go_wp2_with fail
  exact bodyPost_ret (results_none (by rfl) _ _ _) rfl ⟨⟨_,rfl⟩,F,HB.out,HFn.out,FrS.of_below Hb.out,.inl rfl⟩
 ·subst hk
  subst hv
  clear Hcase
  have x1:=(HB.out.cell 1).trans rfl
  have a0:=R1.out.c0
  have a1:=R1.out.c1
  have a2:=R1.out.c2
  have d0:=R2.out.c0
  have d1:=R2.out.c1
  have d2:=R2.out.c2
  have hgs8:=HB.out.lt
  have hl1:=R1.out.lt
  have nq1:gs≠w.heap.size:=by omega
  have nq2:gs≠w.heap.size+1:=by omega
  have hl2:=R2.out.lt
  have hbs:=Hb.out.size
  have fu:=HF.out.u
  have fv:=HF.out.v
  have fp:=HF.out.p
  have fu':=HF.out.u'
  have fv':=HF.out.v'
  have fp':=HF.out.p'
  clear HP
  go_wp2_with fail
  refine wp_region_lastT (S:=fun w'=>w'.cell? ⟨w.heap.size,0,none⟩=some (.bool n)/\w'.cell? ⟨w.heap.size,1,none⟩=some (.slice A l c)/\w'.cell? ⟨w.heap.size,2,none⟩=some (.slice B m d)/\w'.cell? ⟨w.heap.size+1,0,none⟩=some (.bool n')/\w'.cell? ⟨w.heap.size+1,1,none⟩=some (.slice A' l' c')/\w'.cell? ⟨w.heap.size+1,2,none⟩=some (.slice B' m' d')/\w'.cell? ⟨gs,1,none⟩=some (F)) (by kernel_rfl) (by kernel_rfl) (by (try dsimp only);go_keep) (fun hHeld=>?_)
  simp only[List.pop_toArray,List.dropLast]
  (refine tq 0 ?_;simp only[put_lit,List.set])
  (refine tq 1 ?_;simp only[put_lit,List.set])
  (refine tq 2 ?_;simp only[put_lit,List.set])
  (refine tq 3 ?_;simp only[put_lit,List.set])
  (refine tq 4 ?_;simp only[put_lit,List.set])
  (refine tq 5 ?_;simp only[put_lit,List.set])
  (refine tq 7 ?_;simp only[put_lit,List.set])
  refine rdy 6 (fun K hK=>?_);go_simp
  refine (rnormal_any _ _ _ _ _ _ _ _ _ _ (R1.out.hz.below Bel.go) (R1.out.hq.below Bel.go) (u64_fit fu) (nat_fit fv) fp).mono ?_
  rintro e w7 ⟨⟨n7,A7,l7,c7,B7,m7,d7,rfl,h7,k7⟩,hb7⟩
  obtain ⟨hcx,hfx⟩:=bcellS hb7
  replace R2:=Lh (R2.out.move (Below.trans Bel.go (hb7.mono (by simp<;>omega))))
  have hbz:Below w8.heap.size w8 w7:=(Below.trans Bel.go (hb7.mono (by simp<;>omega)))
  replace HB:=Lh (HB.out.below hbz HB.out.lt)
  replace HFn:=Lh (HFn.out.below hbz)
  replace Hb:=Lh (Hb.out.trans (hbz.mono Hb.out.size))
  refine hK.out _ _ ?_ (fun _=>?_)
  ·((try dsimp only);repeat' apply And.intro)<;>(rw[hcx _ (by go_simp)];go_simp)
  clear hHeld hK K hcx hfx;rename_i hHeld
  have hs7:=hbz.size
  clear h7 k7 hb7 hbz R1
  refine rdy 8 (fun K hK=>?_);go_simp
  refine (rnormal_any _ _ _ _ _ _ _ _ _ _ (R2.out.hz.below Bel.go) (R2.out.hq.below Bel.go) (u64_fit fu') (nat_fit fv') fp').mono ?_
  rintro e w9 ⟨⟨n9,A9,l9,c9,B9,m9,d9,rfl,h9,k9⟩,hb9⟩
  obtain ⟨hcx,hfx⟩:=bcellS hb9
  have hbz:Below w7.heap.size w7 w9:=(Below.trans Bel.go (hb9.mono (by simp<;>omega)))
  replace HB:=Lh (HB.out.below hbz HB.out.lt)
  replace HFn:=Lh (HFn.out.below hbz)
  replace Hb:=Lh (Hb.out.trans (hbz.mono Hb.out.size))
  refine hK.out _ _ ?_ (fun _=>?_)
  ·((try dsimp only);repeat' apply And.intro)<;>(rw[hcx _ (by go_simp)];go_simp)
  clear hHeld hK K hcx hfx;rename_i hHeld
  have hs9:=hbz.size
  clear h9 k9 hb9 hbz R2
  (refine tq 9 ?_;simp only[put_lit,List.set])
  refine rdy 10 (fun K hK=>?_);go_simp
  refine hK.out _ _ ?_ (fun _=>?_)
  ·(try dsimp only);go_keep
  clear hHeld hK K
  rename_i hHeld
  (try (simp only[put_lit,List.set]))
  refine rdy 11 (fun K hK=>?_)
  rw[if_pos (by rfl)]
  have nd6:=nd_six n7 A7 l7 c7 B7 m7 d7 n9 A9 l9 c9 B9 m9 d9
  refine oper_append_root (.tmp 36) (.tmp 42) rfl gs F N rfl (HFn.out.below Bel.go) (by have:=HB.out.lt;simp;omega) w9.heap.size [.bool n7,.slice A7 l7 c7,.slice B7 m7 d7,.bool n9,.slice A9 l9 c9,.slice B9 m9 d9] rfl rfl (newrow_cells _ _ _) nd6 (by omega) 43 rfl ?_
  intro F' w10 hgr
  obtain ⟨g2,cap2,eF2⟩:=hgr.slice
  subst eF2
  have jb:=below_new w9 (.cells #[.bool n7,.slice A7 l7 c7,.slice B7 m7 d7,.bool n9,.slice A9 l9 c9,.slice B9 m9 d9] 105)
  have hbk:=HB.out.below jb HB.out.lt
  have FIN:=Lh (hgr.fin hbk (Hb.out.trans (jb.mono Hb.out.size)))
  have z7:w10.cell? ⟨gs,1,none⟩=some F:=((hgr.blk hbk).cell 1).trans rfl
  have z8:w10.frozen? ⟨gs,1,none⟩=false:=(hgr.blk hbk).frozen 1
  refine hK.out _ _ ?_ (fun _=>?_)
  ·refine ⟨?_,?_,?_,?_,?_,?_,z7⟩<;>(refine (hgr.cell (by simp;omega) (by omega) _).trans ?_;go_simp)
  clear hHeld hK K hgr hbk jb
  rename_i hHeld
  simp only[put_lit,List.set]
  (refine tq 12 ?_;simp only[put_lit,List.set])
  (refine tq 13 ?_;simp only[put_lit,List.set])
  refine wpAnyH_done (by kernel_rfl) (lastQ_list rfl ?_) _
  clear hHeld HB HFn Hb x1 a0 a1 a2 d0 d1 d2
  go_wp2_with fail
  exact bodyPost_ret (results_none (by rfl) _ _ _) rfl ⟨⟨_,rfl⟩,_,FIN.out⟩
 ·subst hk
  clear Hcase
  have hv0:((V:Int) == 0)=false:=by rw[beq_eq_false_iff_ne];omega
  have hv1:((V:Int) == 1)=false:=by rw[beq_eq_false_iff_ne];omega
  have a0:=R1.out.c0
  have a1:=R1.out.c1
  have a2:=R1.out.c2
  have d0:=R2.out.c0
  have d1:=R2.out.c1
  have d2:=R2.out.c2
  have fz:=u64_fit HF.out.u
  have fq:=nat_fit HF.out.v
  have fz':=u64_fit HF.out.u'
  have fq':=nat_fit HF.out.v'
  have fp:=HF.out.p
  have fp':=HF.out.p'
  have Hat:=Lh hat
  have Ih1:=Lh ih1
  have Ih2:=Lh ih2
  have hdc:decide (sgat f (mdz z q z' q') (mdq z q z' q')=0)=false:=decide_eq_false hsg
  have Hdc:=Lh hdc
  clear hat ih1 ih2 hsg hdc
  go_wp2_with fail
  refine (mid_any _ _ _ _ _ _ _ _ _ _ _ _ _ _ _ _ _ _ _ R1.out.hz R1.out.hq R2.out.hz R2.out.hq fz fq fp fz' fq' fp').mono ?_
  rintro e w9 ⟨⟨n9,A9,l9,c9,B9,m9,d9,rfl,h9,k9⟩,hb9⟩
  replace h9:IntN w9 n9 A9 l9 c9 (mdz z q z' q'):=h9
  replace k9:NatN w9 B9 m9 d9 (mdq z q z' q'):=k9
  have jb:=below_new w9 (rbox n9 A9 l9 c9 B9 m9 d9)
  have hbj:=hb9.trans (jb.mono hb9.size)
  have r11:=RBox.make h9 k9
  have hg11:w.heap.size+1<w9.heap.size:=Nat.lt_of_lt_of_le R2.out.lt hb9.size
  replace R1:=Lh (R1.out.move hbj)
  replace R2:=Lh (R2.out.move hbj)
  replace HP:=Lh (HP.out.below hbj)
  replace HB:=Lh (HB.out.below hbj HB.out.lt)
  replace HFn:=Lh (HFn.out.below hbj)
  replace Hb:=Lh (Hb.out.trans (hbj.mono Hb.out.size))
  obtain ⟨g11,e11⟩:∃ g,g=w9.heap.size:=⟨_,rfl⟩
  rw[<- e11] at r11
  have R11:=Lh r11
  clear h9 k9 hb9 jb hbj r11 a0 a1 a2 d0 d1 d2
  go_wp2_with fail
  rw[<- e11]
  refine (dzeroat_any _ _ _ _ _ _ _ _ _ _ _ _ _ _ _ _ HB.out HP.out.n ff (by omega) R11.out.hz R11.out.hq Hat.out).mono ?_
  rintro e w10 ⟨rfl,hb10⟩
  rw[Hdc.out]
  replace R1:=Lh (R1.out.move hb10)
  replace R2:=Lh (R2.out.move hb10)
  replace R11:=Lh (R11.out.move hb10)
  replace HP:=Lh (HP.out.below hb10)
  replace HB:=Lh (HB.out.below hb10 HB.out.lt)
  replace HFn:=Lh (HFn.out.below hb10)
  replace Hb:=Lh (Hb.out.trans (hb10.mono Hb.out.size))
  rw[<- e11] at hg11
  clear hb10 e11
  have a0:=R1.out.c0
  have a1:=R1.out.c1
  have a2:=R1.out.c2
  have d0:=R11.out.c0
  have d1:=R11.out.c1
  have d2:=R11.out.c2
  go_wp2_with fail
  refine (Ih1.out F N _ _ _ _ _ _ _ _ _ _ _ _ _ _ w10 (by omega) HB.out HFn.out HP.out R1.out.hz R1.out.hq R11.out.hz R11.out.hq).mono ?_
  rintro e w12 ⟨⟨v12,rfl⟩,F',hB',hF',hfr,hfb'⟩
  obtain ⟨nd1,nd2⟩:=fnd_ndb HB.out HFn.out
  have R2':=Lh (R2.out.frs hfr nd1 nd2 (by omega) (by omega))
  have R11':=Lh (R11.out.frs hfr nd1 nd2 (by omega) (by omega))
  have HP':=Lh (HP.out.next hfr nd1 nd2 hfb')
  have HB':=Lh hB'
  have HFn':=Lh hF'
  have Hfr:=Lh (FrS.trans (g1:=fbk gs F) (FrS.of_below Hb.out) hfr (.inl rfl))
  have Hfb':=Lh (show fbk gs F'=fbk gs F∨w.heap.size<=fbk gs F' from hfb'.imp id (fun h=>Nat.le_trans Hb.out.size h))
  clear hB' hF' hfr hfb' nd1 nd2 a0 a1 a2 d0 d1 d2 R1 R2 R11 HP HB HFn Hb
  have a0:=R2'.out.c0
  have a1:=R2'.out.c1
  have a2:=R2'.out.c2
  have d0:=R11'.out.c0
  have d1:=R11'.out.c1
  have d2:=R11'.out.c2
  go_wp2_with fail
  refine (Ih2.out F' (N+k1) _ _ _ _ _ _ _ _ _ _ _ _ _ _ w12 (by omega) HB'.out HFn'.out HP'.out R11'.out.hz R11'.out.hq R2'.out.hz R2'.out.hq).mono ?_
  rintro e w13 ⟨⟨v13,rfl⟩,F2,hB2,hF2,hfr2,hfb2⟩
  have hs12:=Hfr.out.size
  have FIN:Hid (∃ F',Blk w13 gs 78 #[.slice Ap lp cp,F']/\Fnd gs w13 F' (N+(k1+k2))/\FrS gs (fbk gs F) w w13/\(fbk gs F'=fbk gs F∨w.heap.size<=fbk gs F')):=Lh ⟨F2,hB2,by rw[<- Nat.add_assoc];exact hF2,Hfr.out.trans hfr2 Hfb'.out,by
   rcases hfb2 with h | h
   ·rw[h];exact Hfb'.out
   ·exact .inr (by omega)⟩
  clear hB2 hF2 hfr2 hfb2 a0 a1 a2 d0 d1 d2 R2' R11' HP' HB' HFn' Hfr Hfb'
  go_wp2_with fail
  exact bodyPost_end (results_none (by rfl) _ _ _) rfl ⟨⟨_,rfl⟩,FIN.out⟩
theorem split_any (f:List Int) (ff:FitP f) (gs:Nat) (Ap:Option Addr) (lp cp:Nat) (hl:lp<=900000) {z z':Int} {q q' k:Nat} (hd:DSp f z q z' q' k):SplitSpec f gs Ap lp cp z q z' q' k:=by
 induction hd with
 | none hf hv=>exact split_step f ff gs Ap lp cp hl hf (.inl ⟨hv,rfl⟩)
 | one hf hv=>exact split_step f ff gs Ap lp cp hl hf (.inr (.inl ⟨hv,rfl⟩))
 | node hf hv hm hs h1 h2 ih1 ih2=>exact split_step f ff gs Ap lp cp hl hf (.inr (.inr ⟨hv,_,_,rfl,hm,hs,ih1,ih2⟩))
end Go.Proofs.YtphmkdmflopcdaaGreat
