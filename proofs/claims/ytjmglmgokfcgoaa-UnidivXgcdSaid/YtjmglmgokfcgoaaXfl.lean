/- The walk of unidiv.following. -/
import Derived.Test.YtjmglmgokfcgoaaXbd
import Derived.Test.YtjmglmgokfcgoaaFed
import Derived.Test.YtjmglmgokfcgoaaPsB
import Derived.Deep.RegionHeld3
namespace Go.Proofs.Ytjmglmgokfcgoaa
open Go.RowKit
theorem psc_sm {c:Int} {p:List Int} (hc:Fit c) (hp:FitP p):SmP (psc c p):=fun x hx=>by
 obtain ⟨k,hk⟩:=List.getElem?_of_mem hx
 have e1:(psc c p).getD k 0=x:=by rw [List.getD_eq_getElem?_getD,hk];rfl
 rw [psc_get] at e1
 rw [← e1]
 exact hc.sm2 (hp k)
theorem sub_ok {q g p:List Int} {c:Int} (hq:FitP q) (hg:FitP g) (hl:q.length+g.length≤1000000) (hc:Fit c) (hp:FitP p):SmP (polymul q g)∧SmP (ptrim (psc c p))∧(∀ k,Sm (((ptrim (psc c p)).getD k 0).natAbs+((polymul q g).getD k 0).natAbs))∧SmP (ptrim (psub (ptrim (psc c p)) (polymul q g))):=by
 have h1:Bd (1000000*BB^(FW+FW)) (polymul q g):=polymul_bd hq hg 1000000 hl
 have h2:Bd (BB^(FW+FW)) (psc c p):=fun k=>by
  rw [psc_get]
  exact Nat.le_of_lt (hc.mul (hp k))
 have h3:1000000*BB^(FW+FW)<BB^(FW+FW+1):=mulpow_lt (Nat.le_refl _)
 have h4:BB^(FW+FW)<BB^(FW+FW+1):=by have:=mulpow_lt (n:=1) (k:=FW+FW) (by omega);omega
 have h5:FW+FW+2≤1000000000:=by rw [FW_eq];omega
 have a3:2*BB^(FW+FW+1)<BB^(FW+FW+2):=mulpow_lt (by omega)
 have key:∀ k,((ptrim (psc c p)).getD k 0).natAbs+((polymul q g).getD k 0).natAbs<BB^(FW+FW+2):=fun k=>by
  have a1:=h1 k
  have a2:=h2.ptrim k
  omega
 refine ⟨h1.smp h3 (by omega),h2.ptrim.smp h4 (by omega),fun k=>sm_pow (k:=FW+FW+2) (key k) h5,?_⟩
 have h6:Bd (2*BB^(FW+FW+1)) (psub (ptrim (psc c p)) (polymul q g)):=fun k=>by
  rw [psub_get]
  have a1:=h1 k
  have a2:=h2.ptrim k
  have:=Int.natAbs_sub_le ((ptrim (psc c p)).getD k 0) ((polymul q g).getD k 0)
  omega
 exact h6.ptrim.smp a3 h5
theorem PLst.three {w:World} {t:TypeId} {A B C:Option Addr} {la ca lb cb lc cc:Nat} {p q r:List Int} (hp:PolyN w A la ca p) (hq:PolyN w B lb cb q) (hr:PolyN w C lc cc r):PLst (w.alloc (.cells #[.slice A la ca,.slice B lb cb,.slice C lc cc] t)) (some ⟨w.heap.size,0,none⟩) 3 3 [p,q,r]:=by
 have hb:=(Below.refl w.heap.size w).alloc (Nat.le_refl _) (.cells #[.slice A la ca,.slice B lb cb,.slice C lc cc] t)
 refine ⟨rfl,.inr ⟨w.heap.size,0,rfl,by simp,fun j hj=>?_⟩⟩
 match j,hj with
 | 0,_=>exact ⟨A,la,ca,by go_simp,(hp.below ikN hb).at_ ikN⟩
 | 1,_=>exact ⟨B,lb,cb,by go_simp,(hq.below ikN hb).at_ ikN⟩
 | 2,_=>exact ⟨C,lc,cc,by go_simp,(hr.below ikN hb).at_ ikN⟩
theorem xdv_poly {w:World} {g n:Nat} {p:List Int} {c:Nat} (tp:ptrim p=p) (hn:plen p=n) (h:PRow w g ((ptrim p).map (·.tdiv (c:Int)))):PolyN w (some ⟨g,0,none⟩) n n (xdv c p):=by
 have h2:=h.poly (cap:=plen p) (by rw [List.length_map,ptrim_length];exact Nat.le_refl _)
 rw [List.length_map,ptrim_length,hn,tp] at h2
 exact h2
theorem PRow.sto {w:World} {g g' i:Nat} {zs:List Int} (h:PRow w g zs) {A0:Option Addr} {l0 c0:Nat} (hc:w.cell? ⟨g',i,none⟩=some (.slice A0 l0 c0)) (hg:g≠g') (u:Value):PRow (w.setCell ⟨g',i,none⟩ u) g zs:=by
 obtain ⟨cs,hk,hs⟩:=h.blk
 refine ⟨⟨cs,hk.far (p:=⟨g',i,none⟩) hg _,hs⟩,fun j hj=>?_⟩
 obtain ⟨n1,A1,l1,c1,f0,f1,f2⟩:=h.elems j hj
 refine ⟨n1,A1,l1,c1,?_,?_,f2.store _ hc (noDigit_slice _ _ _)⟩
 ·rw [World.cell?_setCell_other _ _ _ _ (by intro e;injection e with e _;exact hg e.symm)];exact f0
 ·rw [World.cell?_setCell_other _ _ _ _ (by intro e;injection e with e _;exact hg e.symm)];exact f1
def put3 (w:World) (g:Nat) (u v x:Value):World:=((w.setCell ⟨g,0,none⟩ u).setCell ⟨g,1,none⟩ v).setCell ⟨g,2,none⟩ x
theorem PRow.put3 {w:World} {g g':Nat} {zs:List Int} (h:PRow w g zs) {A0 A1 A2:Option Addr} {l0 c0 l1 c1 l2 c2:Nat} (h0:w.cell? ⟨g',0,none⟩=some (.slice A0 l0 c0)) (h1:w.cell? ⟨g',1,none⟩=some (.slice A1 l1 c1)) (h2:w.cell? ⟨g',2,none⟩=some (.slice A2 l2 c2)) (hg:g≠g') (u v x:Value):PRow (put3 w g' u v x) g zs :=
 ((h.sto h0 hg u).sto (by rw [World.cell?_setCell_other w _ _ _ (by simp)];exact h1) hg v).sto (by rw [World.cell?_setCell_other _ _ _ _ (by simp),World.cell?_setCell_other w _ _ _ (by simp)];exact h2) hg x
theorem xun_len2 {a b u v:List Int} {N:Nat} (hq:(psq a b).length≤N) (hv:v.length≤N) (hu:u.length≤N):(xun a b u v).length≤2*N:=by
 unfold xun
 rw [ptrim_length]
 refine Nat.le_trans (plen_le _) ?_
 rw [psub_length,ptrim_length]
 have h1:plen (psc (plead b^(plen a-(plen b-1))) u)≤u.length:=Nat.le_trans (plen_le _) (by unfold psc;rw [List.length_map];exact Nat.le_refl _)
 have h2:(polymul (ptrim (psq a b)) (ptrim v)).length≤2*N:=by
  unfold polymul
  split
  ·exact Nat.zero_le _
  ·rw [pmul_length,ptrim_length,ptrim_length]
   have:=plen_le (psq a b)
   have:=plen_le v
   omega
 omega
theorem xun_trim (a b u v:List Int):ptrim (xun a b u v)=xun a b u v:=by unfold xun;rw [ptrim_ptrim]
theorem psr_sm {a b:List Int} (hq:FitP (psq a b)) (hb:FitP b) (ha:FitP a) (hc:Fit (plead b^(plen a-(plen b-1)))) (b0:plen b≠0) (hl:(psq a b).length+plen b≤1000000):SmP (psr a b):=by
 have h1:=(sub_ok (q:=psq a b) (g:=ptrim b) (p:=a) hq (fun k=>by rw [ptrim_getD];exact hb k) (by rw [ptrim_length];exact hl) hc ha).2.2.2
 have h2:psr a b=ptrim (psub (ptrim (psc (plead b^(plen a-(plen b-1))) a)) (polymul (psq a b) (ptrim b))):=by
  rw [← psr_ptrim]
  refine ptrim_ext fun k=>?_
  rw [psub_get,ptrim_getD,psc_get,polymul_getD,ps_id a b (by omega)]
  omega
 rw [h2]
 exact h1
structure FoIn (a ua va b ub vb:List Int):Prop where
 ta:ptrim a=a
 tb:ptrim b=b
 fits:Fit (plead b^(plen a-(plen b-1)))∧FitP (psq a b)∧(FitP a∧FitP ua∧FitP va)∧FitP b∧FitP ub∧FitP vb
 cont:xcont a ua va b ub vb≠0
set_option maxRecDepth 100000 in
set_option maxHeartbeats 8000000 in
theorem following_any {a ua va b ub vb:List Int} (hx:FoIn a ua va b ub vb) (b0:plen b≠0) (A1:Option Addr) (l1 c1:Nat) (A2:Option Addr) (l2 c2:Nat) (A3:Option Addr) (l3 c3:Nat) (B1:Option Addr) (m1 d1:Nat) (B2:Option Addr) (m2 d2:Nat) (B3:Option Addr) (m3 d3:Nat) (w:World)
  (ha:PolyN w A1 l1 c1 a) (hua:PolyN w A2 l2 c2 ua) (hva:PolyN w A3 l3 c3 va) (hb:PolyN w B1 m1 d1 b) (hub:PolyN w B2 m2 d2 ub) (hvb:PolyN w B3 m3 d3 vb) (hl:l1≤20∧l2≤20∧l3≤20∧m1≤20∧m2≤20∧m3≤20) :
  Calls Try.prog 37 #[.agg #[.slice A1 l1 c1,.slice A2 l2 c2,.slice A3 l3 c3],.agg #[.slice B1 m1 d1,.slice B2 m2 d2,.slice B3 m3 d3]] w fun e w'=>∃ R1 r1 e1 R2 r2 e2 R3 r3 e3,e=.returned (.agg #[.slice R1 r1 e1,.slice R2 r2 e2,.slice R3 r3 e3]) ∧
   PolyN w' R1 r1 e1 (xdv (xcont a ua va b ub vb) (psr a b))∧PolyN w' R2 r2 e2 (xdv (xcont a ua va b ub vb) (xun a b ua ub))∧PolyN w' R3 r3 e3 (xdv (xcont a ua va b ub vb) (xun a b va vb))∧Below w.heap.size w w':=by
 obtain ⟨y1,y2,⟨y3,y4,y5⟩,y6,y7,y8⟩:=hx.fits
 obtain ⟨hl1,hl2,hl3,hm1,hm2,hm3⟩:=hl
 obtain ⟨W,hW⟩:∃ W,W=(((w.alloc (.cells #[.slice A1 l1 c1,.slice A2 l2 c2,.slice A3 l3 c3] 60)).alloc (.cells #[.slice B1 m1 d1,.slice B2 m2 d2,.slice B3 m3 d3] 60)).alloc (.cells #[.slice none 0 0,.slice none 0 0,.slice none 0 0] 60)):=⟨_,rfl⟩
 have hb0:Below w.heap.size w W:=by rw [hW];exact below_three w _ _ _ (Nat.le_refl _)
 have HA:=Lib.hid (ha.below ikN hb0)
 have HB:=Lib.hid (hb.below ikN hb0)
 have HUA:=Lib.hid (hua.below ikN hb0)
 have HVA:=Lib.hid (hva.below ikN hb0)
 have HUB:=Lib.hid (hub.below ikN hb0)
 have HVB:=Lib.hid (hvb.below ikN hb0)
 have Hb0:=Lib.hid hb0
 have a1:W.cell? ⟨w.heap.size,0,none⟩=some (.slice A1 l1 c1):=by rw [hW];go_simp
 have a2:W.cell? ⟨w.heap.size,1,none⟩=some (.slice A2 l2 c2):=by rw [hW];go_simp
 have a3:W.cell? ⟨w.heap.size,2,none⟩=some (.slice A3 l3 c3):=by rw [hW];go_simp
 have b1:W.cell? ⟨w.heap.size+1,0,none⟩=some (.slice B1 m1 d1):=by rw [hW];go_simp
 have b2:W.cell? ⟨w.heap.size+1,1,none⟩=some (.slice B2 m2 d2):=by rw [hW];go_simp
 have b3:W.cell? ⟨w.heap.size+1,2,none⟩=some (.slice B3 m3 d3):=by rw [hW];go_simp
 have hWs:W.heap.size=w.heap.size+3:=by rw [hW];simp
 have HG:=Lib.hid (show Blk W (w.heap.size+1+1) 60 #[.slice none 0 0,.slice none 0 0,.slice none 0 0] by rw [hW];have:=Blk.new ((w.alloc (.cells #[.slice A1 l1 c1,.slice A2 l2 c2,.slice A3 l3 c3] 60)).alloc (.cells #[.slice B1 m1 d1,.slice B2 m2 d2,.slice B3 m3 d3] 60)) 60 #[.slice none 0 0,.slice none 0 0,.slice none 0 0];simpa using this)
 have Y1:=Lib.hid y1
 have Y2:=Lib.hid y2
 have Y3:=Lib.hid y3
 have Y4:=Lib.hid y4
 have Y5:=Lib.hid y5
 have Y6:=Lib.hid y6
 have Y7:=Lib.hid y7
 have Y8:=Lib.hid y8
 have HX:=Lib.hid hx
 have B0:=Lib.hid b0
 clear ha hb hua hva hub hvb hb0 y1 y2 y3 y4 y5 y6 y7 y8 hx b0
 go_enter Try.func37,Try.ntmps37
 go_wp2_with fail
 rw [← hW]
 clear hW
 refine (pseudo_any ikN ikN _ _ _ a _ _ _ b FW _ HA.out HB.out (fun k=>dlen_le_of_lt (Y3.out k)) Y6.out (by have:=B0.out;omega) (by omega) (by omega) (by rw [FW_eq];omega)).mono ?_
 rintro e w1 ⟨Q1,q1,x1,R1,r1,z1,rfl,hq,hr,hb1⟩
 have hs1:=hb1.size
 have a1:=(hb1.cell (p:=⟨w.heap.size,0,none⟩) (by simp;omega)).trans a1
 have a2:=(hb1.cell (p:=⟨w.heap.size,1,none⟩) (by simp;omega)).trans a2
 have a3:=(hb1.cell (p:=⟨w.heap.size,2,none⟩) (by simp;omega)).trans a3
 have b1:=(hb1.cell (p:=⟨w.heap.size+1,0,none⟩) (by simp;omega)).trans b1
 have b2:=(hb1.cell (p:=⟨w.heap.size+1,1,none⟩) (by simp;omega)).trans b2
 have b3:=(hb1.cell (p:=⟨w.heap.size+1,2,none⟩) (by simp;omega)).trans b3
 have hla:l1=plen a:=by rw [← HA.out.length];have:=congrArg List.length HX.out.ta;rw [ptrim_length] at this;exact this.symm
 have hlb:m1=plen b:=by rw [← HB.out.length];have:=congrArg List.length HX.out.tb;rw [ptrim_length] at this;exact this.symm
 have hm0:1≤m1:=by have:=B0.out;omega
 obtain ⟨dd,hdd⟩:∃ dd:Int,dd=(l1:Int)-(m1:Int):=⟨_,rfl⟩
 obtain ⟨d0,hd0⟩:∃ d0:Int,d0=dd+1:=⟨_,rfl⟩
 obtain ⟨kk,hkk⟩:∃ kk,kk=plen a-(plen b-1):=⟨_,rfl⟩
 have i1:(l1:Int)-(m1:Int)=dd:=hdd.symm
 have i2:IntKind.i64.wrap dd=dd:=IntWalk.i64_in _ (by omega)
 have i3:dd+1=d0:=hd0.symm
 have i4:IntKind.i64.wrap d0=d0:=IntWalk.i64_in _ (by omega)
 have i5:max d0 0=(kk:Int):=by omega
 have hkb:kk≤21:=by omega
 have Hkk:=Lib.hid hkk
 have HQ:=Lib.hid hq
 have HR:=Lib.hid hr
 have HA:=Lib.hid (HA.out.below ikN hb1)
 have HB:=Lib.hid (HB.out.below ikN hb1)
 have HUA:=Lib.hid (HUA.out.below ikN hb1)
 have HVA:=Lib.hid (HVA.out.below ikN hb1)
 have HUB:=Lib.hid (HUB.out.below ikN hb1)
 have HVB:=Lib.hid (HVB.out.below ikN hb1)
 have HG:=Lib.hid (HG.out.below hb1 HG.out.lt)
 have Hb1:=Lib.hid (Hb0.out.trans (hb1.mono Hb0.out.size))
 have Hla:=Lib.hid hla
 have Hlb:=Lib.hid hlb
 clear hq hr hb1 hla hlb hdd hkk hd0 Hb0
 go_wp2_with fail
 refine (lead_any _ _ _ b _ (HB.out.at_ ikN) (Y6.out.smp) (by omega)).mono ?_
 rintro e w2 ⟨n2,A4,l4,c4,rfl,h4,hb2⟩
 have hs2:=hb2.size
 have Hl0:=Lib.hid (show plead b≠0 from plead_ne B0.out)
 have Y1k:=Lib.hid (show Fit (plead b^kk) by rw [Hkk.out];exact Y1.out)
 have H4:=Lib.hid h4
 have B2w:=Lib.hid hb2
 clear h4 hb2
 go_wp2_with fail
 refine (power_any _ _ _ _ (plead b) kk _ H4.out Hl0.out Y1k.out (by omega) (Y6.out (plen b-1))).mono ?_
 rintro e w3 ⟨n3,A5,l5,c5,rfl,h5,hb3⟩
 obtain ⟨fac,hfac⟩:∃ fac,fac=plead b^kk:=⟨_,rfl⟩
 rw [← hfac] at h5
 have Hfac:=Lib.hid hfac
 have hbb:=B2w.out.trans (hb3.mono hs2)
 have hs3:=hbb.size
 have a1:=(hbb.cell (p:=⟨w.heap.size,0,none⟩) (by simp;omega)).trans a1
 have a2:=(hbb.cell (p:=⟨w.heap.size,1,none⟩) (by simp;omega)).trans a2
 have a3:=(hbb.cell (p:=⟨w.heap.size,2,none⟩) (by simp;omega)).trans a3
 have b1:=(hbb.cell (p:=⟨w.heap.size+1,0,none⟩) (by simp;omega)).trans b1
 have b2:=(hbb.cell (p:=⟨w.heap.size+1,1,none⟩) (by simp;omega)).trans b2
 have b3:=(hbb.cell (p:=⟨w.heap.size+1,2,none⟩) (by simp;omega)).trans b3
 have HQ:=Lib.hid (HQ.out.below ikN hbb)
 have HR:=Lib.hid (HR.out.below ikN hbb)
 have HUA:=Lib.hid (HUA.out.below ikN hbb)
 have HVA:=Lib.hid (HVA.out.below ikN hbb)
 have HUB:=Lib.hid (HUB.out.below ikN hbb)
 have HVB:=Lib.hid (HVB.out.below ikN hbb)
 have HG:=Lib.hid (HG.out.below hbb HG.out.lt)
 have Hb3:=Lib.hid (Hb1.out.trans (hbb.mono Hb1.out.size))
 have H5:=Lib.hid h5
 clear h5 hb3 hbb hfac HA HB H4 B2w Hb1
 go_wp2_with fail
 obtain ⟨gf,hgf⟩:∃ gf,gf=w3.heap.size:=⟨_,rfl⟩
 obtain ⟨W4,hW4⟩:∃ W4,W4=w3.alloc (ibox n3 A5 l5 c5):=⟨_,rfl⟩
 have hb4:Below w3.heap.size w3 W4:=by rw [hW4];exact (Below.refl _ _).alloc (Nat.le_refl _) _
 have HFc:=Lib.hid (show IBox W4 gf n3 A5 l5 c5 fac by rw [hW4,hgf];exact IBox.make H5.out)
 rw [← hW4,← hgf]
 have hgf1:w.heap.size+1+1<gf:=by omega
 have a1:=(hb4.cell (p:=⟨w.heap.size,0,none⟩) (by simp;omega)).trans a1
 have a2:=(hb4.cell (p:=⟨w.heap.size,1,none⟩) (by simp;omega)).trans a2
 have a3:=(hb4.cell (p:=⟨w.heap.size,2,none⟩) (by simp;omega)).trans a3
 have b1:=(hb4.cell (p:=⟨w.heap.size+1,0,none⟩) (by simp;omega)).trans b1
 have b2:=(hb4.cell (p:=⟨w.heap.size+1,1,none⟩) (by simp;omega)).trans b2
 have b3:=(hb4.cell (p:=⟨w.heap.size+1,2,none⟩) (by simp;omega)).trans b3
 have HQ:=Lib.hid (HQ.out.below ikN hb4)
 have HR:=Lib.hid (HR.out.below ikN hb4)
 have HUA:=Lib.hid (HUA.out.below ikN hb4)
 have HVA:=Lib.hid (HVA.out.below ikN hb4)
 have HUB:=Lib.hid (HUB.out.below ikN hb4)
 have HVB:=Lib.hid (HVB.out.below ikN hb4)
 have HG:=Lib.hid (HG.out.below hb4 HG.out.lt)
 have Hb4:=Lib.hid (Hb3.out.trans (hb4.mono Hb3.out.size))
 have f0:=HFc.out.c0
 have f1:=HFc.out.c1
 have hgl:=HFc.out.lt
 have Yf:=Lib.hid (show Fit fac by rw [Hfac.out];exact Y1k.out)
 clear hb4 hW4 hgf H5 Hb3
 refine wp_region_held_drew (S:=fun w'=>(w'.cell? ⟨w.heap.size,1,none⟩=some (.slice A2 l2 c2)∧w'.cell? ⟨w.heap.size+1,1,none⟩=some (.slice B2 m2 d2))∧w'.cell? ⟨gf,0,none⟩=some (.bool n3)∧w'.cell? ⟨gf,1,none⟩=some (.slice A5 l5 c5)) (by kernel_rfl) (by (try dsimp only);go_keep) (fun hHeld=>?_)
 (refine tk (i:=0) (v:=?_) rfl rfl (Or.inl ⟨by rfl,?_⟩) ?_;rotate_left;(focus (intro w hSw;(try dsimp only at hSw);go_simp;(try with_reducible rfl)));(simp only [put_lit,List.set]))
 (refine tk (i:=1) (v:=?_) rfl rfl (Or.inl ⟨by rfl,?_⟩) ?_;rotate_left;(focus (intro w hSw;(try dsimp only at hSw);go_simp;(try with_reducible rfl)));(simp only [put_lit,List.set]))
 (refine tk (i:=2) (v:=?_) rfl rfl (Or.inl ⟨by rfl,?_⟩) ?_;rotate_left;(focus (intro w hSw;(try dsimp only at hSw);go_simp;(try with_reducible rfl)));(simp only [put_lit,List.set]))
 (refine tk (i:=4) (v:=?_) rfl rfl (Or.inl ⟨by rfl,?_⟩) ?_;rotate_left;(focus (intro w hSw;(try dsimp only at hSw);go_simp;(try with_reducible rfl)));(simp only [put_lit,List.set]))
 (refine tk (i:=5) (v:=?_) rfl rfl (Or.inl ⟨by rfl,?_⟩) ?_;rotate_left;(focus (intro w hSw;(try dsimp only at hSw);go_simp;(try with_reducible rfl)));(simp only [put_lit,List.set]))
 (refine tk (i:=6) (v:=?_) rfl rfl (Or.inl ⟨by rfl,?_⟩) ?_;rotate_left;(focus (intro w hSw;(try dsimp only at hSw);go_simp;(try with_reducible rfl)));(simp only [put_lit,List.set]))
 have Lq:=Lib.hid (show (psq a b).length≤20 from by have:=psq_len a b;have:=Hla.out;omega)
 have Lua:=Lib.hid (show ua.length≤20 by have:=HUA.out.length;omega)
 have Lva:=Lib.hid (show va.length≤20 by have:=HVA.out.length;omega)
 have Lub:=Lib.hid (show ub.length≤20 by have:=HUB.out.length;omega)
 have Lvb:=Lib.hid (show vb.length≤20 by have:=HVB.out.length;omega)
 obtain ⟨t1,t2,t3,t4⟩:=sub_ok (q:=ptrim (psq a b)) (g:=ptrim ub) (p:=ua) (c:=fac) (fun k=>by rw [ptrim_getD];exact Y2.out k) (fun k=>by rw [ptrim_getD];exact Y7.out k) (by rw [ptrim_length,ptrim_length];have:=plen_le (psq a b);have:=plen_le ub;have:=Lq.out;have:=Lub.out;omega) Yf.out Y4.out
 obtain ⟨t5,t6,t7,t8⟩:=sub_ok (q:=ptrim (psq a b)) (g:=ptrim vb) (p:=va) (c:=fac) (fun k=>by rw [ptrim_getD];exact Y2.out k) (fun k=>by rw [ptrim_getD];exact Y8.out k) (by rw [ptrim_length,ptrim_length];have:=plen_le (psq a b);have:=plen_le vb;have:=Lq.out;have:=Lvb.out;omega) Yf.out Y5.out
 have T:=Lib.hid (And.intro (And.intro t1 (And.intro t2 (And.intro t3 t4))) (And.intro t5 (And.intro t6 (And.intro t7 t8))))
 clear t1 t2 t3 t4 t5 t6 t7 t8
 (refine wpAnyH_ready (rs:=[3]) (by kernel_rfl) (by simp) ?_;refine AllReadyH.cons rfl (fun K hK=>?_) AllReadyH.nil;go_simp)
 refine (scale_any ikN _ _ _ ua _ _ _ _ fac _ (HUA.out.below ikN Bel.go) (HFc.out.hz.below Bel.go) Y4.out.smp Yf.out.sm (fun _=>trivial) (psc_sm Yf.out Y4.out) (by omega)).mono ?_
 rintro e w5 ⟨A6,l6,c6,rfl,h6,hb5⟩
 have l6b:l6≤20:=by rw [← h6.length,ptrim_length];have:=plen_le (psc fac ua);have e1:(psc fac ua).length=ua.length:=(by unfold psc;rw [List.length_map]);have:=HUA.out.length;omega
 have H6:=Lib.hid h6
 have G5:Hid (Below W4.heap.size W4 w5):=Lib.hid (Below.trans Bel.go (hb5.mono (by simp<;>omega)))
 clear h6
 obtain ⟨hcx,hfx⟩:=bcellS hb5;refine hK.out _ _ ?_ (fun _=>?_);(focus (((try dsimp only);repeat' apply And.intro)<;>(rw [hcx _ (by go_simp)];go_simp)));clear hHeld hK K hcx hfx;rename_i hHeld;clear hb5
 (refine wpAnyH_ready (rs:=[7]) (by kernel_rfl) (by simp) ?_;refine AllReadyH.cons rfl (fun K hK=>?_) AllReadyH.nil;go_simp)
 refine (polymul_any ikN ikN _ _ _ (psq a b) _ _ _ ub _ ((HQ.out.below ikN G5.out).below ikN Bel.go) ((HUB.out.below ikN G5.out).below ikN Bel.go) Y2.out Y7.out (by have:=HQ.out.length;have:=Lq.out;omega) (by omega)).mono ?_
 rintro e w6 ⟨A7,l7,c7,rfl,h7,hb6⟩
 have l7b:l7≤40:=by rw [← h7.length];unfold polymul;split;(· exact Nat.zero_le _);(· rw [pmul_length,ptrim_length,ptrim_length];have:=plen_le (psq a b);have:=plen_le ub;have:=Lq.out;have:=Lub.out;omega)
 have H67:=Lib.hid (H6.out.below ikN (show Below w5.heap.size w5 w6 from (Below.trans Bel.go (hb6.mono (by simp<;>omega)))))
 have H7:=Lib.hid h7
 have G6:Hid (Below W4.heap.size W4 w6):=Lib.hid (G5.out.trans ((show Below w5.heap.size w5 w6 from (Below.trans Bel.go (hb6.mono (by simp<;>omega)))).mono G5.out.size))
 clear h7
 obtain ⟨hcx,hfx⟩:=bcellS hb6;refine hK.out _ _ ?_ (fun _=>?_);(focus (((try dsimp only);repeat' apply And.intro)<;>(rw [hcx _ (by go_simp)];go_simp)));clear hHeld hK K hcx hfx;rename_i hHeld;clear hb6
 (refine wpAnyH_ready (rs:=[8]) (by kernel_rfl) (by simp) ?_;refine AllReadyH.cons rfl (fun K hK=>?_) AllReadyH.nil;go_simp)
 refine (polysub_any ikN ikN _ _ _ (ptrim (psc fac ua)) _ _ _ (polymul (ptrim (psq a b)) (ptrim ub)) _ (H67.out.below ikN Bel.go) (H7.out.below ikN Bel.go) T.out.1.2.1 T.out.1.1 T.out.1.2.2.1 (by omega) (by omega)).mono ?_
 rintro e w7 ⟨A8,l8,c8,rfl,h8,hb7⟩
 have hu:ptrim (psub (ptrim (psc fac ua)) (polymul (ptrim (psq a b)) (ptrim ub)))=xun a b ua ub:=by rw [Hfac.out,Hkk.out];rfl
 rw [hu] at h8
 have SU:=Lib.hid (show SmP (xun a b ua ub) by rw [← hu];exact T.out.1.2.2.2)
 have H8:=Lib.hid h8
 have G7:Hid (Below W4.heap.size W4 w7):=Lib.hid (G6.out.trans ((show Below w6.heap.size w6 w7 from (Below.trans Bel.go (hb7.mono (by simp<;>omega)))).mono G6.out.size))
 clear h8 hu
 obtain ⟨hcx,hfx⟩:=bcellS hb7;refine hK.out _ _ ?_ (fun _=>?_);(focus (((try dsimp only);repeat' apply And.intro)<;>(rw [hcx _ (by go_simp)];go_simp)));clear hHeld hK K hcx hfx;rename_i hHeld;clear hb7
 (refine tk (i:=9) (v:=?_) rfl rfl (Or.inl ⟨by rfl,?_⟩) ?_;rotate_left;(focus (intro w hSw;(try dsimp only at hSw);go_simp;(try with_reducible rfl)));(simp only [put_lit,List.set]))
 refine wpAnyH_done (by kernel_rfl) ?_ _
 clear hHeld H6 H67 H7 G5 G6 f0 f1 b2 a2
 replace HQ:=Lib.hid (HQ.out.below ikN G7.out)
 replace HR:=Lib.hid (HR.out.below ikN G7.out)
 replace HVA:=Lib.hid (HVA.out.below ikN G7.out)
 replace HVB:=Lib.hid (HVB.out.below ikN G7.out)
 replace HG:=Lib.hid (HG.out.below G7.out HG.out.lt)
 replace HFc:=Lib.hid (HFc.out.move G7.out)
 replace Hb4:=Lib.hid (Hb4.out.trans (G7.out.mono Hb4.out.size))
 have a3:=(G7.out.cell (p:=⟨w.heap.size,2,none⟩) (by simp;omega)).trans a3
 have b3:=(G7.out.cell (p:=⟨w.heap.size+1,2,none⟩) (by simp;omega)).trans b3
 have f0:=HFc.out.c0
 have f1:=HFc.out.c1
 have hgl:=HFc.out.lt
 clear G7 HUA HUB
 obtain ⟨W5,hW5⟩:∃ W5,W5=w7:=⟨_,rfl⟩
 rw [← hW5] at HQ HR HVA HVB HFc Hb4 HG a3 b3 f0 f1 hgl H8 ⊢
 clear hW5
 go_wp2_with fail
 refine wp_region_held_drew (S:=fun w'=>(w'.cell? ⟨w.heap.size,2,none⟩=some (.slice A3 l3 c3)∧w'.cell? ⟨w.heap.size+1,2,none⟩=some (.slice B3 m3 d3))∧w'.cell? ⟨gf,0,none⟩=some (.bool n3)∧w'.cell? ⟨gf,1,none⟩=some (.slice A5 l5 c5)) (by kernel_rfl) (by (try dsimp only);go_keep) (fun hHeld=>?_)
 (refine tk (i:=0) (v:=?_) rfl rfl (Or.inl ⟨by rfl,?_⟩) ?_;rotate_left;(focus (intro w hSw;(try dsimp only at hSw);go_simp;(try with_reducible rfl)));(simp only [put_lit,List.set]))
 (refine tk (i:=1) (v:=?_) rfl rfl (Or.inl ⟨by rfl,?_⟩) ?_;rotate_left;(focus (intro w hSw;(try dsimp only at hSw);go_simp;(try with_reducible rfl)));(simp only [put_lit,List.set]))
 (refine tk (i:=2) (v:=?_) rfl rfl (Or.inl ⟨by rfl,?_⟩) ?_;rotate_left;(focus (intro w hSw;(try dsimp only at hSw);go_simp;(try with_reducible rfl)));(simp only [put_lit,List.set]))
 (refine tk (i:=4) (v:=?_) rfl rfl (Or.inl ⟨by rfl,?_⟩) ?_;rotate_left;(focus (intro w hSw;(try dsimp only at hSw);go_simp;(try with_reducible rfl)));(simp only [put_lit,List.set]))
 (refine tk (i:=5) (v:=?_) rfl rfl (Or.inl ⟨by rfl,?_⟩) ?_;rotate_left;(focus (intro w hSw;(try dsimp only at hSw);go_simp;(try with_reducible rfl)));(simp only [put_lit,List.set]))
 (refine tk (i:=6) (v:=?_) rfl rfl (Or.inl ⟨by rfl,?_⟩) ?_;rotate_left;(focus (intro w hSw;(try dsimp only at hSw);go_simp;(try with_reducible rfl)));(simp only [put_lit,List.set]))
 (refine wpAnyH_ready (rs:=[3]) (by kernel_rfl) (by simp) ?_;refine AllReadyH.cons rfl (fun K hK=>?_) AllReadyH.nil;go_simp)
 refine (scale_any ikN _ _ _ va _ _ _ _ fac _ (HVA.out.below ikN Bel.go) (HFc.out.hz.below Bel.go) Y5.out.smp Yf.out.sm (fun _=>trivial) (psc_sm Yf.out Y5.out) (by omega)).mono ?_
 rintro e w8 ⟨A9,l9,c9,rfl,h9,hb8⟩
 have l9b:l9≤20:=by rw [← h9.length,ptrim_length];have:=plen_le (psc fac va);have e1:(psc fac va).length=va.length:=(by unfold psc;rw [List.length_map]);have:=HVA.out.length;omega
 have H9:=Lib.hid h9
 have G8:Hid (Below W5.heap.size W5 w8):=Lib.hid (Below.trans Bel.go (hb8.mono (by simp<;>omega)))
 clear h9
 obtain ⟨hcx,hfx⟩:=bcellS hb8;refine hK.out _ _ ?_ (fun _=>?_);(focus (((try dsimp only);repeat' apply And.intro)<;>(rw [hcx _ (by go_simp)];go_simp)));clear hHeld hK K hcx hfx;rename_i hHeld;clear hb8
 (refine wpAnyH_ready (rs:=[7]) (by kernel_rfl) (by simp) ?_;refine AllReadyH.cons rfl (fun K hK=>?_) AllReadyH.nil;go_simp)
 refine (polymul_any ikN ikN _ _ _ (psq a b) _ _ _ vb _ ((HQ.out.below ikN G8.out).below ikN Bel.go) ((HVB.out.below ikN G8.out).below ikN Bel.go) Y2.out Y8.out (by have:=HQ.out.length;have:=Lq.out;omega) (by omega)).mono ?_
 rintro e w9 ⟨A10,l10,c10,rfl,h10,hb9⟩
 have l10b:l10≤40:=by rw [← h10.length];unfold polymul;split;(· exact Nat.zero_le _);(· rw [pmul_length,ptrim_length,ptrim_length];have:=plen_le (psq a b);have:=plen_le vb;have:=Lq.out;have:=Lvb.out;omega)
 have H910:=Lib.hid (H9.out.below ikN (show Below w8.heap.size w8 w9 from (Below.trans Bel.go (hb9.mono (by simp<;>omega)))))
 have H10:=Lib.hid h10
 have G9:Hid (Below W5.heap.size W5 w9):=Lib.hid (G8.out.trans ((show Below w8.heap.size w8 w9 from (Below.trans Bel.go (hb9.mono (by simp<;>omega)))).mono G8.out.size))
 clear h10
 obtain ⟨hcx,hfx⟩:=bcellS hb9;refine hK.out _ _ ?_ (fun _=>?_);(focus (((try dsimp only);repeat' apply And.intro)<;>(rw [hcx _ (by go_simp)];go_simp)));clear hHeld hK K hcx hfx;rename_i hHeld;clear hb9
 (refine wpAnyH_ready (rs:=[8]) (by kernel_rfl) (by simp) ?_;refine AllReadyH.cons rfl (fun K hK=>?_) AllReadyH.nil;go_simp)
 refine (polysub_any ikN ikN _ _ _ (ptrim (psc fac va)) _ _ _ (polymul (ptrim (psq a b)) (ptrim vb)) _ (H910.out.below ikN Bel.go) (H10.out.below ikN Bel.go) T.out.2.2.1 T.out.2.1 T.out.2.2.2.1 (by omega) (by omega)).mono ?_
 rintro e w10 ⟨A11,l11,c11,rfl,h11,hb10⟩
 have hv:ptrim (psub (ptrim (psc fac va)) (polymul (ptrim (psq a b)) (ptrim vb)))=xun a b va vb:=by rw [Hfac.out,Hkk.out];rfl
 rw [hv] at h11
 have SV:=Lib.hid (show SmP (xun a b va vb) by rw [← hv];exact T.out.2.2.2.2)
 have H11:=Lib.hid h11
 have G10:Hid (Below W5.heap.size W5 w10):=Lib.hid (G9.out.trans ((show Below w9.heap.size w9 w10 from (Below.trans Bel.go (hb10.mono (by simp<;>omega)))).mono G9.out.size))
 clear h11 hv
 obtain ⟨hcx,hfx⟩:=bcellS hb10;refine hK.out _ _ ?_ (fun _=>?_);(focus (((try dsimp only);repeat' apply And.intro)<;>(rw [hcx _ (by go_simp)];go_simp)));clear hHeld hK K hcx hfx;rename_i hHeld;clear hb10
 (refine tk (i:=9) (v:=?_) rfl rfl (Or.inl ⟨by rfl,?_⟩) ?_;rotate_left;(focus (intro w hSw;(try dsimp only at hSw);go_simp;(try with_reducible rfl)));(simp only [put_lit,List.set]))
 refine wpAnyH_done (by kernel_rfl) ?_ _
 clear hHeld H9 H910 H10 G8 G9 f0 f1 a3 b3
 replace HR:=Lib.hid (HR.out.below ikN G10.out)
 replace H8:=Lib.hid (H8.out.below ikN G10.out)
 replace HG:=Lib.hid (HG.out.below G10.out HG.out.lt)
 replace Hb4:=Lib.hid (Hb4.out.trans (G10.out.mono Hb4.out.size))
 clear G10 HVA HVB HFc HQ
 obtain ⟨W6,hW6⟩:∃ W6,W6=w10:=⟨_,rfl⟩
 rw [← hW6] at HR H8 H11 Hb4 HG ⊢
 clear hW6
 have SR:=Lib.hid (psr_sm Y2.out Y6.out Y3.out (by rw [Hkk.out] at Y1k;exact Y1k.out) B0.out (by have:=Lq.out;have:=Hlb.out;omega))
 have C0:=Lib.hid (HX.out.cont)
 obtain ⟨xc,hxc⟩:∃ xc,xc=xcont a ua va b ub vb:=⟨_,rfl⟩
 rw [← hxc] at C0
 have Hxc:=Lib.hid hxc
 have lr1:r1≤40:=by rw [← HR.out.length];have:=psr_len a b;have:=Hla.out;omega
 have lu1:l8≤40:=by rw [← H8.out.length];exact xun_len2 Lq.out Lub.out Lua.out
 have lv1:l11≤40:=by rw [← H11.out.length];exact xun_len2 Lq.out Lvb.out Lva.out
 go_wp2_with fail
 have hb6:Below W6.heap.size W6 (W6.alloc (.cells #[.slice R1 r1 z1,.slice A8 l8 c8,.slice A11 l11 c11] 23)):=(Below.refl _ _).alloc (Nat.le_refl _) _
 refine (contents_any _ 3 3 [psr a b,xun a b ua ub,xun a b va vb] _ (PLst.three HR.out H8.out H11.out) ?_ ?_ (by omega)).mono ?_
 ·intro p hp
  rcases List.mem_cons.1 hp with rfl | hp
  ·exact SR.out
  rcases List.mem_cons.1 hp with rfl | hp
  ·exact SU.out
  rcases List.mem_cons.1 hp with rfl | hp
  ·exact SV.out
  ·cases hp
 ·intro p hp
  rcases List.mem_cons.1 hp with rfl | hp
  ·rw [HR.out.length];omega
  rcases List.mem_cons.1 hp with rfl | hp
  ·rw [H8.out.length];omega
  rcases List.mem_cons.1 hp with rfl | hp
  ·rw [H11.out.length];omega
  ·cases hp
 rintro e w11 ⟨n4,A12,l12,c12,rfl,h12,hb11⟩
 have hpc:pconts 0 [psr a b,xun a b ua ub,xun a b va vb]=xc:=by rw [hxc];show Nat.gcd (Nat.gcd (Nat.gcd 0 _) _) _=_;rw [Nat.gcd_zero_left];rfl
 rw [hpc] at h12
 have SC:=Lib.hid (show SmI (xc:Int) by
  have h1:Sm (pconts 0 [psr a b,xun a b ua ub,xun a b va vb]):=sm_gcd (sm_gcd (sm_gcd (by show dlen 0≤_;rw [dlen_zero];omega) (pcont_sm SR.out)) (pcont_sm SU.out)) (pcont_sm SV.out)
  rw [hpc] at h1
  exact h1)
 have hb12:=hb6.trans (hb11.mono hb6.size)
 have H12:=Lib.hid h12
 have B12:=Lib.hid hb12
 have B11s:=hb12.size
 clear h12 hb12 hb6 hb11 hpc hxc
 go_wp2_with fail
 obtain ⟨gc,hgc⟩:∃ gc,gc=w11.heap.size:=⟨_,rfl⟩
 obtain ⟨W7,hW7⟩:∃ W7,W7=w11.alloc (ibox n4 A12 l12 c12):=⟨_,rfl⟩
 have hgc2:w.heap.size+1+1<gc:=by have:=HG.out.lt;omega
 have hb7:Below w11.heap.size w11 W7:=by rw [hW7];exact (Below.refl _ _).alloc (Nat.le_refl _) _
 have HC:=Lib.hid (show IBox W7 gc n4 A12 l12 c12 (xc:Int) by rw [hW7,hgc];exact IBox.make H12.out)
 rw [← hW7,← hgc]
 have G7:=Lib.hid (B12.out.trans (hb7.mono B12.out.size))
 replace HR:=Lib.hid (HR.out.below ikN G7.out)
 replace H8:=Lib.hid (H8.out.below ikN G7.out)
 replace H11:=Lib.hid (H11.out.below ikN G7.out)
 replace Hb4:=Lib.hid (Hb4.out.trans (G7.out.mono Hb4.out.size))
 have hg4:=Hb4.out.size
 have hg7:=G7.out.size
 replace HG:=Lib.hid (HG.out.below G7.out HG.out.lt)
 have hg0:=HG.out.lt
 have d0:=HC.out.c0
 have d1:=HC.out.c1
 have hcl:=HC.out.lt
 clear hb7 hW7 hgc H12 B12 G7
 refine wp_region_held_drew (S:=fun w'=>w'.cell? ⟨gc,0,none⟩=some (.bool n4)∧w'.cell? ⟨gc,1,none⟩=some (.slice A12 l12 c12)) (by kernel_rfl) (by (try dsimp only);go_keep) (fun hHeld=>?_)
 (refine tk (i:=0) (v:=?_) rfl rfl (Or.inl ⟨by rfl,?_⟩) ?_;rotate_left;(focus (intro w hSw;(try dsimp only at hSw);go_simp;(try with_reducible rfl)));(simp only [put_lit,List.set]))
 (refine tk (i:=1) (v:=?_) rfl rfl (Or.inl ⟨by rfl,?_⟩) ?_;rotate_left;(focus (intro w hSw;(try dsimp only at hSw);go_simp;(try with_reducible rfl)));(simp only [put_lit,List.set]))
 (refine tk (i:=3) (v:=?_) rfl rfl (Or.inl ⟨by rfl,?_⟩) ?_;rotate_left;(focus (intro w hSw;(try dsimp only at hSw);go_simp;(try with_reducible rfl)));(simp only [put_lit,List.set]))
 (refine tk (i:=4) (v:=?_) rfl rfl (Or.inl ⟨by rfl,?_⟩) ?_;rotate_left;(focus (intro w hSw;(try dsimp only at hSw);go_simp;(try with_reducible rfl)));(simp only [put_lit,List.set]))
 (refine tk (i:=6) (v:=?_) rfl rfl (Or.inl ⟨by rfl,?_⟩) ?_;rotate_left;(focus (intro w hSw;(try dsimp only at hSw);go_simp;(try with_reducible rfl)));(simp only [put_lit,List.set]))
 (refine tk (i:=7) (v:=?_) rfl rfl (Or.inl ⟨by rfl,?_⟩) ?_;rotate_left;(focus (intro w hSw;(try dsimp only at hSw);go_simp;(try with_reducible rfl)));(simp only [put_lit,List.set]))
 (refine wpAnyH_ready (rs:=[2]) (by kernel_rfl) (by simp) ?_;refine AllReadyH.cons rfl (fun K hK=>?_) AllReadyH.nil;go_simp)
 refine (over_any ikN _ _ _ (psr a b) _ _ _ _ (xc:Int) _ (HR.out.below ikN Bel.go) (HC.out.hz.below Bel.go) SR.out SC.out (by have:=C0.out;omega) (by omega)).mono ?_
 rintro e v1 ⟨g1,rfl,p1,q1,hb13⟩
 have P1:=Lib.hid p1
 have G1:Hid (Below W7.heap.size W7 v1):=Lib.hid (Below.trans Bel.go (hb13.mono (by simp<;>omega)))
 have q1:W7.heap.size≤g1:=by (try simp at q1);omega
 clear p1
 obtain ⟨hcx,hfx⟩:=bcellS hb13;refine hK.out _ _ ?_ (fun _=>?_);(focus (((try dsimp only);repeat' apply And.intro)<;>(rw [hcx _ (by go_simp)];go_simp)));clear hHeld hK K hcx hfx;rename_i hHeld;clear hb13
 (refine wpAnyH_ready (rs:=[5]) (by kernel_rfl) (by simp) ?_;refine AllReadyH.cons rfl (fun K hK=>?_) AllReadyH.nil;go_simp)
 refine (over_any ikN _ _ _ (xun a b ua ub) _ _ _ _ (xc:Int) _ ((H8.out.below ikN G1.out).below ikN Bel.go) ((HC.out.hz.below G1.out).below Bel.go) SU.out SC.out (by have:=C0.out;omega) (by omega)).mono ?_
 rintro e v2 ⟨g2,rfl,p2,q2,hb14⟩
 replace P1:=Lib.hid (P1.out.below (show Below v1.heap.size v1 v2 from (Below.trans Bel.go (hb14.mono (by simp<;>omega)))))
 have P2:=Lib.hid p2
 have G2:Hid (Below W7.heap.size W7 v2):=Lib.hid (G1.out.trans ((show Below v1.heap.size v1 v2 from (Below.trans Bel.go (hb14.mono (by simp<;>omega)))).mono G1.out.size))
 have q2:W7.heap.size≤g2:=by have:=G1.out.size;(try simp at q2);omega
 clear p2
 obtain ⟨hcx,hfx⟩:=bcellS hb14;refine hK.out _ _ ?_ (fun _=>?_);(focus (((try dsimp only);repeat' apply And.intro)<;>(rw [hcx _ (by go_simp)];go_simp)));clear hHeld hK K hcx hfx;rename_i hHeld;clear hb14
 (refine wpAnyH_ready (rs:=[8]) (by kernel_rfl) (by simp) ?_;refine AllReadyH.cons rfl (fun K hK=>?_) AllReadyH.nil;go_simp)
 refine (over_any ikN _ _ _ (xun a b va vb) _ _ _ _ (xc:Int) _ ((H11.out.below ikN G2.out).below ikN Bel.go) ((HC.out.hz.below G2.out).below Bel.go) SV.out SC.out (by have:=C0.out;omega) (by omega)).mono ?_
 rintro e v3 ⟨g3,rfl,p3,q3,hb15⟩
 replace P1:=Lib.hid (P1.out.below (show Below v2.heap.size v2 v3 from (Below.trans Bel.go (hb15.mono (by simp<;>omega)))))
 replace P2:=Lib.hid (P2.out.below (show Below v2.heap.size v2 v3 from (Below.trans Bel.go (hb15.mono (by simp<;>omega)))))
 have P3:=Lib.hid p3
 have G3:Hid (Below W7.heap.size W7 v3):=Lib.hid (G2.out.trans ((show Below v2.heap.size v2 v3 from (Below.trans Bel.go (hb15.mono (by simp<;>omega)))).mono G2.out.size))
 have q3:W7.heap.size≤g3:=by have:=G2.out.size;(try simp at q3);omega
 clear p3
 obtain ⟨hcx,hfx⟩:=bcellS hb15;refine hK.out _ _ ?_ (fun _=>?_);(focus (((try dsimp only);repeat' apply And.intro)<;>(rw [hcx _ (by go_simp)];go_simp)));clear hHeld hK K hcx hfx;rename_i hHeld;clear hb15
 (refine tk (i:=9) (v:=?_) rfl rfl (Or.inl ⟨by rfl,?_⟩) ?_;rotate_left;(focus (intro w hSw;(try dsimp only at hSw);go_simp;(try with_reducible rfl)));(simp only [put_lit,List.set]))
 replace HG:=Lib.hid (HG.out.below G3.out HG.out.lt)
 replace Hb4:=Lib.hid (Hb4.out.trans (G3.out.mono Hb4.out.size))
 have k0:v3.cell? ⟨w.heap.size+1+1,0,none⟩=some (.slice none 0 0):=HG.out.cell 0
 have k1:v3.cell? ⟨w.heap.size+1+1,1,none⟩=some (.slice none 0 0):=HG.out.cell 1
 have k2:v3.cell? ⟨w.heap.size+1+1,2,none⟩=some (.slice none 0 0):=HG.out.cell 2
 have q0':=(HC.out.move G3.out).c0
 have q1':=(HC.out.move G3.out).c1
 have m0:=HG.out.frozen 0
 have m1':=HG.out.frozen 1
 have m2':=HG.out.frozen 2
 have x1:=P1.out.put3 k0 k1 k2 (by omega) (.slice (some ⟨g1,0,none⟩) (plen (psr a b)) (plen (psr a b))) (.slice (some ⟨g2,0,none⟩) (plen (xun a b ua ub)) (plen (xun a b ua ub))) (.slice (some ⟨g3,0,none⟩) (plen (xun a b va vb)) (plen (xun a b va vb)))
 have x2:=P2.out.put3 k0 k1 k2 (by omega) (.slice (some ⟨g1,0,none⟩) (plen (psr a b)) (plen (psr a b))) (.slice (some ⟨g2,0,none⟩) (plen (xun a b ua ub)) (plen (xun a b ua ub))) (.slice (some ⟨g3,0,none⟩) (plen (xun a b va vb)) (plen (xun a b va vb)))
 have x3:=P3.out.put3 k0 k1 k2 (by omega) (.slice (some ⟨g1,0,none⟩) (plen (psr a b)) (plen (psr a b))) (.slice (some ⟨g2,0,none⟩) (plen (xun a b ua ub)) (plen (xun a b ua ub))) (.slice (some ⟨g3,0,none⟩) (plen (xun a b va vb)) (plen (xun a b va vb)))
 have X1:=Lib.hid (xdv_poly (psr_ptrim a b) rfl x1)
 have X2:=Lib.hid (xdv_poly (xun_trim a b ua ub) rfl x2)
 have X3:=Lib.hid (xdv_poly (xun_trim a b va vb) rfl x3)
 have hwv:w.heap.size≤w.heap.size+1+1:=by omega
 have XB:=Lib.hid (((Hb4.out.setCell (p:=⟨w.heap.size+1+1,0,none⟩) hwv (.slice (some ⟨g1,0,none⟩) (plen (psr a b)) (plen (psr a b)))).setCell (p:=⟨w.heap.size+1+1,1,none⟩) hwv (.slice (some ⟨g2,0,none⟩) (plen (xun a b ua ub)) (plen (xun a b ua ub)))).setCell (p:=⟨w.heap.size+1+1,2,none⟩) hwv (.slice (some ⟨g3,0,none⟩) (plen (xun a b va vb)) (plen (xun a b va vb))))
 clear x1 x2 x3 P1 P2 P3 HG G1 G2 G3
 refine wpAnyH_ready (rs:=[10]) (by kernel_rfl) (by simp) ?_
 refine AllReadyH.cons rfl (fun K hK=>?_) AllReadyH.nil;go_simp
 refine hK.out _ _ ?_ (fun _=>?_)
 ·refine ⟨?_,?_⟩
  ·rw [World.cell?_setCell_other _ _ _ _ (by intro e;injection e with e _;omega),World.cell?_setCell_other _ _ _ _ (by intro e;injection e with e _;omega),World.cell?_setCell_other _ _ _ _ (by intro e;injection e with e _;omega)];exact q0'
  ·rw [World.cell?_setCell_other _ _ _ _ (by intro e;injection e with e _;omega),World.cell?_setCell_other _ _ _ _ (by intro e;injection e with e _;omega),World.cell?_setCell_other _ _ _ _ (by intro e;injection e with e _;omega)];exact q1'
 clear hHeld hK K
 refine wpAnyH_done (by kernel_rfl) ?_ _
 go_wp2
 refine bodyPost_ret (v:=.agg #[.slice (some ⟨g1,0,none⟩) (plen (psr a b)) (plen (psr a b)),.slice (some ⟨g2,0,none⟩) (plen (xun a b ua ub)) (plen (xun a b ua ub)),.slice (some ⟨g3,0,none⟩) (plen (xun a b va vb)) (plen (xun a b va vb))]) (by simp [results,Try.results37,go_sem,k0,k1,k2]) rfl ⟨_,_,_,_,_,_,_,_,_,rfl,by rw [← Hxc.out];exact X1.out,by rw [← Hxc.out];exact X2.out,by rw [← Hxc.out];exact X3.out,XB.out⟩
end Go.Proofs.Ytjmglmgokfcgoaa
