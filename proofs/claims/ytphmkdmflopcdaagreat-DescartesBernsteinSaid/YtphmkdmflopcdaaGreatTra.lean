/- The walk of descartes.transform. -/
import Derived.Test.YtphmkdmflopcdaaGreatCmd
import Derived.Test.YtphmkdmflopcdaaGreatFre
import Derived.Test.YtphmkdmflopcdaaGreatPow
import Derived.Test.YtphmkdmflopcdaaGreatAwl
namespace Go.Proofs.YtphmkdmflopcdaaGreat
open Go.RowKit
def trs (f:List Int) (P Q D:Int):Nat->List Int×List Int×Int
 | 0=>([f.getD (f.length-1) 0],[1],1)
 | k+1 =>
   let s:=trs f P Q D k
   (ptrim (padd (polymul (ptrim s.1) (ptrim [P,Q])) (ptrim (psc (f.getD (f.length-2-k) 0) (polymul (ptrim s.2.1) (ptrim [D,D]))))),polymul (ptrim s.2.1) (ptrim [D,D]),s.2.2*D)
def TrOK (f:List Int) (P Q D:Int):Prop:=Fit P/\Fit Q/\Fit D/\∀ k,k<f.length->FitP (trs f P Q D k).1/\FitP (trs f P Q D k).2.1/\Fit (trs f P Q D k).2.2/\(trs f P Q D k).1.length<=900000/\(trs f P Q D k).2.1.length<=900000
theorem poly_twot {w:World} {n n':Bool} {A A':Option Addr} {l c l' c':Nat} {z z':Int} (h:IntN w n A l c z) (h':IntN w n' A' l' c' z'):PolyN (w.alloc (.cells #[.bool n,.slice A l c,.bool n',.slice A' l' c'] 33)) (some ⟨w.heap.size,0,none⟩) 2 2 [z,z']:=by
 have hb:=below_new w (.cells #[.bool n,.slice A l c,.bool n',.slice A' l' c'] 33)
 refine ⟨rfl,Nat.le_refl _,.inr ⟨w.heap.size,0,rfl,by simp,fun j hj=>?_⟩⟩
 match j,hj with
 | 0,_=>exact ⟨n,A,l,c,by go_simp,by go_simp,h.below hb⟩
 | 1,_=>exact ⟨n',A',l',c',by go_simp,by go_simp,h'.below hb⟩
def OffB (g:Nat) (A:Option Addr) (l:Nat):Prop:=l=0∨∃ b o,A=some ⟨b,o,none⟩/\b≠g
theorem PolyP.elem {w:World} {b o len cap:Nat} {p:List Int} (h:PolyN w (some ⟨b,o,none⟩) len cap p) {j:Nat} (hj:j<len):b<w.heap.size/\∃ neg A l c,w.cell? ⟨b,o+j*2,none⟩=some (.bool neg)/\w.cell? ⟨b,o+j*2+1,none⟩=some (.slice A l c)/\IntN w neg A l c (p.getD j 0):=by
 obtain ⟨b',o',e,hb,hc⟩:=h.get (by omega)
 injection e with e
 injection e with e1 e2 e3
 subst e1 e2
 exact ⟨hb,hc j hj⟩
theorem lt_fw {x:Nat} (h:x<BB^64):x<BB^FW:=Nat.lt_of_lt_of_le h (Nat.pow_le_pow_right BB_pos (by rw[FW_eq];decide))
theorem add_ok {q g p:List Int} {c:Int} (hq:FitP q) (hg:FitP g) (hl:q.length+g.length<=1000000) (hc:Fit c) (hp:FitP p):SmP (polymul q g)/\SmP (psc c p)/\SmP (ptrim (psc c p))/\∀ k,Sm (((polymul q g).getD k 0).natAbs+((ptrim (psc c p)).getD k 0).natAbs):=by
 have h1:Bd (1000000*BB^(FW+FW)) (polymul q g):=polymul_bd hq hg 1000000 hl
 have h2:Bd (BB^(FW+FW)) (psc c p):=fun k=>by
  rw[psc_get]
  exact Nat.le_of_lt (hc.mul (hp k))
 have h3:1000000*BB^(FW+FW)<BB^(FW+FW+1):=mulpow_lt (Nat.le_refl _)
 have h4:BB^(FW+FW)<BB^(FW+FW+1):=by have:=mulpow_lt (n:=1) (k:=FW+FW) (by omega);omega
 have h5:FW+FW+2<=1000000000:=by rw[FW_eq];omega
 refine ⟨h1.smp h3 (by omega),h2.smp h4 (by omega),h2.ptrim.smp h4 (by omega),fun k=>sm_pow (k:=FW+FW+2) ?_ h5⟩
 have a1:=h1 k
 have a2:=h2.ptrim k
 have a3:2*BB^(FW+FW+1)<BB^(FW+FW+2):=mulpow_lt (by omega)
 omega
set_option maxRecDepth 100000 in
set_option maxHeartbeats 8000000 in
theorem transform_all (Af:Option Addr) (lf cf:Nat) (f:List Int) (n:Bool) (A:Option Addr) (l c:Nat) (B:Option Addr) (m d q:Nat) (z:Int) (n':Bool) (A':Option Addr) (l' c':Nat) (B':Option Addr) (m' d' q':Nat) (z':Int) (w:World) (hf:PolyN w Af lf cf f) (tf:plen f=f.length) (f1:1<=f.length) (hfm:lf<=1000000) (fitf:FitP f)
  (hz:IntN w n A l c z) (hq:NatN w B m d q) (hz':IntN w n' A' l' c' z') (hq':NatN w B' m' d' q') (hu:Fit z) (hv:Fit (q:Int)) (h0:0<q) (hu':Fit z') (hv':Fit (q':Int)) (h0':0<q') (P Q D:Int) (a b:Nat) (ea:a=q / Nat.gcd z.natAbs q) (eb:b=q' / Nat.gcd z'.natAbs q')
  (eD:D=lcd a b) (eP:P=z.tdiv (Nat.gcd z.natAbs q)*(lcd a b).tdiv (a:Int)) (eQ:Q=z'.tdiv (Nat.gcd z'.natAbs q')*(lcd a b).tdiv (b:Int)) (hok:TrOK f P Q D) :
  Calls Tryz.prog 24 #[.slice Af lf cf,.agg #[.bool n,.slice A l c,.slice B m d],.agg #[.bool n',.slice A' l' c',.slice B' m' d']] w fun e w'=>∃ A1 l1 c1 n2 A2 l2 c2,e=.returned (.tuple #[.slice A1 l1 c1,.agg #[.bool n2,.slice A2 l2 c2]])/\PolyN w' A1 l1 c1 (trs f P Q D (f.length-1)).1/\IntN w' n2 A2 l2 c2 (trs f P Q D (f.length-1)).2.2/\Below w.heap.size w w':=by
 obtain ⟨fP,fQ,fD,hst⟩:=hok
 have hfD:Fit (lcd (q / Nat.gcd z.natAbs q) (q' / Nat.gcd z'.natAbs q')):=by rw[<- ea,<- eb,<- eD];exact fD
 obtain ⟨S,hS⟩:∃ S,S=trs f P Q D:=⟨_,rfl⟩
 have S0:Hid (S 0=([f.getD (f.length-1) 0],[1],1)):=Lh (by rw[hS];rfl)
 have SS:Hid (∀ k,S (k+1)=(ptrim (padd (polymul (ptrim (S k).1) (ptrim [P,Q])) (ptrim (psc (f.getD (f.length-2-k) 0) (polymul (ptrim (S k).2.1) (ptrim [D,D]))))),polymul (ptrim (S k).2.1) (ptrim [D,D]),(S k).2.2*D)):=Lh (fun k=>by rw[hS];rfl)
 have SF:Hid (∀ k,k<f.length->FitP (S k).1/\FitP (S k).2.1/\Fit (S k).2.2/\(S k).1.length<=900000/\(S k).2.1.length<=900000):=Lh (by rw[hS];exact hst)
 rw[<- hS]
 obtain ⟨V1,hV1⟩:∃ V,V=(S (f.length-1)).1:=⟨_,rfl⟩
 obtain ⟨V2,hV2⟩:∃ V,V=(S (f.length-1)).2.2:=⟨_,rfl⟩
 rw[<- hV1,<- hV2]
 have HV1:=Lh hV1
 have HV2:=Lh hV2
 clear hS hV1 hV2
 have o1:=below_new w (rbox n A l c B m d)
 have o2:=below_new (w.alloc (rbox n A l c B m d)) (rbox n' A' l' c' B' m' d')
 have o3:=below_new ((w.alloc (rbox n A l c B m d)).alloc (rbox n' A' l' c' B' m' d')) (ibox false none 0 0)
 have b3:Below w.heap.size w (((w.alloc (rbox n A l c B m d)).alloc (rbox n' A' l' c' B' m' d')).alloc (ibox false none 0 0)):=(o1.alloc (by simp) _).alloc (by simp;omega) _
 have R1:=((RBox.make hz hq).move o2).move o3
 have R2:=(RBox.make (hz'.below o1) (hq'.below o1)).move o3
 have I7:=IBox.nil ((w.alloc (rbox n A l c B m d)).alloc (rbox n' A' l' c' B' m' d'))
 simp only[World.size_alloc] at R2 I7
 have HF:=Lh (hf.below ikN b3)
 replace R1:=Lh R1
 replace R2:=Lh R2
 replace I7:=Lh I7
 have Hb:=Lh b3
 have hlf:=hf.length
 have EA:=Lh ea
 have EB:=Lh eb
 have ED:=Lh eD
 have EP:=Lh eP
 have EQ:=Lh eQ
 clear o1 o2 o3 b3 hz hq hz' hq' hf ea eb eD eP eQ hst
 go_enter Tryz.func24,Tryz.ntmps24
 go_wp2_with fail
 refine (common_all _ _ _ _ _ _ _ _ _ _ _ _ _ _ _ _ _ _ _ R1.out.hz R1.out.hq R2.out.hz R2.out.hq hu hv h0 hu' hv' h0' hfD).mono ?_
 rintro e w1 ⟨z1,a1,z2,b1,hz1,ha1,hz2,hb1,n1,A1,l1,c1,n2,A2,l2,c2,n3,A3,l3,c3,rfl,h1,h2,h3,hbw⟩
 rw[<- EA.out] at ha1
 rw[<- EB.out] at hb1
 subst ha1 hb1 hz1 hz2
 rw[<- EP.out] at h1
 rw[<- EQ.out] at h2
 rw[<- ED.out] at h3
 replace HF:=Lh (HF.out.below ikN hbw)
 replace I7:=Lh (I7.out.move hbw)
 replace Hb:=Lh (Hb.out.trans (hbw.mono Hb.out.size))
 have H1:=Lh h1
 have H2:=Lh h2
 have H3:=Lh h3
 clear h1 h2 h3 hbw R1 R2
 go_wp2_with fail
 have k1:=below_new w1 (ibox n1 A1 l1 c1)
 have k2:=below_new (w1.alloc (ibox n1 A1 l1 c1)) (ibox n2 A2 l2 c2)
 have k3:=below_new ((w1.alloc (ibox n1 A1 l1 c1)).alloc (ibox n2 A2 l2 c2)) (ibox n3 A3 l3 c3)
 have kb:Below w1.heap.size w1 (((w1.alloc (ibox n1 A1 l1 c1)).alloc (ibox n2 A2 l2 c2)).alloc (ibox n3 A3 l3 c3)):=(k1.alloc (by simp) _).alloc (by simp;omega) _
 have i8:=((IBox.make H1.out).move k2).move k3
 have i9:=(IBox.make (H2.out.below k1)).move k3
 have i10:=IBox.make ((H3.out.below k1).below k2)
 simp only[World.size_alloc] at i9 i10
 have I8:=Lh i8
 have I9:=Lh i9
 have I10:=Lh i10
 have hsz1:w.heap.size+1+1<w1.heap.size:=I7.out.lt
 replace HF:=Lh (HF.out.below ikN kb)
 replace I7:=Lh (I7.out.move kb)
 replace Hb:=Lh (Hb.out.trans (kb.mono Hb.out.size))
 clear k1 k2 k3 kb i8 i9 i10 H1 H2 H3
 obtain ⟨wk,hwk⟩:∃ wk,wk=((w1.alloc (ibox n1 A1 l1 c1)).alloc (ibox n2 A2 l2 c2)).alloc (ibox n3 A3 l3 c3):=⟨_,rfl⟩
 rw[<- hwk] at I7 I8 I9 I10 HF Hb ⊢
 have hszk:wk.heap.size=w1.heap.size+1+1+1:=by rw[hwk];simp
 clear hwk
 refine (degree_any _ _ _ _ _ (HF.out.at_ ikN) fitf.smp (by omega)).mono ?_
 rintro e w2 ⟨rfl,hb2⟩
 obtain ⟨ix,hix⟩:∃ ix:Nat,ix=f.length-1:=⟨_,rfl⟩
 have e0:((plen f:Nat):Int)-1=(ix:Int):=by omega
 rw[e0]
 have hsz2:=hb2.size
 replace HF:=Lh (HF.out.below ikN hb2)
 replace I7:=Lh (I7.out.move hb2)
 replace I8:=Lh (I8.out.move hb2)
 replace I9:=Lh (I9.out.move hb2)
 replace I10:=Lh (I10.out.move hb2)
 replace Hb:=Lh (Hb.out.trans (hb2.mono Hb.out.size))
 clear hb2 e0
 obtain ⟨bf,of,rfl,hbf,hcf⟩:=HF.out.get (by omega)
 have hixl:ix<lf:=by omega
 obtain ⟨ne,Ae,le,ce,f0,f1e,ze⟩:=hcf ix hixl
 have Hcf:=Lh hcf
 have Ze:=Lh ze
 have p0:=I8.out.c0
 have p1:=I8.out.c1
 have q0:=I9.out.c0
 have q1:=I9.out.c1
 have d0:=I10.out.c0
 have d1:=I10.out.c1
 clear hcf ze
 have nb1:w1.heap.size+1+1<w2.heap.size:=by omega
 have nb2:bf<w2.heap.size+1:=by omega
 have Hix:=Lh hix
 clear hix
 go_wp2_with fail
 have L1:=poly_twot I8.out.hz I9.out.hz
 have j1:=below_new w2 (.cells #[.bool n1,.slice A1 l1 c1,.bool n2,.slice A2 l2 c2] 33)
 have hzd:=I10.out.hz.below j1
 have L2:=poly_twot hzd hzd
 have j2:=below_new (w2.alloc (.cells #[.bool n1,.slice A1 l1 c1,.bool n2,.slice A2 l2 c2] 33)) (.cells #[.bool n3,.slice A3 l3 c3,.bool n3,.slice A3 l3 c3] 33)
 have L3:=poly_ibox ((Ze.out.below j1).below j2)
 have j3:=below_new ((w2.alloc (.cells #[.bool n1,.slice A1 l1 c1,.bool n2,.slice A2 l2 c2] 33)).alloc (.cells #[.bool n3,.slice A3 l3 c3,.bool n3,.slice A3 l3 c3] 33)) (ibox ne Ae le ce)
 have j4:=below_new (((w2.alloc (.cells #[.bool n1,.slice A1 l1 c1,.bool n2,.slice A2 l2 c2] 33)).alloc (.cells #[.bool n3,.slice A3 l3 c3,.bool n3,.slice A3 l3 c3] 33)).alloc (ibox ne Ae le ce)) (.cells #[.int .i64 1] 2)
 replace L1:=((L1.below ikN j2).below ikN j3).below ikN j4
 replace L2:=(L2.below ikN j3).below ikN j4
 replace L3:=L3.below ikN j4
 have jb:=((j1.alloc (by simp) (.cells #[.bool n3,.slice A3 l3 c3,.bool n3,.slice A3 l3 c3] 33)).alloc (by simp;omega) (ibox ne Ae le ce)).alloc (by simp;omega) (.cells #[.int .i64 1] 2)
 simp only[World.size_alloc] at L2 L3
 obtain ⟨wd,hwd⟩:∃ wd,wd=(((w2.alloc (.cells #[.bool n1,.slice A1 l1 c1,.bool n2,.slice A2 l2 c2] 33)).alloc (.cells #[.bool n3,.slice A3 l3 c3,.bool n3,.slice A3 l3 c3] 33)).alloc (ibox ne Ae le ce)).alloc (.cells #[.int .i64 1] 2):=⟨_,rfl⟩
 have o1at:I64At wd (some ⟨w2.heap.size+1+1+1,0,none⟩) 1 1 [1]:=by
  rw[hwd]
  refine ⟨rfl,Nat.le_refl _,.inr ⟨w2.heap.size+1+1+1,0,rfl,by simp,fun j hj=>?_⟩⟩
  match j,hj with
  | 0,_=>go_simp
 rw[<- hwd] at L1 L2 L3 jb ⊢
 have hszd:wd.heap.size=w2.heap.size+1+1+1+1:=by rw[hwd];simp
 clear hwd j1 j2 j3 j4 hzd
 replace HF:=Lh (HF.out.below ikN jb)
 replace I7:=Lh (I7.out.move jb)
 replace I10:=Lh (I10.out.move jb)
 replace Hb:=Lh (Hb.out.trans (jb.mono Hb.out.size))
 replace L1:=Lh L1
 replace L2:=Lh L2
 replace L3:=Lh L3
 clear I8 I9 Ze jb Hcf p0 p1 q0 q1 d0 d1 nb1 nb2 f0 f1e
 refine (pof_any _ _ _ _ _ o1at (by intro c hc;simp at hc;subst hc;unfold I64;omega) (by omega)).mono ?_
 rintro e w3 ⟨A4,l4,c4,rfl,h4,hb3⟩
 have e1:ptrim [(1:Int)]=[1]:=by decide
 rw[e1] at h4
 have H4:=Lh h4
 have hsz3:=hb3.size
 replace HF:=Lh (HF.out.below ikN hb3)
 replace I7:=Lh (I7.out.move hb3)
 replace I10:=Lh (I10.out.move hb3)
 replace Hb:=Lh (Hb.out.trans (hb3.mono Hb.out.size))
 replace L1:=Lh (L1.out.below ikN hb3)
 replace L2:=Lh (L2.out.below ikN hb3)
 replace L3:=Lh (L3.out.below ikN hb3)
 clear h4 hb3 e1 o1at
 go_wp2_with fail
 refine (iof_any 1 _ (by unfold I64;omega)).mono ?_
 rintro e w4 ⟨n5,A5,l5,c5,rfl,h5,hb4⟩
 have hsz4:=hb4.size
 have jx:=below_new w4 (ibox n5 A5 l5 c5)
 have jj:=hb4.trans (jx.mono hb4.size)
 have F0:=Lh ((PolyF.old (g:=w4.heap.size) (HF.out.below ikN hb4) (Nat.le_refl _)).below jx)
 have F1:=Lh ((PolyF.old (g:=w4.heap.size) (L1.out.below ikN hb4) (Nat.le_refl _)).below jx)
 have F2:=Lh ((PolyF.old (g:=w4.heap.size) (L2.out.below ikN hb4) (Nat.le_refl _)).below jx)
 have F3:=Lh ((PolyF.old (g:=w4.heap.size) (L3.out.below ikN hb4) (Nat.le_refl _)).below jx)
 have F4:=Lh ((PolyF.old (g:=w4.heap.size) (H4.out.below ikN hb4) (Nat.le_refl _)).below jx)
 replace I7:=Lh (I7.out.move jj)
 replace I10:=Lh (I10.out.move jj)
 have I16:=Lh (IBox.make h5)
 replace Hb:=Lh (Hb.out.trans (jj.mono Hb.out.size))
 clear HF L1 L2 L3 H4 h5 hb4 jx jj
 have hw0:IntKind.i64.wrap ((ix:Int)-1)=(ix:Int)-1:=IntWalk.i64_in _ (by omega)
 obtain ⟨g16,hg16⟩:∃ g16,g16=w4.heap.size:=⟨_,rfl⟩
 obtain ⟨g10,hg10⟩:∃ g10,g10=w1.heap.size+1+1:=⟨_,rfl⟩
 have lt16:g10<g16:=by omega
 have lt10:w.heap.size+1+1<g10:=by omega
 rw[<- hg16] at F0 F1 F2 F3 F4 I16
 rw[<- hg10] at I10
 have fPQ:FitP [P,Q]:=fun k=>by
  match k with
  | 0=>exact fP
  | 1=>exact fQ
  | k+2=>unfold Fit;simp;exact Nat.pow_pos BB_pos
 have fDD:FitP [D,D]:=fun k=>by
  match k with
  | 0=>exact fD
  | 1=>exact fD
  | k+2=>unfold Fit;simp;exact Nat.pow_pos BB_pos
 go_wp2_with fail
 rw[<- hg16,<- hg10]
 have Hlf:=Lh hlf
 clear hg16 hg10 hw0 hlf
 obtain ⟨gP,hgP⟩:∃ gP,gP=w2.heap.size:=⟨_,rfl⟩
 obtain ⟨gD,hgD⟩:∃ gD,gD=w2.heap.size+1:=⟨_,rfl⟩
 obtain ⟨gR,hgR⟩:∃ gR,gR=w2.heap.size+1+1:=⟨_,rfl⟩
 have offR:OffB (w.heap.size+1+1) (some ⟨gR,0,none⟩) 1:=.inr ⟨gR,0,rfl,by omega⟩
 rw[<- hgR] at F3 ⊢
 rw[<- hgD] at F2 ⊢
 rw[<- hgP] at F1 ⊢
 clear hgP hgD hgR
 go_loopw [14,15,17] (fun s14 s15 s17 wr=>∃ (k:Nat) (Ar:Option Addr) (lr cr:Nat) (Ap:Option Addr) (lp cp:Nat) (n5:Bool) (A5:Option Addr) (l5 c5:Nat),k<=ix/\s17=.int .i64 ((ix:Int)-1-(k:Int))/\s14=.slice Ar lr cr/\s15=.slice Ap lp cp/\PolyF g16 wr Ar lr cr (S k).1/\OffB (w.heap.size+1+1) Ar lr/\PolyF g16 wr Ap lp cp (S k).2.1/\IBox wr g16 n5 A5 l5 c5 (S k).2.2/\PolyF g16 wr (some ⟨bf,of,none⟩) lf cf f/\PolyF g16 wr (some ⟨gP,0,none⟩) 2 2 [P,Q]/\PolyF g16 wr (some ⟨gD,0,none⟩) 2 2 [D,D]/\IBox wr (w.heap.size+1+1) false none 0 0 0/\IBox wr g10 n3 A3 l3 c3 D/\Below w.heap.size w wr) (fun _ _ s17 _=>(intOf s17+1).toNat)
 case atStart=>exact ⟨0,_,_,_,_,_,_,_,_,_,_,Nat.zero_le _,by go_num,rfl,rfl,by rw[S0.out,<- Hix.out];exact F3.out,offR,by rw[S0.out];exact F4.out,by rw[S0.out];exact I16.out,F0.out,F1.out,F2.out,I7.out,I10.out,Hb.out⟩
 case round =>
  clear F0 F1 F2 F3 F4 I16 I7 I10 Hb
  obtain ⟨k,Ar,lr,cr,Ap,lp,cp,n5,A5,l5,c5,hk,rfl,rfl,rfl,f3,offk,f4,i16,f0,f1,f2,i7,i10,hb⟩:=hrel
  by_cases hlt:k<ix
  ·obtain ⟨jx,hjx⟩:∃ jx:Nat,jx=ix-1-k:=⟨_,rfl⟩
   have e0:(ix:Int)-1-(k:Int)=(jx:Int):=by omega
   rw[e0]
   have hjl:jx<lf:=by omega
   have e2:f.length-2-k=jx:=by have:=Hix.out;omega
   obtain ⟨s1,s2,s3,s4,s5⟩:=SF.out k (by have:=Hix.out;omega)
   obtain ⟨t1,t2,t3,t4,t5⟩:=SF.out (k+1) (by have:=Hix.out;omega)
   have hss:=SS.out k
   rw[e2] at hss
   have hlr:=f3.n.length
   have hlp:=f4.n.length
   obtain ⟨pw,hpw⟩:∃ pw,pw=polymul (ptrim (S k).2.1) (ptrim [D,D]):=⟨_,rfl⟩
   obtain ⟨sc,hsc⟩:∃ sc,sc=(S k).2.2*D:=⟨_,rfl⟩
   rw[<- hpw,<- hsc] at hss
   rw[hss] at t1 t2 t3 t4 t5
   dsimp only at t1 t2 t3 t4 t5
   have HSS:=Lh hss
   have Hpw:=Lh hpw
   have Hsc:=Lh hsc
   have Hjx:=Lh hjx
   have F0:=Lh f0
   have F1:=Lh f1
   have F2:=Lh f2
   have F3:=Lh f3
   have F4:=Lh f4
   have I7:=Lh i7
   have I10:=Lh i10
   have I16:=Lh i16
   have Hb:=Lh hb
   clear f0 f1 f2 f3 f4 i7 i10 i16 hb hss hpw hsc hjx e0 e2
   go_wp2_with fail
   refine (polymul_fr ikN ikN _ _ _ _ _ _ _ _ _ F4.out.n F2.out.n s2 fDD (by omega) (by omega)).mono ?_
   rintro e w5 ⟨A6,l6,c6,rfl,h6,hfr,hb5⟩
   rw[<- Hpw.out] at h6
   have P6:=Lh (PolyF.fresh (g:=g16) h6 hfr I16.out.lt)
   replace F0:=Lh (F0.out.below hb5)
   replace F1:=Lh (F1.out.below hb5)
   replace F2:=Lh (F2.out.below hb5)
   replace F3:=Lh (F3.out.below hb5)
   replace I7:=Lh (I7.out.move hb5)
   replace I10:=Lh (I10.out.move hb5)
   replace I16:=Lh (I16.out.move hb5)
   replace Hb:=Lh (Hb.out.trans (hb5.mono Hb.out.size))
   have x0:=I16.out.c0
   have x1:=I16.out.c1
   have y0:=I10.out.c0
   have y1:=I10.out.c1
   have sD:=fD.sm
   have s3s:=s3.sm
   clear h6 hfr hb5 F4
   go_wp2_with fail
   refine (imul_any _ _ _ _ _ _ _ _ _ _ _ I16.out.hz.at_ I10.out.hz.at_ s3s sD (s3.mulok _)).mono ?_
   rintro e w6 ⟨n7,A7,l7,c7,rfl,h7,hb6⟩
   rw[<- Hsc.out] at h7
   have i16:=I16.out.move hb6
   have i7:=(I7.out.move hb6).far i16 (by omega) (.bool n7) (.slice A7 l7 c7)
   have i10:=(I10.out.move hb6).far i16 (by omega) (.bool n7) (.slice A7 l7 c7)
   have i16':=i16.put h7
   have f0:=(F0.out.below hb6).put (n':=n7) (A2:=A7) (l2:=l7) (c2:=c7) i16
   have f1:=(F1.out.below hb6).put (n':=n7) (A2:=A7) (l2:=l7) (c2:=c7) i16
   have f2:=(F2.out.below hb6).put (n':=n7) (A2:=A7) (l2:=l7) (c2:=c7) i16
   have f3:=(F3.out.below hb6).put (n':=n7) (A2:=A7) (l2:=l7) (c2:=c7) i16
   have p6:=(P6.out.below hb6).put (n':=n7) (A2:=A7) (l2:=l7) (c2:=c7) i16
   have hb:=((Hb.out.trans (hb6.mono Hb.out.size)).setCell (p:=⟨g16,0,none⟩) (by simp;omega) (.bool n7)).setCell (p:=⟨g16,1,none⟩) (by simp;omega) (.slice A7 l7 c7)
   obtain ⟨wq,hwq⟩:∃ wq,wq=(w6.setCell ⟨g16,0,none⟩ (.bool n7)).setCell ⟨g16,1,none⟩ (.slice A7 l7 c7):=⟨_,rfl⟩
   unfold put2 at f0 f1 f2 f3 p6 i16'
   rw[<- hwq] at i7 i10 i16' f0 f1 f2 f3 p6 hb
   have v0:=i16.c0
   have v1:=i16.c1
   have v2:=i16.f0
   have v3:=i16.f1
   clear x0 x1 y0 y1 h7 hb6 F0 F1 F2 F3 P6 I7 I10 I16 Hb i16
   replace F0:=Lh f0
   replace F1:=Lh f1
   replace F2:=Lh f2
   replace F3:=Lh f3
   replace P6:=Lh p6
   replace I7:=Lh i7
   replace I10:=Lh i10
   replace I16:=Lh i16'
   replace Hb:=Lh hb
   clear f0 f1 f2 f3 p6 i7 i10 i16' hb
   go_wp2_with fail
   rw[<- hwq]
   clear hwq v0 v1 v2 v3
   have hlR:=(ptrim_length (S k).1)
   have hplR:=plen_le (S k).1
   have hl2:(ptrim (S k).1).length+(ptrim [P,Q]).length<=1000000:=by
    have:=ptrim_length [P,Q]
    have:=plen_le [P,Q]
    simp only[List.length_cons,List.length_nil] at this
    omega
   obtain ⟨a1,a2,a3,a4⟩:=add_ok s1.trim fPQ.trim hl2 (fitf jx) t2
   obtain ⟨hbx,nf,Af',lf',cf',g0,g1,ze⟩:=F0.out.n.elem hjl
   have ZE:=Lh ze
   have A4:=Lh a4
   have fcs:=(fitf jx).sm
   have fcm:∀ k,MulOK (f.getD jx 0).natAbs (pw.getD k 0).natAbs:=fun k=>(fitf jx).mulok _
   have hl6:=P6.out.n.length
   have pws:=t2.smp
   have hsz16:=I16.out.lt
   obtain ⟨pm,hpm⟩:∃ pm,pm=polymul (ptrim (S k).1) (ptrim [P,Q]):=⟨_,rfl⟩
   rw[<- hpm] at a1 a4 A4 t1 t4 HSS
   have Hpm:=Lh hpm
   have hpml:pm.length<=1000000:=by
    rw[hpm]
    unfold polymul
    split
    ·simp
    ·rw[pmul_length];omega
   clear ze a4 hpm hl2 hlR hplR
   go_region_held3 (fun w'=>w'.cell? ⟨bf,of+jx*2,none⟩=some (.bool nf)/\w'.cell? ⟨bf,of+jx*2+1,none⟩=some (.slice Af' lf' cf')) (go_keep) (first
    | (go_at_call 52;go_must (refine (polymul_any ikN ikN _ _ _ _ _ _ _ _ _ ?_ ?_ s1 fPQ (by omega) (by omega)).mono ?_;(exact F3.out.n.below ikN Bel.go);(exact F1.out.n.below ikN Bel.go);rintro e w8 ⟨A8,l8,c8,rfl,h8,hb8⟩;rw[<- Hpm.out] at h8;have H8:=Lh h8;have Hb8:Hid (Below wq.heap.size wq w8):=Lh (Below.trans Bel.go (hb8.mono (by simp<;>omega)));obtain ⟨hcx,hfx⟩:=bcellS hb8;have v0:w8.cell? ⟨bf,of+jx*2,none⟩=some (.bool nf):=(hcx _ (by go_simp)).trans (by go_simp);have v1:w8.cell? ⟨bf,of+jx*2+1,none⟩=some (.slice Af' lf' cf'):=(hcx _ (by go_simp)).trans (by go_simp);clear h8 hcx hfx hb8))
    | (go_at_call 54;go_must (refine (scale_any ikN _ _ _ _ _ _ _ _ _ _ ?_ ?_ pws fcs fcm a2 (by omega)).mono ?_;(exact (P6.out.n.below ikN Hb8.out).below ikN Bel.go);(exact (ZE.out.below Hb8.out).below Bel.go);rintro e w9 ⟨A9,l9,c9,rfl,h9,hb9⟩;have H9:=Lh h9;have H8':=Lh (H8.out.below ikN (Below.trans Bel.go (hb9.mono (by simp<;>omega))));have Hb9:Hid (Below wq.heap.size wq w9):=Lh (Hb8.out.trans ((Below.trans Bel.go (hb9.mono (by simp<;>omega))).mono Hb8.out.size));obtain ⟨hcx,hfx⟩:=bcellS hb9;have u0:w9.cell? ⟨bf,of+jx*2,none⟩=some (.bool nf):=(hcx _ (by go_simp)).trans (by go_simp);have u1:w9.cell? ⟨bf,of+jx*2+1,none⟩=some (.slice Af' lf' cf'):=(hcx _ (by go_simp)).trans (by go_simp);clear h9 hcx hfx hb9))
    | (go_at_call 53;go_must (refine (polyadd_fr ikN ikN _ _ _ _ _ _ _ _ _ ?_ ?_ a1 a3 A4.out ?_ ?_).mono ?_;(exact H8'.out.below ikN Bel.go);(exact H9.out.below ikN Bel.go);(have:=H8'.out.length;omega);(have:=H9.out.length;have:=ptrim_length (psc (f.getD jx 0) pw);have:=plen_le (psc (f.getD jx 0) pw);have:=(show (psc (f.getD jx 0) pw).length=pw.length by unfold psc;rw[List.length_map]);omega);rintro e w10 ⟨A10,l10,c10,rfl,h10,hfr,hb10⟩;have H10:=Lh h10;have FR:=Lh hfr;have Hb10:Hid (Below wq.heap.size wq w10):=Lh (Hb9.out.trans ((Below.trans Bel.go (hb10.mono (by simp<;>omega))).mono Hb9.out.size));obtain ⟨hcx,hfx⟩:=bcellS hb10;have z0:w10.cell? ⟨bf,of+jx*2,none⟩=some (.bool nf):=(hcx _ (by go_simp)).trans (by go_simp);have z1:w10.cell? ⟨bf,of+jx*2+1,none⟩=some (.slice Af' lf' cf'):=(hcx _ (by go_simp)).trans (by go_simp);clear h10 hfr hcx hfx hb10)))
   rename_i hHeld
   have hb10:=Hb10.out
   have K0:=Lh (F0.out.below hb10)
   have K1:=Lh (F1.out.below hb10)
   have K2:=Lh (F2.out.below hb10)
   have K6:=Lh (P6.out.below hb10)
   have K7:=Lh (I7.out.move hb10)
   have K10:=Lh (I10.out.move hb10)
   have K16:=Lh (I16.out.move hb10)
   have Kb:=Lh (Hb.out.trans (hb10.mono Hb.out.size))
   have K3:=Lh (PolyF.fresh (g:=g16) H10.out FR.out (Nat.lt_of_lt_of_le I16.out.lt Hb9.out.size))
   have off3:OffB (w.heap.size+1+1) A10 l10:=FR.out.imp id (fun ⟨r,e1,e2⟩=>⟨r,0,e1,by have:=Hb9.out.size;omega⟩)
   have hwj:IntKind.i64.wrap ((jx:Int)-1)=(jx:Int)-1:=IntWalk.i64_in _ (by omega)
   clear hHeld z0 z1 u0 u1 v0 v1 g0 g1 F0 F1 F2 F3 P6 I7 I10 I16 Hb H8 H8' H9 H10 FR Hb8 Hb9 Hb10 hb10 ZE A4
   go_wp2_with fail
   go_roundw
   case rel=>exact ⟨k+1,_,_,_,_,_,_,_,_,_,_,by omega,by have:=Hjx.out;go_num,rfl,rfl,by rw[HSS.out];exact K3.out,off3,by rw[HSS.out];exact K6.out,by rw[HSS.out];exact K16.out,K0.out,K1.out,K2.out,K7.out,K10.out,Kb.out⟩
   case measure=>have:=Hjx.out;simp[intOf]<;>omega
  ·have hki:k=ix:=by omega
   subst hki
   have e0:(k:Int)-1-(k:Int)=-1:=by omega
   rw[e0]
   have x0:=i16.c0
   have x1:=i16.c1
   have y0:=i7.c0
   have y1:=i7.c1
   have y2:=i7.f0
   have y3:=i7.f1
   have k7:=i7.put i16.hz
   have f7:=PolyF.put (n':=n5) (A2:=A5) (l2:=l5) (c2:=c5) ⟨f3.n,offk⟩ i7
   have hb7:Below w.heap.size w (put2 wr (w.heap.size+1+1) n5 A5 l5 c5):=(hb.setCell (p:=⟨w.heap.size+1+1,0,none⟩) (by simp;omega) _).setCell (p:=⟨w.heap.size+1+1,1,none⟩) (by simp;omega) _
   have F7:=Lh f7
   have K7:=Lh k7
   have B7:=Lh hb7
   clear i16 i7 f3 hb k7 f0 f1 f2 f4 i10 f7 e0 offk hb7
   go_wp2_with fail
   go_region
   go_wp2
   obtain ⟨WW,hWW⟩:∃ WW,WW=put2 wr (w.heap.size+1+1) n5 A5 l5 c5:=⟨_,rfl⟩
   have K7x:=K7.out.move ((Below.refl _ _).drew)
   have F7x:=F7.out.below ((Below.refl _ _).drew)
   have hbx:=B7.out.drew
   change bodyPost _ _ _ _ _ (put2 wr (w.heap.size+1+1) n5 A5 l5 c5).drew
   rw[<- hWW] at K7x F7x hbx ⊢
   generalize WW.drew=W2 at K7x F7x hbx ⊢
   have k70:=K7x.c0
   have k71:=K7x.c1
   have eV:k=f.length-1:=Hix.out
   refine bodyPost_ret (v:=.tuple #[.slice Ar lr cr,.agg #[.bool n5,.slice A5 l5 c5]]) (by simp[results,Tryz.results24,go_sem,k70,k71]) rfl ⟨_,_,_,_,_,_,_,rfl,by rw[HV1.out,<- eV];exact F7x.n,by rw[HV2.out,<- eV];exact K7x.hz,hbx⟩
end Go.Proofs.YtphmkdmflopcdaaGreat
