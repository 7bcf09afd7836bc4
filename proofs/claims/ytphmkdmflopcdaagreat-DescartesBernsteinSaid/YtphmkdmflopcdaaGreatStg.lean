/- The walks of cylinderlaw15.changes and of sturm.Variations. -/
import Derived.Test.YtphmkdmflopcdaaGreatSte
namespace Go.Proofs.YtphmkdmflopcdaaGreat
open Go.RowKit
theorem below_drewN {B:Nat} {a w:World} (h:Below B a w):∀ n,Below B a (w.drewN n)
 | 0=>h
 | n+1=>(below_drewN h n).drew
def frn (p d:Int):Int:=if d<0 then -p else p
def frd (d:Int):Int:=if d=0 then 1 else if d<0 then -d else d
set_option maxHeartbeats 400000 in
theorem frac_any (p d:Int) (w:World) (hp:I8 p) (hd:I8 d) :
  Calls Tryz.prog 20 #[.agg #[.int .i8 p,.int .i8 d]] w fun e w'=>e=.returned (.tuple #[.int .i64 (frn p d),.int .i64 (frd d)])/\Below w.heap.size w w':=by
 unfold I8 at hp hd
 have w1:IntKind.i64.wrap p=p:=by rw[IntKind.wrap_i64];omega
 have w2:IntKind.i64.wrap d=d:=by rw[IntKind.wrap_i64];omega
 have w3:IntKind.i64.wrap (-p)=-p:=by rw[IntKind.wrap_i64];omega
 have w4:IntKind.i64.wrap (-d)=-d:=by rw[IntKind.wrap_i64];omega
 have hb:Below w.heap.size w (w.alloc (.cells #[.int .i8 p,.int .i8 d] 24)):=(Below.refl _ _).alloc (Nat.le_refl _) _
 have Hb:=Lh hb
 clear hb
 obtain ⟨rn,hrn⟩:∃ r,r=frn p d:=⟨_,rfl⟩
 obtain ⟨rd,hrd⟩:∃ r,r=frd d:=⟨_,rfl⟩
 rw[<- hrn,<- hrd]
 have Hrn:=Lh hrn
 have Hrd:=Lh hrd
 clear hrn hrd
 rcases Int.lt_trichotomy d 0 with h | h | h
 ·have h0:(d == 0)=false:=by rw[beq_eq_false_iff_ne];omega
  have e1:rn=-p:=by rw[Hrn.out];unfold frn;rw[if_pos h]
  have e2:rd=-d:=by rw[Hrd.out];unfold frd;rw[if_neg (by omega),if_pos h]
  have E1:=Lh e1
  have E2:=Lh e2
  clear e1 e2
  go_enter Tryz.func20,Tryz.ntmps20
  go_wp2_with fail
  go_quiet (fail)
  go_wp2
  refine bodyPost_ret (v:=.tuple #[.int .i64 (-p),.int .i64 (-d)]) (by simp[results,Tryz.results20,go_sem]) rfl ⟨by rw[E1.out,E2.out],below_drewN Hb.out _⟩
 ·subst h
  have e1:rn=p:=by rw[Hrn.out];unfold frn;rw[if_neg (by omega)]
  have e2:rd=1:=by rw[Hrd.out];rfl
  have E1:=Lh e1
  have E2:=Lh e2
  clear e1 e2
  go_enter Tryz.func20,Tryz.ntmps20
  go_wp2_with fail
  go_quiet (fail)
  go_wp2
  refine bodyPost_ret (v:=.tuple #[.int .i64 (p),.int .i64 (1)]) (by simp[results,Tryz.results20,go_sem]) rfl ⟨by rw[E1.out,E2.out],below_drewN Hb.out _⟩
 ·have h0:(d == 0)=false:=by rw[beq_eq_false_iff_ne];omega
  have e1:rn=p:=by rw[Hrn.out];unfold frn;rw[if_neg (by omega)]
  have e2:rd=d:=by rw[Hrd.out];unfold frd;rw[if_neg (by omega),if_neg (by omega)]
  have E1:=Lh e1
  have E2:=Lh e2
  clear e1 e2
  go_enter Tryz.func20,Tryz.ntmps20
  go_wp2_with fail
  go_quiet (fail)
  go_wp2
  refine bodyPost_ret (v:=.tuple #[.int .i64 (p),.int .i64 (d)]) (by simp[results,Tryz.results20,go_sem]) rfl ⟨by rw[E1.out,E2.out],below_drewN Hb.out _⟩
def rtz (p d:Int):Int:=(sg (frd d)*frn p d).tdiv (Nat.gcd (frn p d).natAbs (frd d).natAbs)
def rtq (p d:Int):Nat:=(frd d).natAbs / Nat.gcd (frn p d).natAbs (frd d).natAbs
theorem fr_bd {p d:Int} (hp:I8 p) (hd:I8 d):(frn p d).natAbs<=128/\1<=frd d/\frd d<=128:=by
 unfold I8 at hp hd
 unfold frn frd
 refine ⟨by split<;>omega,?_,?_⟩<;>split<;>(try split)<;>omega
set_option maxRecDepth 100000 in
set_option maxHeartbeats 1000000 in
theorem rat15_any (p d:Int) (w:World) (hp:I8 p) (hd:I8 d) :
  Calls Tryz.prog 6 #[.agg #[.int .i8 p,.int .i8 d]] w fun e w'=>RatE (rtz p d) (rtq p d) e w'/\Below w.heap.size w w':=by
 obtain ⟨b1,b2,b3⟩:=fr_bd hp hd
 unfold rtz rtq
 obtain ⟨fn,hfn⟩:∃ fn,fn=frn p d:=⟨_,rfl⟩
 obtain ⟨fd,hfd⟩:∃ fd,fd=frd d:=⟨_,rfl⟩
 rw[<- hfn] at b1
 rw[<- hfd] at b2 b3
 rw[<- hfn,<- hfd]
 have hu:U64 fn.natAbs:=u64_abs (by unfold I64;omega)
 have hv:fd.natAbs<BB:=by rw[BB_eq];omega
 have Hfn:=Lh hfn
 have Hfd:=Lh hfd
 have hb:Below w.heap.size w ((w.alloc (.cells #[.int .i8 p,.int .i8 d] 24)).alloc (rbox false none 0 0 none 0 0)):=below_two w _ _ (Nat.le_refl _)
 have hr:=RBox.nil (w.alloc (.cells #[.int .i8 p,.int .i8 d] 24))
 simp only[World.size_alloc] at hr
 have HR:=Lh hr
 have Hb:=Lh hb
 clear hb hr hfn hfd
 go_enter Tryz.func6,Tryz.ntmps6
 go_wp2_with fail
 refine (frac_any p d _ hp hd).mono ?_
 rintro e w3 ⟨he,hb3⟩
 rw[<- Hfn.out,<- Hfd.out] at he
 subst he
 have HR3:=Lh (HR.out.move hb3)
 have Hb3:=Lh (Hb.out.trans (hb3.mono Hb.out.size))
 clear hb3 HR Hb
 go_wp2_with fail
 refine (iof_any fn _ (by unfold I64;omega)).mono ?_
 rintro e w4 ⟨n4,A4,l4,c4,rfl,h4,hb4⟩
 have HR4:=Lh (HR3.out.move hb4)
 have Hb4:=Lh (Hb3.out.trans (hb4.mono Hb3.out.size))
 have H4:=Lh h4
 clear HR3 Hb3 hb4 h4
 go_wp2_with fail
 refine (iof_any fd _ (by unfold I64;omega)).mono ?_
 rintro e w5 ⟨n5,A5,l5,c5,rfl,h5,hb5⟩
 have HR5:=Lh (HR4.out.move hb5)
 have Hb5:=Lh (Hb4.out.trans (hb5.mono Hb4.out.size))
 have h45:=H4.out.below hb5
 clear HR4 Hb4 H4 hb5
 go_wp2_with fail
 refine (make_any _ _ _ _ _ _ _ _ _ _ _ h45 h5 hu hv (by omega)).mono ?_
 rintro e w6 ⟨⟨n6,A6,l6,c6,B6,m6,d6,rfl,h6,h7⟩,hb6⟩
 have hbx:Below w6.heap.size w6 (w6.alloc (rbox n6 A6 l6 c6 B6 m6 d6)):=(Below.refl _ _).alloc (Nat.le_refl _) _
 have hr6:=(HR5.out.move hb6).move hbx
 have hb7:=Hb5.out.trans ((hb6.trans (hbx.mono hb6.size)).mono Hb5.out.size)
 have HP:=Lh (hr6.put (h6.below hbx) (h7.below hbx))
 have Hb8:=Lh (((hb7.setCell (p:=⟨w.heap.size+1,0,none⟩) (by first | (simp;done) | (simp;omega) | omega) (.bool n6)).setCell (p:=⟨w.heap.size+1,1,none⟩) (by first | (simp;done) | (simp;omega) | omega) (.slice A6 l6 c6)).setCell (p:=⟨w.heap.size+1,2,none⟩) (by first | (simp;done) | (simp;omega) | omega) (.slice B6 m6 d6))
 have r0:=hr6.c0
 have r1:=hr6.c1
 have r2:=hr6.c2
 have r3:=hr6.f0
 have r4:=hr6.f1
 have r5:=hr6.f2
 clear HR5 Hb5 h45 h5 hb6 hbx hr6 hb7 h6 h7
 go_wp2
 refine bodyPost_ret (v:=.agg #[.bool n6,.slice A6 l6 c6,.slice B6 m6 d6]) (by simp[results,Tryz.results6,go_sem,r0,r1,r2]) rfl ⟨⟨_,_,_,_,_,_,_,rfl,HP.out.hz,HP.out.hq⟩,Hb8.out⟩
set_option maxRecDepth 100000 in
set_option maxHeartbeats 1000000 in
theorem short_any (A:Option Addr) (len cap n:Nat) (p:List Int) (w:World) (h:I16At w A len cap p) (hn:n<=1000) (hlm:len<=9223372036854775807) :
  Calls Tryz.prog 5 #[.slice A len cap,.int .i64 (n:Int)] w fun e w'=>∃ A' l' c',e=.returned (.slice A' l' c')/\PolyN w' A' l' c' (ptrim (p.take n))/\Below w.heap.size w w':=by
 obtain ⟨i0,hi,hz0,hz1,hz2⟩:=info_parts info_i64
 have hlen:=Lh h.length
 have hrange:=Lh h.range
 obtain ⟨q,hq⟩:∃ q,q=p.take n:=⟨_,rfl⟩
 have hql:Hid (q.length=min n len):=Lh (by rw[hq,List.length_take,hlen.out])
 have hqg:Hid (∀ k,k<n->q[k]?.getD 0=p.getD k 0):=Lh (fun k hk=>by rw[hq,List.getElem?_take_of_lt hk,List.getD_eq_getElem?_getD])
 have hq64:Hid (∀ c∈q,I64 c):=Lh (fun c hc=>by
  have:=hrange.out c (List.mem_of_mem_take (by rw[<- hq];exact hc))
  unfold I64;omega)
 rw[<- hq]
 clear hq
 go_enter Tryz.func5,Tryz.ntmps5
 go_wp2
 go_loopw [5,6] (fun v i wr=>∃ k:Nat,k<=len/\k<=n/\i=.int .i64 (k:Int)/\OwnI 2 wr w.heap.size v k q/\Below w.heap.size w wr) (fun _ i _=>len-(intOf i).toNat)
 case atStart=>exact ⟨0,Nat.zero_le _,Nat.zero_le _,rfl,World.ownsRow_nil _ _ _ _,Below.refl _ _⟩
 case round =>
  obtain ⟨k,hk,hkn,rfl,hown,hbw⟩:=hrel
  have Hown:=Lh hown
  have Hbw:=Lh hbw
  clear hown
  by_cases hlt:k<len/\k<n
  ·obtain ⟨hlt,hln⟩:=hlt
   obtain ⟨b,off,rfl,hb,hc⟩:=h.at_ (by omega)
   have hcell:=(hbw.cell (p:=⟨b,off+k,none⟩) hb).trans (hc k hlt)
   have hr:-32768<=p.getD k 0/\p.getD k 0<=32767:=by
    have:=hlen.out
    rw[List.getD_eq_getElem?_getD,List.getElem?_eq_getElem (by omega)]
    exact hrange.out _ (List.getElem_mem _)
   obtain ⟨hr1,hr2⟩:=hr
   have hg:=hqg.out k hln
   obtain ⟨c,hcv⟩:∃ c,c=p.getD k 0:=⟨_,rfl⟩
   rw[<- hcv] at hcell hr1 hr2 hg
   have hwc:IntKind.i64.wrap c=c:=by rw[IntKind.wrap_i64];omega
   have Hg:=Lh hg
   clear hc h hbw hg hcv
   go_wp2_with (at_builtin;refine wpList_append_one rfl (.tmp 18) (.tmp 24) 56 rfl w.heap.size 2 i0 (.int .i64 0) 8 Tryz.underlying56 hi hz0 hz1 hz2 rfl _ (.int .i64 c) k _ rfl rfl Hown.out rfl (by omega) (by omega) Hbw.out.size ?_)
   intro v' w1 hown' hgrow
   have R:=Lh (OwnI.step (v':=v') (by rw[hql.out];omega) Hbw.out.size Hown.out Hbw.out (by rw[Hg.out];exact hown') hgrow)
   clear hown' hgrow hcell
   go_wp2
   go_roundw
   case rel=>exact ⟨k+1,by omega,by omega,by go_num,R.out.1,R.out.2⟩
   case measure=>simp[intOf];omega
  ·have hk2:k=q.length:=by rw[hql.out];omega
   have ho:=Hown.out
   rw[hk2] at ho
   obtain ⟨A',cap',rfl,hat⟩:=ho.at_
   have hll:q.length<=1000:=by rw[hql.out];omega
   obtain ⟨L,hL⟩:∃ L,L=q.length:=⟨_,rfl⟩
   rw[<- hL] at hat hk2 hll ⊢
   subst hk2
   have Hno:=Lh hlt
   clear ho h hbw hi hz0 hz1 hz2 hL
   have HL:Hid (¬ (k<len/\k<n)):=Hno
   have h64:=hq64.out
   by_cases hkl:k<len
   ·have hkn2:k=n:=by omega
    subst hkn2
    go_wp2_with fail
    refine (pof_any _ _ _ _ _ hat h64 (by omega)).mono ?_
    rintro e w2 ⟨A2,l2,c2,rfl,h2,hb2⟩
    have H2:=Lh h2
    have Hb2:=Lh (Hbw.out.trans (hb2.mono Hbw.out.size))
    clear h2 hb2 hat
    go_wp2
    go_ret
    exact ⟨_,_,_,rfl,H2.out,Hb2.out⟩
   ·have hkn2:k=len:=by omega
    subst hkn2
    go_wp2_with fail
    refine (pof_any _ _ _ _ _ hat h64 (by omega)).mono ?_
    rintro e w2 ⟨A2,l2,c2,rfl,h2,hb2⟩
    have H2:=Lh h2
    have Hb2:=Lh (Hbw.out.trans (hb2.mono Hbw.out.size))
    clear h2 hb2 hat
    go_wp2
    go_ret
    exact ⟨_,_,_,rfl,H2.out,Hb2.out⟩
end Go.Proofs.YtphmkdmflopcdaaGreat
namespace Go.Proofs.YtphmkdmflopcdaaGreat
theorem rt_bd {p d:Int} (hp:I8 p) (hd:I8 d):∃ g:Nat,0<g/\rtz p d*(g:Int)=frn p d/\((rtq p d:Nat):Int)*(g:Int)=frd d/\(rtz p d).natAbs<=128/\0<rtq p d/\rtq p d<=128:=by
 obtain ⟨b1,b2,b3⟩:=fr_bd hp hd
 have hg:0<Nat.gcd (frn p d).natAbs (frd d).natAbs:=Nat.gcd_pos_of_pos_right _ (by omega)
 have e1:rtz p d=(frn p d).tdiv (Nat.gcd (frn p d).natAbs (frd d).natAbs):=by
  unfold rtz
  rw[sg_pos (by omega),Int.one_mul]
 have hq:(frd d).natAbs / Nat.gcd (frn p d).natAbs (frd d).natAbs*Nat.gcd (frn p d).natAbs (frd d).natAbs=(frd d).natAbs:=Nat.div_mul_cancel (Nat.gcd_dvd_right _ _)
 refine ⟨_,hg,?_,?_,?_,?_,?_⟩
 ·rw[e1]
  exact Int.tdiv_mul_cancel (by rw[<- Int.natAbs_dvd_natAbs,Int.natAbs_natCast];exact Nat.gcd_dvd_left _ _)
 ·unfold rtq
  rw[<- Int.natCast_mul,hq]
  omega
 ·rw[e1,Int.natAbs_tdiv]
  exact Nat.le_trans (Nat.div_le_self _ _) b1
 ·unfold rtq
  exact Nat.div_pos (Nat.le_of_dvd (by omega) (Nat.gcd_dvd_right _ _)) hg
 ·unfold rtq
  exact Nat.le_trans (Nat.div_le_self _ _) (by omega)
theorem rt_less {p d p' d':Int} (hp:I8 p) (hd:I8 d) (hp':I8 p') (hd':I8 d') (h:frn p d*frd d'<frn p' d'*frd d):rtz p d*(rtq p' d':Int)<rtz p' d'*(rtq p d:Int):=by
 obtain ⟨g,hg,a1,a2,_⟩:=rt_bd hp hd
 obtain ⟨g',hg',b1,b2,_⟩:=rt_bd hp' hd'
 rw[<- a1,<- a2,<- b1,<- b2] at h
 have hgg:(0:Int)<(g:Int)*(g':Int):=Int.mul_pos (by omega) (by omega)
 refine Int.lt_of_mul_lt_mul_left (a:=(g:Int)*(g':Int)) ?_ (Int.le_of_lt hgg)
 calc (g:Int)*(g':Int)*(rtz p d*(rtq p' d':Int))=rtz p d*(g:Int)*((rtq p' d':Int)*(g':Int)):=by grind
  _<rtz p' d'*(g':Int)*((rtq p d:Int)*(g:Int)):=h
  _=(g:Int)*(g':Int)*(rtz p' d'*(rtq p d:Int)):=by grind
theorem rt_iff {p d p' d':Int} (hp:I8 p) (hd:I8 d) (hp':I8 p') (hd':I8 d'):rtz p d*(rtq p' d':Int)<rtz p' d'*(rtq p d:Int)↔frn p d*frd d'<frn p' d'*frd d:=by
 refine ⟨fun h=>?_,rt_less hp hd hp' hd'⟩
 obtain ⟨g,hg,a1,a2,_⟩:=rt_bd hp hd
 obtain ⟨g',hg',b1,b2,_⟩:=rt_bd hp' hd'
 rw[<- a1,<- a2,<- b1,<- b2]
 have hgg:(0:Int)<(g:Int)*(g':Int):=Int.mul_pos (by omega) (by omega)
 calc rtz p d*(g:Int)*((rtq p' d':Int)*(g':Int))=(g:Int)*(g':Int)*(rtz p d*(rtq p' d':Int)):=by grind
  _<(g:Int)*(g':Int)*(rtz p' d'*(rtq p d:Int)):=Int.mul_lt_mul_of_pos_left h hgg
  _=rtz p' d'*(g':Int)*((rtq p d:Int)*(g:Int)):=by grind
end Go.Proofs.YtphmkdmflopcdaaGreat
namespace Go.Proofs.YtphmkdmflopcdaaGreat
open Go.RowKit
def sat (z:Int) (q:Nat) (f:List Int):Int:=sg (sval f (z.tdiv (Nat.gcd z.natAbs q)) ((q / Nat.gcd z.natAbs q:Nat):Int))
structure AtOK (z:Int) (q:Nat):Prop where
 u:Fit z
 v:Fit (q:Int)
 pos:0<q
 fz:Fit (z.tdiv (Nat.gcd z.natAbs q))
 fq:Fit ((q / Nat.gcd z.natAbs q:Nat):Int)
structure PoOK (z:Int) (q:Nat) (p:List Int):Prop where
 fit:FitP p
 len:p.length<=1000000
 ok:ScOK p (z.tdiv (Nat.gcd z.natAbs q)) ((q / Nat.gcd z.natAbs q:Nat):Int)
theorem fit_lt2 {z:Int} (h:z.natAbs<18446744073709551616):Fit z:=by
 refine Nat.lt_of_lt_of_le (m:=BB^2) ?_ (Nat.pow_le_pow_right BB_pos (by rw[FW_eq];omega))
 rw[BB_eq];omega
noncomputable def ZK:Nat:=Classical.choose (⟨1000,rfl⟩:∃ n:Nat,n=1000)
theorem ZK_eq:ZK=1000:=Classical.choose_spec (⟨1000,rfl⟩:∃ n:Nat,n=1000)
noncomputable def ZB:Nat:=BB^ZK
theorem zb_128:128<=ZB:=by
 have h1:BB^1<=BB^ZK:=Nat.pow_le_pow_right BB_pos (by rw[ZK_eq];decide)
 rw[Nat.pow_one] at h1
 have h2:128<=BB:=by rw[BB_eq];decide
 exact Nat.le_trans h2 h1
theorem zb_fit {z:Int} (h:z.natAbs<=ZB):Fit z:=Nat.lt_of_le_of_lt h (Nat.pow_lt_pow_right (by rw[BB_eq];decide) (by rw[ZK_eq,FW_eq];decide))
theorem at_ok {p d:Int} (hp:I8 p) (hd:I8 d):AtOK (rtz p d) (rtq p d)/\(rtz p d).natAbs<=ZB/\rtq p d<=ZB:=by
 obtain ⟨b1,b2,b3⟩:=fr_bd hp hd
 have hz:(rtz p d).natAbs<=128:=by
  unfold rtz
  rw[Int.natAbs_tdiv,Int.natAbs_mul]
  refine Nat.le_trans (Nat.div_le_self _ _) ?_
  have:(sg (frd d)).natAbs<=1:=by rcases sg_cases (frd d) with ⟨_,e⟩ | ⟨_,e⟩ | ⟨_,e⟩<;>omega
  exact Nat.le_trans (Nat.mul_le_mul this b1) (by omega)
 have hg:0<Nat.gcd (frn p d).natAbs (frd d).natAbs:=Nat.gcd_pos_of_pos_right _ (by omega)
 have hq:rtq p d<=128:=by unfold rtq;exact Nat.le_trans (Nat.div_le_self _ _) (by omega)
 have hq0:0<rtq p d:=by
  unfold rtq
  exact Nat.div_pos (Nat.le_of_dvd (by omega) (Nat.gcd_dvd_right _ _)) hg
 have zb:=zb_128
 refine ⟨⟨fit_lt2 (by omega),fit_lt2 (by rw[Int.natAbs_natCast];omega),hq0,fit_lt2 ?_,fit_lt2 ?_⟩,by omega,by omega⟩
 ·rw[Int.natAbs_tdiv];exact Nat.lt_of_le_of_lt (Nat.div_le_self _ _) (by omega)
 ·rw[Int.natAbs_natCast];exact Nat.lt_of_le_of_lt (Nat.div_le_self _ _) (by omega)
end Go.Proofs.YtphmkdmflopcdaaGreat
