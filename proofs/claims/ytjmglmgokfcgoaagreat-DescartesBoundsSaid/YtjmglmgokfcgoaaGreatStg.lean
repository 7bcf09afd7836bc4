/- The walks of cylinderlaw15.changes and of sturm.Variations. -/
import Derived.Test.YtjmglmgokfcgoaaGreatSte
namespace Go.Proofs.YtjmglmgokfcgoaaGreat
open Go.RowKit
theorem below_drewN {B:Nat} {a w:World} (h:Below B a w):∀ n,Below B a (w.drewN n)
 | 0=>h
 | n+1=>(below_drewN h n).drew
def frn (p d:Int):Int:=if d<0 then -p else p
def frd (d:Int):Int:=if d=0 then 1 else if d<0 then -d else d
set_option maxHeartbeats 400000 in
theorem frac_any (p d:Int) (w:World) (hp:I8 p) (hd:I8 d) :
  Calls Tryz.prog 106 #[.agg #[.int .i8 p,.int .i8 d]] w fun e w'=>e=.returned (.tuple #[.int .i64 (frn p d),.int .i64 (frd d)])∧Below w.heap.size w w':=by
 unfold I8 at hp hd
 have w1:IntKind.i64.wrap p=p:=by rw [IntKind.wrap_i64];omega
 have w2:IntKind.i64.wrap d=d:=by rw [IntKind.wrap_i64];omega
 have w3:IntKind.i64.wrap (-p)=-p:=by rw [IntKind.wrap_i64];omega
 have w4:IntKind.i64.wrap (-d)=-d:=by rw [IntKind.wrap_i64];omega
 have hb:Below w.heap.size w (w.alloc (.cells #[.int .i8 p,.int .i8 d] 66)):=(Below.refl _ _).alloc (Nat.le_refl _) _
 have Hb:=Lib.hid hb
 clear hb
 obtain ⟨rn,hrn⟩:∃ r,r=frn p d:=⟨_,rfl⟩
 obtain ⟨rd,hrd⟩:∃ r,r=frd d:=⟨_,rfl⟩
 rw [← hrn,← hrd]
 have Hrn:=Lib.hid hrn
 have Hrd:=Lib.hid hrd
 clear hrn hrd
 rcases Int.lt_trichotomy d 0 with h | h | h
 ·have h0:(d == 0)=false:=by rw [beq_eq_false_iff_ne];omega
  have e1:rn=-p:=by rw [Hrn.out];unfold frn;rw [if_pos h]
  have e2:rd=-d:=by rw [Hrd.out];unfold frd;rw [if_neg (by omega),if_pos h]
  have E1:=Lib.hid e1
  have E2:=Lib.hid e2
  clear e1 e2
  go_enter Tryz.func106,Tryz.ntmps106
  go_wp2_with fail
  go_quiet (fail)
  go_wp2
  refine bodyPost_ret (v:=.tuple #[.int .i64 (-p),.int .i64 (-d)]) (by simp [results,Tryz.results106,go_sem]) rfl ⟨by rw [E1.out,E2.out],below_drewN Hb.out _⟩
 ·subst h
  have e1:rn=p:=by rw [Hrn.out];unfold frn;rw [if_neg (by omega)]
  have e2:rd=1:=by rw [Hrd.out];rfl
  have E1:=Lib.hid e1
  have E2:=Lib.hid e2
  clear e1 e2
  go_enter Tryz.func106,Tryz.ntmps106
  go_wp2_with fail
  go_quiet (fail)
  go_wp2
  refine bodyPost_ret (v:=.tuple #[.int .i64 (p),.int .i64 (1)]) (by simp [results,Tryz.results106,go_sem]) rfl ⟨by rw [E1.out,E2.out],below_drewN Hb.out _⟩
 ·have h0:(d == 0)=false:=by rw [beq_eq_false_iff_ne];omega
  have e1:rn=p:=by rw [Hrn.out];unfold frn;rw [if_neg (by omega)]
  have e2:rd=d:=by rw [Hrd.out];unfold frd;rw [if_neg (by omega),if_neg (by omega)]
  have E1:=Lib.hid e1
  have E2:=Lib.hid e2
  clear e1 e2
  go_enter Tryz.func106,Tryz.ntmps106
  go_wp2_with fail
  go_quiet (fail)
  go_wp2
  refine bodyPost_ret (v:=.tuple #[.int .i64 (p),.int .i64 (d)]) (by simp [results,Tryz.results106,go_sem]) rfl ⟨by rw [E1.out,E2.out],below_drewN Hb.out _⟩
def rtz (p d:Int):Int:=(sg (frd d)*frn p d).tdiv (Nat.gcd (frn p d).natAbs (frd d).natAbs)
def rtq (p d:Int):Nat:=(frd d).natAbs / Nat.gcd (frn p d).natAbs (frd d).natAbs
theorem fr_bd {p d:Int} (hp:I8 p) (hd:I8 d):(frn p d).natAbs≤128∧1≤frd d∧frd d≤128:=by
 unfold I8 at hp hd
 unfold frn frd
 refine ⟨by split<;>omega,?_,?_⟩<;>split<;>(try split)<;>omega
set_option maxRecDepth 100000 in
set_option maxHeartbeats 1000000 in
theorem rat15_any (p d:Int) (w:World) (hp:I8 p) (hd:I8 d) :
  Calls Tryz.prog 39 #[.agg #[.int .i8 p,.int .i8 d]] w fun e w'=>RatE (rtz p d) (rtq p d) e w'∧Below w.heap.size w w':=by
 obtain ⟨b1,b2,b3⟩:=fr_bd hp hd
 unfold rtz rtq
 obtain ⟨fn,hfn⟩:∃ fn,fn=frn p d:=⟨_,rfl⟩
 obtain ⟨fd,hfd⟩:∃ fd,fd=frd d:=⟨_,rfl⟩
 rw [← hfn] at b1
 rw [← hfd] at b2 b3
 rw [← hfn,← hfd]
 have hu:U64 fn.natAbs:=u64_abs (by unfold I64;omega)
 have hv:fd.natAbs<BB:=by rw [BB_eq];omega
 have Hfn:=Lib.hid hfn
 have Hfd:=Lib.hid hfd
 have hb:Below w.heap.size w ((w.alloc (.cells #[.int .i8 p,.int .i8 d] 66)).alloc (rbox false none 0 0 none 0 0)):=below_two w _ _ (Nat.le_refl _)
 have hr:=RBox.nil (w.alloc (.cells #[.int .i8 p,.int .i8 d] 66))
 simp only [World.size_alloc] at hr
 have HR:=Lib.hid hr
 have Hb:=Lib.hid hb
 clear hb hr hfn hfd
 go_enter Tryz.func39,Tryz.ntmps39
 go_wp2_with fail
 refine (frac_any p d _ hp hd).mono ?_
 rintro e w3 ⟨he,hb3⟩
 rw [← Hfn.out,← Hfd.out] at he
 subst he
 have HR3:=Lib.hid (HR.out.move hb3)
 have Hb3:=Lib.hid (Hb.out.trans (hb3.mono Hb.out.size))
 clear hb3 HR Hb
 go_wp2_with fail
 refine (iof_any fn _ (by unfold I64;omega)).mono ?_
 rintro e w4 ⟨n4,A4,l4,c4,rfl,h4,hb4⟩
 have HR4:=Lib.hid (HR3.out.move hb4)
 have Hb4:=Lib.hid (Hb3.out.trans (hb4.mono Hb3.out.size))
 have H4:=Lib.hid h4
 clear HR3 Hb3 hb4 h4
 go_wp2_with fail
 refine (iof_any fd _ (by unfold I64;omega)).mono ?_
 rintro e w5 ⟨n5,A5,l5,c5,rfl,h5,hb5⟩
 have HR5:=Lib.hid (HR4.out.move hb5)
 have Hb5:=Lib.hid (Hb4.out.trans (hb5.mono Hb4.out.size))
 have h45:=H4.out.below hb5
 clear HR4 Hb4 H4 hb5
 go_wp2_with fail
 refine (make_any _ _ _ _ _ _ _ _ _ _ _ h45 h5 hu hv (by omega)).mono ?_
 rintro e w6 ⟨⟨n6,A6,l6,c6,B6,m6,d6,rfl,h6,h7⟩,hb6⟩
 have hbx:Below w6.heap.size w6 (w6.alloc (rbox n6 A6 l6 c6 B6 m6 d6)):=(Below.refl _ _).alloc (Nat.le_refl _) _
 have hr6:=(HR5.out.move hb6).move hbx
 have hb7:=Hb5.out.trans ((hb6.trans (hbx.mono hb6.size)).mono Hb5.out.size)
 have HP:=Lib.hid (hr6.put (h6.below hbx) (h7.below hbx))
 have Hb8:=Lib.hid (((hb7.setCell (p:=⟨w.heap.size+1,0,none⟩) (by first | (simp;done) | (simp;omega) | omega) (.bool n6)).setCell (p:=⟨w.heap.size+1,1,none⟩) (by first | (simp;done) | (simp;omega) | omega) (.slice A6 l6 c6)).setCell (p:=⟨w.heap.size+1,2,none⟩) (by first | (simp;done) | (simp;omega) | omega) (.slice B6 m6 d6))
 have r0:=hr6.c0
 have r1:=hr6.c1
 have r2:=hr6.c2
 have r3:=hr6.f0
 have r4:=hr6.f1
 have r5:=hr6.f2
 clear HR5 Hb5 h45 h5 hb6 hbx hr6 hb7 h6 h7
 go_wp2
 refine bodyPost_ret (v:=.agg #[.bool n6,.slice A6 l6 c6,.slice B6 m6 d6]) (by simp [results,Tryz.results39,go_sem,r0,r1,r2]) rfl ⟨⟨_,_,_,_,_,_,_,rfl,HP.out.hz,HP.out.hq⟩,Hb8.out⟩
end Go.Proofs.YtjmglmgokfcgoaaGreat
namespace Go.Proofs.YtjmglmgokfcgoaaGreat
theorem rt_bd {p d:Int} (hp:I8 p) (hd:I8 d):∃ g:Nat,0<g∧rtz p d*(g:Int)=frn p d∧((rtq p d:Nat):Int)*(g:Int)=frd d∧(rtz p d).natAbs≤128∧0<rtq p d∧rtq p d≤128:=by
 obtain ⟨b1,b2,b3⟩:=fr_bd hp hd
 have hg:0<Nat.gcd (frn p d).natAbs (frd d).natAbs:=Nat.gcd_pos_of_pos_right _ (by omega)
 have e1:rtz p d=(frn p d).tdiv (Nat.gcd (frn p d).natAbs (frd d).natAbs):=by
  unfold rtz
  rw [sg_pos (by omega),Int.one_mul]
 have hq:(frd d).natAbs / Nat.gcd (frn p d).natAbs (frd d).natAbs*Nat.gcd (frn p d).natAbs (frd d).natAbs=(frd d).natAbs:=Nat.div_mul_cancel (Nat.gcd_dvd_right _ _)
 refine ⟨_,hg,?_,?_,?_,?_,?_⟩
 ·rw [e1]
  exact Int.tdiv_mul_cancel (by rw [← Int.natAbs_dvd_natAbs,Int.natAbs_natCast];exact Nat.gcd_dvd_left _ _)
 ·unfold rtq
  rw [← Int.natCast_mul,hq]
  omega
 ·rw [e1,Int.natAbs_tdiv]
  exact Nat.le_trans (Nat.div_le_self _ _) b1
 ·unfold rtq
  exact Nat.div_pos (Nat.le_of_dvd (by omega) (Nat.gcd_dvd_right _ _)) hg
 ·unfold rtq
  exact Nat.le_trans (Nat.div_le_self _ _) (by omega)
theorem rt_less {p d p' d':Int} (hp:I8 p) (hd:I8 d) (hp':I8 p') (hd':I8 d') (h:frn p d*frd d'<frn p' d'*frd d):rtz p d*(rtq p' d':Int)<rtz p' d'*(rtq p d:Int):=by
 obtain ⟨g,hg,a1,a2,_⟩:=rt_bd hp hd
 obtain ⟨g',hg',b1,b2,_⟩:=rt_bd hp' hd'
 rw [← a1,← a2,← b1,← b2] at h
 have hgg:(0:Int)<(g:Int)*(g':Int):=Int.mul_pos (by omega) (by omega)
 refine Int.lt_of_mul_lt_mul_left (a:=(g:Int)*(g':Int)) ?_ (Int.le_of_lt hgg)
 calc (g:Int)*(g':Int)*(rtz p d*(rtq p' d':Int))=rtz p d*(g:Int)*((rtq p' d':Int)*(g':Int)):=by grind
  _<rtz p' d'*(g':Int)*((rtq p d:Int)*(g:Int)):=h
  _=(g:Int)*(g':Int)*(rtz p' d'*(rtq p d:Int)):=by grind
theorem rt_iff {p d p' d':Int} (hp:I8 p) (hd:I8 d) (hp':I8 p') (hd':I8 d'):rtz p d*(rtq p' d':Int)<rtz p' d'*(rtq p d:Int)↔frn p d*frd d'<frn p' d'*frd d:=by
 refine ⟨fun h=>?_,rt_less hp hd hp' hd'⟩
 obtain ⟨g,hg,a1,a2,_⟩:=rt_bd hp hd
 obtain ⟨g',hg',b1,b2,_⟩:=rt_bd hp' hd'
 rw [← a1,← a2,← b1,← b2]
 have hgg:(0:Int)<(g:Int)*(g':Int):=Int.mul_pos (by omega) (by omega)
 calc rtz p d*(g:Int)*((rtq p' d':Int)*(g':Int))=(g:Int)*(g':Int)*(rtz p d*(rtq p' d':Int)):=by grind
  _<(g:Int)*(g':Int)*(rtz p' d'*(rtq p d:Int)):=Int.mul_lt_mul_of_pos_left h hgg
  _=rtz p' d'*(g':Int)*((rtq p d:Int)*(g:Int)):=by grind
end Go.Proofs.YtjmglmgokfcgoaaGreat
namespace Go.Proofs.YtjmglmgokfcgoaaGreat
open Go.RowKit
end Go.Proofs.YtjmglmgokfcgoaaGreat
