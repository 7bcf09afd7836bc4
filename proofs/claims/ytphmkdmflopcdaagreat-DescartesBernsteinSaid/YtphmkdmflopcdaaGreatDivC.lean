/- The walks of division, third part: Floor. -/
import Derived.Test.YtphmkdmflopcdaaGreatIntD
import Derived.WalkMore
import Derived.Test.YtphmkdmflopcdaaGreatPolB
namespace Go.Proofs.YtphmkdmflopcdaaGreat
open Go.RowKit
noncomputable def qD (h l y:Nat):Nat:=(h*BB+l) / y
noncomputable def rD (h l y:Nat):Nat:=(h*BB+l) % y
theorem div32_or {h l:Nat} (hh:h<4294967296) (hl:l<4294967296):bits BinOp.or IntKind.u64 ((h:Int)*4294967296) (l:Int)=((h*4294967296+l:Nat):Int):=by
 have e:(h:Int)*4294967296=((h*4294967296:Nat):Int):=by omega
 rw[e,u64_or_nat _ _ (by omega) (by omega)]
 have:h*4294967296=h <<< 32:=by rw[Nat.shiftLeft_eq]
 rw[this,<- Nat.shiftLeft_add_eq_or_of_lt (by omega:l<2^32)]
theorem qD_lt {h l y:Nat} (hh:h<y) (hl:l<BB):qD h l y<BB:=by
 unfold qD
 refine Nat.div_lt_of_lt_mul ?_
 have:(h+1)*BB<=y*BB:=Nat.mul_le_mul hh (Nat.le_refl _)
 rw[Nat.add_mul,Nat.one_mul] at this
 omega
theorem rD_lt (h l y:Nat) (hy:0<y):rD h l y<y:=Nat.mod_lt _ hy
theorem qr_eq (h l y:Nat):qD h l y*y+rD h l y=h*BB+l:=by
 unfold qD rD
 rw[Nat.mul_comm]
 exact Nat.div_add_mod _ _
theorem div32_q {h l y:Nat} (hh:h<y) (hl:l<4294967296):IntKind.u64.wrap ((((h*4294967296+l:Nat):Int)).tdiv (y:Int)) % 4294967296=((qD h l y:Nat):Int):=by
 have h1:=qD_lt hh (by rw[BB_eq];exact hl)
 have e:qD h l y=(h*4294967296+l) / y:=by unfold qD;rw[BB_eq]
 rw[<- Int.ofNat_tdiv,<- e,IntKind.wrap_u64]
 rw[BB_eq] at h1
 generalize qD h l y=q at *
 omega
theorem div32_r {h l y:Nat} (hh:h<y) (hy:y<4294967296):(((h*4294967296+l:Nat):Int)).tmod (y:Int) % 4294967296=((rD h l y:Nat):Int):=by
 have h1:=rD_lt h l y (by omega)
 have e:rD h l y=(h*4294967296+l) % y:=by unfold rD;rw[BB_eq]
 rw[<- Int.ofNat_tmod,<- e]
 generalize rD h l y=q at *
 omega
set_option maxHeartbeats 400000 in
theorem div32_any (h l y:Nat) (w:World) (hh:h<y) (hl:l<4294967296) (hy:y<4294967296) :
  Calls Tryz.prog 117 #[.int .u32 (h:Int),.int .u32 (l:Int),.int .u32 (y:Int)] w fun e w'=>e=.returned (.tuple #[.int .u32 (qD h l y:Nat),.int .u32 (rD h l y:Nat)])/\∃ n,w'=w.drewN n:=by
 have hor:=Lh (div32_or (show h<4294967296 by omega) hl)
 have hq:=Lh (div32_q hh hl)
 have hr:=Lh (div32_r (l:=l) hh hy)
 go_enter Tryz.func117,Tryz.ntmps117
 go_wp2
 go_quiet (fail)
 go_wp2
 go_ret2
 exact ⟨ret_int2 (by rw[hor.out];exact hq.out) (by rw[hor.out];exact hr.out),_,rfl⟩
structure DsInv (w wr:World) (g la d:Nat) (ds:List Nat) (k r:Nat) (zs:List Nat):Prop where
 rest:r<d
 row:DRow wr g zs
 len:zs.length=la
 wd:Wd zs
 eq:val (ds.drop k)=val (zs.drop k)*d+r
 below:Below w.heap.size w wr
theorem ds_arith (a B Z d r q r' V:Nat) (e:q*d+r'=r*B+a) (h:V=Z*d+r):a+B*V=(q+B*Z)*d+r':=by
 subst h
 grind
theorem DsInv.step {w wr w1:World} {g la d:Nat} {ds:List Nat} {k r:Nat} {zs:List Nat} (h:DsInv w wr g la d ds (k+1) r zs) (hw:Wd ds) (hl:ds.length=la) (hk:k<la) (hg:w.heap.size<=g) (hn:∃ n,w1=wr.drewN n) :
  DsInv w (w1.setCell ⟨g,k,none⟩ (.int .u32 (qD r (ds.getD k 0) d:Nat))) g la d ds k (rD r (ds.getD k 0) d) (zs.set k (qD r (ds.getD k 0) d)):=by
 obtain ⟨n,rfl⟩:=hn
 refine ⟨rD_lt _ _ _ (by have:=h.rest;omega),DRow.set_ (w:=wr.drewN n) h.row k _,by rw[List.length_set,h.len],h.wd.set (qD_lt h.rest (hw.getD k)),?_,?_⟩
 ·rw[drop_getD_cons ds (by omega),drop_getD_cons (zs.set k _) (by rw[List.length_set,h.len];exact hk),drop_set_lt zs (by omega)]
  have e:(zs.set k (qD r (ds.getD k 0) d)).getD k 0=qD r (ds.getD k 0) d:=by
   rw[List.getD_eq_getElem?_getD,List.getElem?_set_self (by rw[h.len];exact hk)];rfl
  rw[e]
  exact ds_arith _ _ _ _ _ _ _ _ (qr_eq _ _ _) h.eq
 ·have hq:Below w.heap.size wr (wr.drewN n):=⟨rfl,rfl,rfl,Nat.le_refl _,fun _ _=>rfl⟩
  exact (h.below.trans hq).setCell hg _
set_option maxHeartbeats 1000000 in
theorem divSmall_any (A:Option Addr) (len cap n d:Nat) (w:World) (h:NatAt w A len cap n) (hs:Sm n) (hd0:0<d) (hd:d<4294967296) :
  Calls Tryz.prog 100 #[.slice A len cap,.int .u32 (d:Int)] w fun e w'=>∃ A' len' cap',e=.returned (.tuple #[.slice A' len' cap',.int .u32 ((n % d:Nat):Int),.bool true])/\NatN w' A' len' cap' (n / d)/\Below w.heap.size w w':=by
 go_enter Tryz.func100,Tryz.ntmps100
 go_wp2_with fail
 refine (trim_any _ _ _ _ _ h hs).mono ?_
 rintro e w1 ⟨l1,rfl,h1,rfl⟩
 have hl1:=Lh h1.len
 have hlm:l1<=1099511627776:=by have:=hl1.out;unfold Sm at hs;omega
 have hdig:=h1.digits
 clear h h1 hs
 go_wp2_with (at_make;refine wpList_make_dig _ rfl (.tmp 15) (.tmp 15) rfl l1 rfl rfl (by omega) ?_)
 intro w1 hz hb1 hsz
 have Hz:=Lh hz
 have Hb1:=Lh hb1
 have hlen:=Lh hdig.length
 clear hz hb1 hsz
 go_wp2
 go_loopw [8,9] (fun r i wr=>∃ (k rr:Nat) (zs:List Nat),k<=l1/\r=.int .u32 (rr:Int)/\i=.int .i64 ((k:Int)-1)/\DsInv w wr w.heap.size l1 d (digs n) k rr zs) (fun _ i _=>(intOf i+1).toNat)
 case atStart =>
  refine ⟨l1,0,List.replicate l1 0,Nat.le_refl _,rfl,rfl,hd0,Hz.out,by simp,Wd.replicate _,?_,Hb1.out⟩
  rw[List.drop_eq_nil_of_le (by rw[hlen.out];omega),List.drop_eq_nil_of_le (by simp)]
  simp[val]
 case round =>
  clear Hz Hb1
  obtain ⟨k,rr,zs,hk,rfl,rfl,hinv⟩:=hrel
  cases k with
  | zero =>
    have he:=hinv.eq
    rw[List.drop_zero,List.drop_zero,val_digs] at he
    have hrest:=hinv.rest
    have hzl:=hinv.len
    have hdz:=hinv.row.dig hinv.wd (cap:=l1) (by omega)
    rw[hzl] at hdz
    have hq:val zs=n / d:=by rw[he,Nat.add_comm,Nat.add_mul_div_right _ _ hd0,Nat.div_eq_of_lt hrest,Nat.zero_add]
    have hr:rr=n % d:=by rw[he,Nat.add_comm,Nat.add_mul_mod_self_right,Nat.mod_eq_of_lt hrest]
    have Hb:=Lh hinv.below
    subst hr
    clear he hrest hzl hinv hdig
    go_wp2_with fail
    refine (trim_dig _ _ _ _ _ _ hdz hq (by omega)).mono ?_
    rintro e w2 ⟨l2,rfl,h2,rfl⟩
    have H2:=Lh h2
    clear h2 hdz hq
    go_wp2
    refine bodyPost_ret (v:=.tuple #[.slice (some ⟨w.heap.size,0,none⟩) l2 l1,.int .u32 ((n % d:Nat):Int),.bool true]) (by simp[results,Tryz.results100,go_sem]) rfl ⟨_,_,_,rfl,H2.out,Hb.out⟩
  | succ k =>
    obtain ⟨b,off,rfl,hb,hc⟩:=hdig.at_ (by omega)
    have hcell:=(hinv.below.cell (p:=⟨b,off+k,none⟩) hb).trans (hc k (by omega))
    have hkl:(k:Int)<(l1:Int):=by omega
    have hrest:=hinv.rest
    have hwk:=(digs_wd n).getD k
    rw[BB_eq] at hwk
    have hstep:=Lh (fun w1=>hinv.step (w1:=w1) (digs_wd n) hlen.out (show k<l1 by omega) (Nat.le_refl _))
    have hzk:=hinv.row.cell (i:=k) (by rw[hinv.len];omega)
    have hzf:=hinv.row.frozen k
    have Hlt:=Lh hinv.row.lt
    clear hc hdig hinv
    rw[show ((k+1:Nat):Int)-1=(k:Int) from by omega]
    go_wp2_with fail
    rw[<- List.getD_eq_getElem?_getD]
    refine (div32_any _ _ _ _ hrest hwk hd).mono ?_
    rintro e w2 ⟨rfl,hw2⟩
    have Hs:=Lh (hstep.out w2 hw2)
    obtain ⟨nn,rfl⟩:=hw2
    have hzk2:(wr.drewN nn).cell? ⟨w.heap.size,k,none⟩=_:=hzk
    have hzf2:(wr.drewN nn).frozen? ⟨w.heap.size,k,none⟩=false:=hzf
    clear hzk hzf hcell hwk hrest
    go_wp2
    go_roundw
    case rel=>exact ⟨k,_,_,by omega,rfl,rfl,Hs.out⟩
    case measure=>simp[intOf]
end Go.Proofs.YtphmkdmflopcdaaGreat
namespace Go.Proofs.YtphmkdmflopcdaaGreat
open Go.RowKit
theorem dlen_one {b:Nat} (h:dlen b=1):b≠0/\b<4294967296/\(digs b).getD 0 0=b:=by
 have h0:b≠0:=by intro e;rw[e,dlen_zero] at h;omega
 have h1:=lt_pow_dlen b
 rw[h,Nat.pow_one,BB_eq] at h1
 refine ⟨h0,h1,?_⟩
 rw[digs_pos h0]
 show b % BB=b
 rw[BB_eq,Nat.mod_eq_of_lt h1]
def DivOK (a b:Nat):Prop:=a<b∨dlen b=1
set_option maxRecDepth 100000 in
set_option maxHeartbeats 2000000 in
theorem divide_any (A B:Option Addr) (la ca lb cb a b:Nat) (w:World) (ha:NatAt w A la ca a) (hb:NatAt w B lb cb b) (hsa:Sm a) (hsb:Sm b) (hok:DivOK a b) :
  Calls Tryz.prog 86 #[.slice A la ca,.slice B lb cb] w fun e w'=>∃ A1 l1 c1 A2 l2 c2,e=.returned (.tuple #[.slice A1 l1 c1,.slice A2 l2 c2])/\NatN w' A1 l1 c1 (a / b)/\NatN w' A2 l2 c2 (a % b)/\Below w.heap.size w w':=by
 by_cases hlt:a<b
 ·go_enter Tryz.func86,Tryz.ntmps86
  go_wp2
  go_step3
  go_wp2_with fail
  refine (normal_any _ _ _ _ _ hb hsb).mono ?_
  rintro e w1 ⟨B1,lb1,cb1,rfl,hB1,hb1⟩
  have hA1:=ha.below hb1
  have hcm:cmpn a b<0:=by rw[cmpn_lt hlt];omega
  clear ha hb
  go_wp2_with fail
  refine (cmp_any _ _ _ _ _ _ _ _ _ hA1 hB1.at_ hsa hsb).mono ?_
  rintro e w2 ⟨rfl,nq,rfl⟩
  have hbq:Below w1.heap.size w1 (w1.drewN nq):=⟨rfl,rfl,rfl,Nat.le_refl _,fun _ _=>rfl⟩
  have hA2:=hA1.below hbq
  have Hb1:=Lh (hb1.trans (hbq.mono hb1.size))
  clear hA1 hbq hb1 hB1
  go_wp2_with fail
  refine (normal_any _ _ _ _ _ hA2 hsa).mono ?_
  rintro e w3 ⟨A3,l3,c3,rfl,h3,hb3⟩
  have H3:=Lh h3
  have Hb3:=Lh (Hb1.out.trans (hb3.mono Hb1.out.size))
  have Hlt:=Lh hlt
  clear h3 hb3 hA2 hlt hcm
  go_wp2
  (try rw[Exit.noGoto_ret])
  go_ret2
  refine ⟨_,_,_,_,_,_,rfl,?_,?_,Hb3.out⟩
  ·rw[Nat.div_eq_of_lt Hlt.out];exact NatN.zero _ _ _
  ·rw[Nat.mod_eq_of_lt Hlt.out];exact H3.out
 ·obtain ⟨hb0,hbl,hbd⟩:=dlen_one (hok.resolve_left hlt)
  have hd1:=hok.resolve_left hlt
  go_enter Tryz.func86,Tryz.ntmps86
  go_wp2
  go_step3
  go_wp2_with fail
  refine (normal_any _ _ _ _ _ hb hsb).mono ?_
  rintro e w1 ⟨B1,lb1,cb1,rfl,hB1,hb1⟩
  have hA1:=ha.below hb1
  have hcm:0<=cmpn a b:=by unfold cmpn;rw[if_neg hlt];split<;>omega
  have hl1:lb1=1:=by rw[hB1.len];exact hd1
  subst hl1
  clear ha hb
  go_wp2_with fail
  refine (cmp_any _ _ _ _ _ _ _ _ _ hA1 hB1.at_ hsa hsb).mono ?_
  rintro e w2 ⟨rfl,nq,rfl⟩
  have hbq:Below w1.heap.size w1 (w1.drewN nq):=⟨rfl,rfl,rfl,Nat.le_refl _,fun _ _=>rfl⟩
  have hA2:=hA1.below hbq
  obtain ⟨bb,off,rfl,hbb,hc⟩:=(hB1.below hbq).digits.at_ (by omega)
  have hcell:=hc 0 (by omega)
  rw[hbd,Nat.add_zero] at hcell
  have Hb1:=Lh (hb1.trans (hbq.mono hb1.size))
  have Hlt:=Lh hlt
  clear hA1 hbq hb1 hB1 hc hbd hlt hd1 hok
  go_wp2_with fail
  refine (divSmall_any _ _ _ _ _ _ hA2 hsa (by omega) hbl).mono ?_
  rintro e w3 ⟨A3,l3,c3,rfl,h3,hb3⟩
  have H3:=Lh h3
  have Hb3:=Lh (Hb1.out.trans (hb3.mono Hb1.out.size))
  have hmod:a % b<4294967296:=Nat.lt_of_lt_of_le (Nat.mod_lt _ (by omega)) (by omega)
  clear h3 hb3 hA2 hcm
  generalize hr:a % b=r at hmod ⊢
  have Hr:=Lh hr
  clear hr
  go_wp2_with fail
  refine (of_any _ _ (show U64 r by unfold U64;rw[BB_eq];omega)).mono ?_
  rintro e w4 ⟨A4,l4,c4,rfl,h4,hb4⟩
  have H4:=Lh h4
  have Hb4:=Lh (Hb3.out.trans (hb4.mono Hb3.out.size))
  have H3':=Lh (H3.out.below hb4)
  clear h4 hb4
  go_wp2
  (try rw[Exit.noGoto_ret])
  go_ret2
  refine ⟨_,_,_,_,_,_,rfl,H3'.out,?_,Hb4.out⟩
  rw[Hr.out];exact H4.out
set_option maxHeartbeats 400000 in
theorem dzero_any (neg:Bool) (A:Option Addr) (len cap:Nat) (z:Int) (w:World) (h:IntAt w neg A len cap z) (hs:SmI z) :
  Calls Tryz.prog 58 #[.agg #[.bool neg,.slice A len cap]] w fun e w'=>e=.returned (.bool (decide (z=0)))/\Below w.heap.size w w':=by
 have hb0:Below w.heap.size w (w.alloc (ibox neg A len cap)):=(Below.refl _ _).alloc (Nat.le_refl _) _
 have h0:=h.below hb0
 have Hb0:=Lh hb0
 clear h hb0
 go_enter Tryz.func58,Tryz.ntmps58
 go_wp2_with fail
 refine (isign_any _ _ _ _ _ _ h0 hs).mono ?_
 rintro e w1 ⟨rfl,rfl⟩
 clear h0
 have Hb1:=Lh (below_two (B:=w.heap.size) w (ibox neg A len cap) (ibox neg A len cap) (Nat.le_refl _))
 have hd:decide (z=0)=(sg z == 0):=by
  rcases sg_cases z with ⟨h1,h2⟩ | ⟨h1,h2⟩ | ⟨h1,h2⟩<;>rw[h2]<;>simp<;>omega
 have Hd:=Lh hd
 clear hd
 go_wp2
 go_ret
 exact ⟨by rw[Hd.out];rfl,Hb1.out⟩
theorem sgn_tdiv (na nb:Bool) {a b:Int} (ha:a=sgn na a.natAbs) (hb:b=sgn nb b.natAbs):sgn (!(na == nb)) (a.natAbs / b.natAbs)=a.tdiv b:=by
 generalize a.natAbs=x at *
 generalize b.natAbs=y at *
 subst ha hb
 cases na<;>cases nb<;>simp[sgn,Int.neg_tdiv,Int.tdiv_neg]
theorem sgn_tmod (na:Bool) {a b:Int} (ha:a=sgn na a.natAbs):sgn na (a.natAbs % b.natAbs)=a.tmod b:=by
 have e:∀ x:Nat,(x:Int).tmod b=((x % b.natAbs:Nat):Int):=by
  intro x
  rw[Int.ofNat_tmod]
  rcases Int.natAbs_eq b with h | h<;>rw[h]<;>simp
 generalize a.natAbs=x at *
 subst ha
 cases na<;>simp only[sgn_true,sgn_false,Int.neg_tmod,e]
theorem below_four {B:Nat} (w:World) (o1 o2 o3 o4:Obj) (h:B<=w.heap.size):Below B w ((((w.alloc o1).alloc o2).alloc o3).alloc o4):=(below_three w o1 o2 o3 h).alloc (by simp;omega) _
theorem IntN.rets {w:World} {neg:Bool} {A:Option Addr} {len cap:Nat} {z:Int} (h:IntN w neg A len cap z) {g g':Nat} (hg:g≠g') {b0 b1:Bool} {A0 A1:Option Addr} {l0 c0 l1 c1:Nat} (u v u' v':Value) (h0:w.cell? ⟨g,0,none⟩=some (.bool b0)) (h1:w.cell? ⟨g,1,none⟩=some (.slice A0 l0 c0)) (h2:w.cell? ⟨g',0,none⟩=some (.bool b1)) (h3:w.cell? ⟨g',1,none⟩=some (.slice A1 l1 c1)) :
  IntN ((((w.setCell ⟨g,0,none⟩ u).setCell ⟨g,1,none⟩ v).setCell ⟨g',0,none⟩ u').setCell ⟨g',1,none⟩ v') neg A len cap z:=by
 refine (h.ret u v h0 h1).ret u' v' (b0:=b1) (A0:=A1) (l0:=l1) (c0:=c1) ?_ ?_
 ·rw[World.cell?_setCell_other _ _ _ _ (by intro e;injection e with e _;exact hg e),World.cell?_setCell_other _ _ _ _ (by intro e;injection e with e _;exact hg e)];exact h2
 ·rw[World.cell?_setCell_other _ _ _ _ (by intro e;injection e with e _;exact hg e),World.cell?_setCell_other _ _ _ _ (by intro e;injection e with e _;exact hg e)];exact h3
set_option maxHeartbeats 2000000 in
theorem quo_any (na:Bool) (A:Option Addr) (la ca:Nat) (a:Int) (nb:Bool) (B:Option Addr) (lb cb:Nat) (b:Int) (w:World) (ha:IntAt w na A la ca a) (hb:IntAt w nb B lb cb b) (hsa:SmI a) (hsb:SmI b) (hok:DivOK a.natAbs b.natAbs) (hb0:b≠0) :
  Calls Tryz.prog 57 #[.agg #[.bool na,.slice A la ca],.agg #[.bool nb,.slice B lb cb]] w fun e w'=>∃ n1 A1 l1 c1 n2 A2 l2 c2,e=.returned (.tuple #[.agg #[.bool n1,.slice A1 l1 c1],.agg #[.bool n2,.slice A2 l2 c2],.int .i64 0])/\IntN w' n1 A1 l1 c1 (a.tdiv b)/\IntN w' n2 A2 l2 c2 (a.tmod b)/\Below w.heap.size w w':=by
 have hbx:Below w.heap.size w ((((w.alloc (ibox na A la ca)).alloc (ibox nb B lb cb)).alloc (ibox false none 0 0)).alloc (ibox false none 0 0)):=below_four w _ _ _ _ (Nat.le_refl _)
 have hA0:=ha.nat.below hbx
 have hB0:=hb.below hbx
 have hq:=Lh (sgn_tdiv na nb ha.sign hb.sign)
 have hr:=Lh (sgn_tmod (b:=b) na ha.sign)
 have Hbx:=Lh hbx
 clear ha hb hbx
 go_enter Tryz.func57,Tryz.ntmps57
 go_wp2_with fail
 refine (dzero_any _ _ _ _ _ _ hB0 hsb).mono ?_
 rintro e w1 ⟨rfl,hb1⟩
 obtain ⟨hc,hf⟩:=bcell hb1
 have hsz:=hb1.size
 simp only[World.size_alloc] at hsz
 have hA1:=hA0.below hb1
 have hB1:=hB0.nat.below hb1
 have Hb1:=Lh (Hbx.out.trans (hb1.mono Hbx.out.size))
 rw[show decide (b=0)=false from decide_eq_false hb0]
 clear hA0 hB0 hb1
 go_wp2_with fail
 refine (divide_any _ _ _ _ _ _ _ _ _ hA1 hB1 hsa hsb hok).mono ?_
 rintro e w2 ⟨A1,l1,c1,A2,l2,c2,rfl,h1,h2,hb2⟩
 have hfc:∀ b o,b<w.heap.size+4->w2.cell? ⟨b,o,none⟩=((((w.alloc (ibox na A la ca)).alloc (ibox nb B lb cb)).alloc (ibox false none 0 0)).alloc (ibox false none 0 0)).cell? ⟨b,o,none⟩:=by
  intro b o hlt
  rw[(bcell hb2).1 b o (by omega),hc b o (by simp;omega)]
 have hff:∀ b o,b<w.heap.size+4->w2.frozen? ⟨b,o,none⟩=((((w.alloc (ibox na A la ca)).alloc (ibox nb B lb cb)).alloc (ibox false none 0 0)).alloc (ibox false none 0 0)).frozen? ⟨b,o,none⟩:=by
  intro b o hlt
  rw[(bcell hb2).2 b o (by omega),hf b o (by simp;omega)]
 clear hc hf
 have hsz2:=hb2.size
 have Hb2:=Lh (Hb1.out.trans (hb2.mono Hb1.out.size))
 have hq1:Sm (a.natAbs / b.natAbs):=hsa.mono (Nat.div_le_self _ _)
 have hr1:Sm (a.natAbs % b.natAbs):=hsa.mono (Nat.mod_le _ _)
 clear hA1 hB1 hb2
 have h1d:=h1.at_.below (Below.refl _ _).drew
 have h2d:=h2.at_.below (Below.refl _ _).drew
 clear h1 h2
 have Hfc:=Lh hfc
 have Hff:=Lh hff
 have d0:w2.cell? ⟨w.heap.size,0,none⟩=some (.bool na):=by rw[hfc _ _ (by omega)];go_simp
 have d1:w2.cell? ⟨w.heap.size+1,0,none⟩=some (.bool nb):=by rw[hfc _ _ (by omega)];go_simp
 have d20:w2.cell? ⟨w.heap.size+2,0,none⟩=some (.bool false):=by rw[hfc _ _ (by omega)];go_simp
 have f20:w2.frozen? ⟨w.heap.size+2,0,none⟩=false:=by rw[hff _ _ (by omega)];go_simp
 have d21:w2.cell? ⟨w.heap.size+2,1,none⟩=some (.slice none 0 0):=by rw[hfc _ _ (by omega)];go_simp
 have f21:w2.frozen? ⟨w.heap.size+2,1,none⟩=false:=by rw[hff _ _ (by omega)];go_simp
 have d30:w2.cell? ⟨w.heap.size+3,0,none⟩=some (.bool false):=by rw[hfc _ _ (by omega)];go_simp
 have f30:w2.frozen? ⟨w.heap.size+3,0,none⟩=false:=by rw[hff _ _ (by omega)];go_simp
 have d31:w2.cell? ⟨w.heap.size+3,1,none⟩=some (.slice none 0 0):=by rw[hfc _ _ (by omega)];go_simp
 have f31:w2.frozen? ⟨w.heap.size+3,1,none⟩=false:=by rw[hff _ _ (by omega)];go_simp
 have k2:w.heap.size+2<w2.heap.size:=by omega
 have k3:w.heap.size+3<w2.heap.size:=by omega
 have k0:w.heap.size<w2.heap.size:=by omega
 have k1:w.heap.size+1<w2.heap.size:=by omega
 clear hfc hff
 go_wp2_with fail
 go_region_held3 (fun w'=>w'.cell? ⟨w.heap.size,0,none⟩=some (.bool na)/\w'.cell? ⟨w.heap.size+1,0,none⟩=some (.bool nb)) (first | exact ⟨s0,s1⟩ | exact ⟨r0,r1⟩ | (refine ⟨?_,?_⟩<;>go_simp)) (first
   | (go_at_call_of 68 (Value.slice A1 l1 c1);go_must (refine (from_any _ _ _ _ _ _ h1d hq1).mono ?_;rintro e w3 ⟨n3,A3,l3,c3,rfl,h3,hb3⟩;obtain ⟨hc3,hf3⟩:=bcell hb3;have hsz3:=hb3.size;simp only[World.size_drew] at hsz3;have h2e:=h2d.below hb3;have r0:w3.cell? ⟨w.heap.size,0,none⟩=some (.bool na):=(hc3 _ _ (by simpa using k0)).trans d0;have r1:w3.cell? ⟨w.heap.size+1,0,none⟩=some (.bool nb):=(hc3 _ _ (by simpa using k1)).trans d1))
   | (go_at_call_of 68 (Value.slice A2 l2 c2);go_must (refine (from_any _ _ _ _ _ _ h2e hr1).mono ?_;rintro e w4 ⟨n4,A4,l4,c4,rfl,h4,hb4⟩;have h3e:=h3.below hb4;have hc4:=(bcell (hb3.trans (hb4.mono hb3.size))).1;have hf4:=(bcell (hb3.trans (hb4.mono hb3.size))).2;have hsz4:=hb4.size;have s0:w4.cell? ⟨w.heap.size,0,none⟩=some (.bool na):=(hc4 _ _ (by simpa using k0)).trans d0;have s1:w4.cell? ⟨w.heap.size+1,0,none⟩=some (.bool nb):=(hc4 _ _ (by simpa using k1)).trans d1;have s20:w4.cell? ⟨w.heap.size+2,0,none⟩=some (.bool false):=(hc4 _ _ (by simpa using k2)).trans d20;have t20:w4.frozen? ⟨w.heap.size+2,0,none⟩=false:=(hf4 _ _ (by simpa using k2)).trans f20;have s21:w4.cell? ⟨w.heap.size+2,1,none⟩=some (.slice none 0 0):=(hc4 _ _ (by simpa using k2)).trans d21;have t21:w4.frozen? ⟨w.heap.size+2,1,none⟩=false:=(hf4 _ _ (by simpa using k2)).trans f21;have s30:w4.cell? ⟨w.heap.size+3,0,none⟩=some (.bool false):=(hc4 _ _ (by simpa using k3)).trans d30;have t30:w4.frozen? ⟨w.heap.size+3,0,none⟩=false:=(hf4 _ _ (by simpa using k3)).trans f30;have s31:w4.cell? ⟨w.heap.size+3,1,none⟩=some (.slice none 0 0):=(hc4 _ _ (by simpa using k3)).trans d31;have t31:w4.frozen? ⟨w.heap.size+3,1,none⟩=false:=(hf4 _ _ (by simpa using k3)).trans f31)))
 have H3:Hid (IntN w4 n3 A3 l3 c3 (a.tdiv b)):=by rw[<- hq.out];exact h3e
 have H4:Hid (IntN w4 n4 A4 l4 c4 (a.tmod b)):=by rw[<- hr.out];exact h4
 have Hb4:Hid (Below w.heap.size w w4):=Hb2.out.trans (((Below.refl _ _).drew.trans (hb3.trans (hb4.mono hb3.size))).mono Hb2.out.size)
 clear h3e h4 hb3 hb4 h3 h1d h2d h2e hq1 hr1 hc3 hf3 hc4 hf4 r0 r1 d0 d1 d20 d21 d30 d31 f20 f21 f30 f31 s0 s1
 go_wp2
 refine bodyPost_ret (v:=.tuple #[.agg #[.bool n3,.slice A3 l3 c3],.agg #[.bool n4,.slice A4 l4 c4],.int .i64 0]) (by simp[results,Tryz.results57,go_sem,s20,s21,s30,s31]) rfl ⟨_,_,_,_,_,_,_,_,rfl,H3.out.rets (by omega) _ _ _ _ s20 s21 s30 s31,H4.out.rets (by omega) _ _ _ _ s20 s21 s30 s31,?_⟩
 exact (((Hb4.out.setCell (by simp;omega) _).setCell (by simp;omega) _).setCell (by simp;omega) _).setCell (by simp;omega) _
end Go.Proofs.YtphmkdmflopcdaaGreat
namespace Go.Proofs.YtphmkdmflopcdaaGreat
open Go.RowKit
def flq (a b:Int):Int:=if sg (a.tmod b)*sg b<0 then a.tdiv b-1 else a.tdiv b
def flr (a b:Int):Int:=if sg (a.tmod b)*sg b<0 then a.tmod b+b else a.tmod b
structure FlW (w W:World) (nb:Bool) (B:Option Addr) (lb cb:Nat) (b:Int) (n1:Bool) (A1:Option Addr) (l1 c1:Nat) (q:Int) (n2:Bool) (A2:Option Addr) (l2 c2:Nat) (r:Int):Prop where
 w10:W.cell? ⟨w.heap.size+1,0,none⟩=some (.bool nb)
 w11:W.cell? ⟨w.heap.size+1,1,none⟩=some (.slice B lb cb)
 w20:W.cell? ⟨w.heap.size+1+1,0,none⟩=some (.bool n1)
 w21:W.cell? ⟨w.heap.size+1+1,1,none⟩=some (.slice A1 l1 c1)
 w30:W.cell? ⟨w.heap.size+1+1+1,0,none⟩=some (.bool n2)
 w31:W.cell? ⟨w.heap.size+1+1+1,1,none⟩=some (.slice A2 l2 c2)
 g20:W.frozen? ⟨w.heap.size+1+1,0,none⟩=false
 g21:W.frozen? ⟨w.heap.size+1+1,1,none⟩=false
 g30:W.frozen? ⟨w.heap.size+1+1+1,0,none⟩=false
 g31:W.frozen? ⟨w.heap.size+1+1+1,1,none⟩=false
 size:w.heap.size+4<=W.heap.size
 hb:IntAt W nb B lb cb b
 hq:IntN W n1 A1 l1 c1 q
 hr:IntN W n2 A2 l2 c2 r
 below:Below w.heap.size w W
section
variable {w W W':World} {nb:Bool} {B:Option Addr} {lb cb:Nat} {b:Int} {n1:Bool} {A1:Option Addr} {l1 c1:Nat} {q:Int} {n2:Bool} {A2:Option Addr} {l2 c2:Nat} {r:Int}
theorem FlW.move (h:FlW w W nb B lb cb b n1 A1 l1 c1 q n2 A2 l2 c2 r) (hb:Below W.heap.size W W'):FlW w W' nb B lb cb b n1 A1 l1 c1 q n2 A2 l2 c2 r:=by
 obtain ⟨hc,hf⟩:=bcell hb
 have hs:=h.size
 exact ⟨(hc _ _ (by omega)).trans h.w10,(hc _ _ (by omega)).trans h.w11,(hc _ _ (by omega)).trans h.w20,(hc _ _ (by omega)).trans h.w21,(hc _ _ (by omega)).trans h.w30,(hc _ _ (by omega)).trans h.w31,
  (hf _ _ (by omega)).trans h.g20,(hf _ _ (by omega)).trans h.g21,(hf _ _ (by omega)).trans h.g30,(hf _ _ (by omega)).trans h.g31,Nat.le_trans hs hb.size,h.hb.below hb,h.hq.below hb,h.hr.below hb,h.below.trans (hb.mono h.below.size)⟩
theorem ne_off {g:Nat} {i j:Nat} (h:i≠j):(⟨g,i,none⟩:Addr)≠⟨g,j,none⟩:=by intro e;injection e with _ e _;exact h e
theorem FlW.setq (h:FlW w W nb B lb cb b n1 A1 l1 c1 q n2 A2 l2 c2 r) {n3:Bool} {A3:Option Addr} {l3 c3:Nat} {q':Int} (h3:IntN W n3 A3 l3 c3 q') :
  FlW w ((W.setCell ⟨w.heap.size+1+1,0,none⟩ (.bool n3)).setCell ⟨w.heap.size+1+1,1,none⟩ (.slice A3 l3 c3)) nb B lb cb b n3 A3 l3 c3 q' n2 A2 l2 c2 r:=by
 have k:=h.w20
 have k1:=h.w21
 have k2:=h.w30
 have k3:=h.w31
 have k4:=h.w10
 have k5:=h.w11
 have f0:=h.g20
 have f1:=h.g21
 have f2:=h.g30
 have f3:=h.g31
 have k1':(W.setCell ⟨w.heap.size+1+1,0,none⟩ (.bool n3)).cell? ⟨w.heap.size+1+1,1,none⟩=some (.slice A1 l1 c1):=by rw[World.cell?_setCell_other _ _ _ _ (ne_off (by omega))];exact k1
 exact ⟨by go_simp,by go_simp,by go_simp,by go_simp,by go_simp,by go_simp,by go_simp,by go_simp,by go_simp,by go_simp,by simpa using h.size,
  (h.hb.store _ k (noDigit_bool _)).store _ k1' (noDigit_slice _ _ _),h3.ret _ _ k k1,h.hr.ret _ _ k k1,((h.below.setCell (p:=⟨w.heap.size+1+1,0,none⟩) (by simp;omega) _).setCell (p:=⟨w.heap.size+1+1,1,none⟩) (by simp;omega) _)⟩
theorem FlW.setr (h:FlW w W nb B lb cb b n1 A1 l1 c1 q n2 A2 l2 c2 r) {n3:Bool} {A3:Option Addr} {l3 c3:Nat} {r':Int} (h3:IntN W n3 A3 l3 c3 r') :
  FlW w ((W.setCell ⟨w.heap.size+1+1+1,0,none⟩ (.bool n3)).setCell ⟨w.heap.size+1+1+1,1,none⟩ (.slice A3 l3 c3)) nb B lb cb b n1 A1 l1 c1 q n3 A3 l3 c3 r':=by
 have k:=h.w20
 have k1:=h.w21
 have k2:=h.w30
 have k3:=h.w31
 have k4:=h.w10
 have k5:=h.w11
 have f0:=h.g20
 have f1:=h.g21
 have f2:=h.g30
 have f3:=h.g31
 have k1':(W.setCell ⟨w.heap.size+1+1+1,0,none⟩ (.bool n3)).cell? ⟨w.heap.size+1+1+1,1,none⟩=some (.slice A2 l2 c2):=by rw[World.cell?_setCell_other _ _ _ _ (ne_off (by omega))];exact k3
 exact ⟨by go_simp,by go_simp,by go_simp,by go_simp,by go_simp,by go_simp,by go_simp,by go_simp,by go_simp,by go_simp,by simpa using h.size,
  (h.hb.store _ k2 (noDigit_bool _)).store _ k1' (noDigit_slice _ _ _),h.hq.ret _ _ k2 k3,h3.ret _ _ k2 k3,((h.below.setCell (p:=⟨w.heap.size+1+1+1,0,none⟩) (by simp;omega) _).setCell (p:=⟨w.heap.size+1+1+1,1,none⟩) (by simp;omega) _)⟩
end
set_option maxHeartbeats 4000000 in
theorem floor_any (na:Bool) (A:Option Addr) (la ca:Nat) (a:Int) (nb:Bool) (B:Option Addr) (lb cb:Nat) (b:Int) (w:World) (ha:IntAt w na A la ca a) (hb:IntAt w nb B lb cb b) (hsa:SmI a) (hsb:SmI b) (hok:DivOK a.natAbs b.natAbs) (hb0:b≠0) (hs1:Sm (a.natAbs+1)) (hs2:Sm (a.natAbs+b.natAbs)) :
  Calls Tryz.prog 76 #[.agg #[.bool na,.slice A la ca],.agg #[.bool nb,.slice B lb cb]] w fun e w'=>∃ n1 A1 l1 c1 n2 A2 l2 c2,e=.returned (.tuple #[.agg #[.bool n1,.slice A1 l1 c1],.agg #[.bool n2,.slice A2 l2 c2],.int .i64 0])/\IntN w' n1 A1 l1 c1 (flq a b)/\IntN w' n2 A2 l2 c2 (flr a b)/\Below w.heap.size w w':=by
 have hbx:Below w.heap.size w ((((w.alloc (ibox na A la ca)).alloc (ibox nb B lb cb)).alloc (ibox false none 0 0)).alloc (ibox false none 0 0)):=below_four w _ _ _ _ (Nat.le_refl _)
 have hA0:=ha.below hbx
 have hB0:=hb.below hbx
 have Hbx:=Lh hbx
 clear ha hb hbx
 go_enter Tryz.func76,Tryz.ntmps76
 go_wp2_with fail
 refine (quo_any _ _ _ _ _ _ _ _ _ _ _ hA0 hB0 hsa hsb hok hb0).mono ?_
 rintro e w1 ⟨n1,A1,l1,c1,n2,A2,l2,c2,rfl,h1,h2,hb1⟩
 obtain ⟨hc,hf⟩:=bcell hb1
 have hsz:=hb1.size
 simp only[World.size_alloc] at hsz
 have d10:w1.cell? ⟨w.heap.size+1,0,none⟩=some (.bool nb):=by rw[hc _ _ (by simp)];go_simp
 have d11:w1.cell? ⟨w.heap.size+1,1,none⟩=some (.slice B lb cb):=by rw[hc _ _ (by simp)];go_simp
 have d20:w1.cell? ⟨w.heap.size+1+1,0,none⟩=some (.bool false):=by rw[hc _ _ (by simp)];go_simp
 have f20:w1.frozen? ⟨w.heap.size+1+1,0,none⟩=false:=by rw[hf _ _ (by simp)];go_simp
 have d21:w1.cell? ⟨w.heap.size+1+1,1,none⟩=some (.slice none 0 0):=by rw[hc _ _ (by simp)];go_simp
 have f21:w1.frozen? ⟨w.heap.size+1+1,1,none⟩=false:=by rw[hf _ _ (by simp)];go_simp
 have d30:w1.cell? ⟨w.heap.size+1+1+1,0,none⟩=some (.bool false):=by rw[hc _ _ (by simp)];go_simp
 have f30:w1.frozen? ⟨w.heap.size+1+1+1,0,none⟩=false:=by rw[hf _ _ (by simp)];go_simp
 have d31:w1.cell? ⟨w.heap.size+1+1+1,1,none⟩=some (.slice none 0 0):=by rw[hc _ _ (by simp)];go_simp
 have f31:w1.frozen? ⟨w.heap.size+1+1+1,1,none⟩=false:=by rw[hf _ _ (by simp)];go_simp
 have h1':=h1.rets (g:=w.heap.size+1+1) (g':=w.heap.size+1+1+1) (by omega) (.bool n1) (.slice A1 l1 c1) (.bool n2) (.slice A2 l2 c2) d20 d21 d30 d31
 have h2':=h2.rets (g:=w.heap.size+1+1) (g':=w.heap.size+1+1+1) (by omega) (.bool n1) (.slice A1 l1 c1) (.bool n2) (.slice A2 l2 c2) d20 d21 d30 d31
 have hB1:=(((((hB0.below hb1).store (.bool n1) d20 (noDigit_bool _)).store (.slice A1 l1 c1) (p:=⟨w.heap.size+1+1,1,none⟩) (v:=.slice none 0 0) (by go_simp) (noDigit_slice _ _ _))).store (.bool n2) (p:=⟨w.heap.size+1+1+1,0,none⟩) (v:=.bool false) (by go_simp) (noDigit_bool _)).store (.slice A2 l2 c2) (p:=⟨w.heap.size+1+1+1,1,none⟩) (v:=.slice none 0 0) (by go_simp) (noDigit_slice _ _ _)
 have hbw:=(((((Hbx.out.trans (hb1.mono Hbx.out.size)).setCell (p:=⟨w.heap.size+1+1,0,none⟩) (by simp<;>omega) (.bool n1)).setCell (p:=⟨w.heap.size+1+1,1,none⟩) (by simp<;>omega) (.slice A1 l1 c1)).setCell (p:=⟨w.heap.size+1+1+1,0,none⟩) (by simp<;>omega) (.bool n2)).setCell (p:=⟨w.heap.size+1+1+1,1,none⟩) (by simp<;>omega) (.slice A2 l2 c2))
 have hW:∃ W,W=(((w1.setCell ⟨w.heap.size+1+1,0,none⟩ (.bool n1)).setCell ⟨w.heap.size+1+1,1,none⟩ (.slice A1 l1 c1)).setCell ⟨w.heap.size+1+1+1,0,none⟩ (.bool n2)).setCell ⟨w.heap.size+1+1+1,1,none⟩ (.slice A2 l2 c2):=⟨_,rfl⟩
 obtain ⟨W,hW⟩:=hW
 rw[<- hW] at h1' h2' hB1 hbw
 have w10:W.cell? ⟨w.heap.size+1,0,none⟩=some (.bool nb):=by rw[hW];go_simp
 have w11:W.cell? ⟨w.heap.size+1,1,none⟩=some (.slice B lb cb):=by rw[hW];go_simp
 have w20:W.cell? ⟨w.heap.size+1+1,0,none⟩=some (.bool n1):=by rw[hW];go_simp
 have w21:W.cell? ⟨w.heap.size+1+1,1,none⟩=some (.slice A1 l1 c1):=by rw[hW];go_simp
 have w30:W.cell? ⟨w.heap.size+1+1+1,0,none⟩=some (.bool n2):=by rw[hW];go_simp
 have w31:W.cell? ⟨w.heap.size+1+1+1,1,none⟩=some (.slice A2 l2 c2):=by rw[hW];go_simp
 have g20:W.frozen? ⟨w.heap.size+1+1,0,none⟩=false:=by rw[hW];go_simp
 have g21:W.frozen? ⟨w.heap.size+1+1,1,none⟩=false:=by rw[hW];go_simp
 have g30:W.frozen? ⟨w.heap.size+1+1+1,0,none⟩=false:=by rw[hW];go_simp
 have g31:W.frozen? ⟨w.heap.size+1+1+1,1,none⟩=false:=by rw[hW];go_simp
 have wsz:w.heap.size+4<=W.heap.size:=by rw[hW];simp;omega
 have Hw:=Lh hW
 have HF:FlW w W nb B lb cb b n1 A1 l1 c1 (a.tdiv b) n2 A2 l2 c2 (a.tmod b):=⟨w10,w11,w20,w21,w30,w31,g20,g21,g30,g31,wsz,hB1,h1',h2',hbw⟩
 have HF:=Lh HF
 clear hW h1' h2' hB1 hbw h1 h2 hB0 hA0 w10 w11 w20 w21 w30 w31 g20 g21 g30 g31 wsz
 go_wp2_with fail
 rw[<- Hw.out]
 clear Hw d10 d11 d20 d21 d30 d31 f20 f21 f30 f31
 go_cut [24] (fun s24 wx=>s24=.bool (decide (sg (a.tmod b)*sg b<0))/\FlW w wx nb B lb cb b n1 A1 l1 c1 (a.tdiv b) n2 A2 l2 c2 (a.tmod b))
 case first =>
  have e10:=HF.out.w10
  have e11:=HF.out.w11
  have e30:=HF.out.w30
  have e31:=HF.out.w31
  have esz:=HF.out.size
  have k1:w.heap.size+1<W.heap.size:=by omega
  have k3:w.heap.size+1+1+1<W.heap.size:=by omega
  have hwp:IntKind.i64.wrap (sg (a.tmod b)*sg b)=sg (a.tmod b)*sg b:=by
   rcases sg_cases (a.tmod b) with ⟨_,x2⟩ | ⟨_,x2⟩ | ⟨_,x2⟩<;>rcases sg_cases b with ⟨_,y2⟩ | ⟨_,y2⟩ | ⟨_,y2⟩<;>rw[x2,y2]<;>rfl
  have hsr:SmI (a.tmod b):=by
   unfold SmI at *
   refine hsa.mono ?_
   rw[Int.natAbs_tmod]
   exact Nat.mod_le _ _
  go_region_with (first
   | (go_at_call_of 37 (Value.slice A2 l2 c2);go_must (refine (isign_any _ _ _ _ _ _ ?_ hsr).mono ?_;(exact HF.out.hr.at_.below (by repeat (first | exact Below.refl _ _ | refine Below.drew ?_ | refine Below.alloc ?_ (by simp;try omega) _)));rintro e w' ⟨rfl,rfl⟩))
   | (go_at_call_of 37 (Value.slice B lb cb);go_must (refine (isign_any _ _ _ _ _ _ ?_ hsb).mono ?_;(exact HF.out.hb.below (by repeat (first | exact Below.refl _ _ | refine Below.drew ?_ | refine Below.alloc ?_ (by simp;try omega) _)));rintro e w' ⟨rfl,rfl⟩)))
  all_goals go_wp2_with fail
  all_goals go_meet
  all_goals
   refine ⟨rfl,HF.out.move ?_⟩
   repeat (first | exact Below.refl _ _ | refine Below.drew ?_ | refine Below.alloc ?_ (by simp;try omega) _)
 case rest =>
  clear HF
  obtain ⟨rfl,hfl⟩:=hcut
  have HF:=Lh hfl
  by_cases hneg:sg (a.tmod b)*sg b<0
  ·have e1:flq a b=a.tdiv b-1:=if_pos hneg
   have e2:flr a b=a.tmod b+b:=if_pos hneg
   rw[show decide (sg (a.tmod b)*sg b<0)=true from decide_eq_true hneg]
   have E1:=Lh e1
   have E2:=Lh e2
   clear e1 e2 hneg
   have e20:=hfl.w20
   have e21:=hfl.w21
   have f20:=hfl.g20
   have f21:=hfl.g21
   have esz:=hfl.size
   have hq1:=hfl.hq.at_.below (Below.refl _ _).drew
   have hsq:SmI (a.tdiv b):=by
    unfold SmI at *
    refine hsa.mono ?_
    rw[Int.natAbs_tdiv]
    exact Nat.div_le_self _ _
   have hsq1:Sm ((a.tdiv b).natAbs+(1:Int).natAbs):=by
    refine hs1.mono ?_
    rw[Int.natAbs_tdiv]
    have:=Nat.div_le_self a.natAbs b.natAbs
    simp;exact this
   have hsr:SmI (a.tmod b):=by
    unfold SmI at *
    refine hsa.mono ?_
    rw[Int.natAbs_tmod]
    exact Nat.mod_le _ _
   have hsr1:Sm ((a.tmod b).natAbs+b.natAbs):=by
    refine hs2.mono ?_
    rw[Int.natAbs_tmod]
    have:=Nat.mod_le a.natAbs b.natAbs
    omega
   have k2:w.heap.size+1+1<wc.heap.size:=by omega
   have HD:=Lh (hfl.move (Below.refl _ _).drew)
   clear hfl hq1
   go_wp2_with fail
   go_cut [] (fun wx=>∃ n4 A4 l4 c4,FlW w wx nb B lb cb b n4 A4 l4 c4 (a.tdiv b-1) n2 A2 l2 c2 (a.tmod b))
   case first =>
    go_region_with (first
     | (go_at_call 22;go_must (refine (iof_any 1 _ (by unfold I64;omega)).mono ?_;rintro e w3 ⟨n3,A3,l3,c3,rfl,h3,hb3⟩;obtain ⟨hc3,hf3⟩:=bcell hb3;have hsz3:=hb3.size;simp only[World.size_drew] at hsz3;have hq2:=(HD.out.move hb3).hq.at_;have r20:w3.cell? ⟨w.heap.size+1+1,0,none⟩=some (.bool n1):=(hc3 _ _ (by simpa using k2)).trans e20;have r21:w3.cell? ⟨w.heap.size+1+1,1,none⟩=some (.slice A1 l1 c1):=(hc3 _ _ (by simpa using k2)).trans e21))
     | (go_at_call 30;go_must (refine (isub_any _ _ _ _ _ _ _ _ _ _ _ hq2 h3.at_ hsq (SmI.of64 (by unfold I64;omega)) hsq1).mono ?_;rintro e w4 ⟨n4,A4,l4,c4,rfl,h4,hb4⟩;have HG:=Lh (HD.out.move (hb3.trans (hb4.mono hb3.size)));have H4:=Lh h4;have s20:=HG.out.w20;have s21:=HG.out.w21;have t20:=HG.out.g20;have t21:=HG.out.g21)))
    all_goals go_wp2_with fail
    all_goals go_meet
    all_goals exact ⟨_,_,_,_,(HG.out.setq H4.out).move (by repeat (first | exact Below.refl _ _ | refine Below.drew ?_))⟩
   case rest =>
    clear HF HD e20 e21 f20 f21 esz k2 hsq hsq1
    obtain ⟨n4,A4,l4,c4,hfl⟩:=hcut
    have HF:=Lh hfl
    have e10:=hfl.w10
    have e11:=hfl.w11
    have e20:=hfl.w20
    have e21:=hfl.w21
    have e30:=hfl.w30
    have e31:=hfl.w31
    have hr1:=hfl.hr.at_
    have hbb:=hfl.hb
    clear hfl
    go_wp2_with fail
    refine (iadd_any _ _ _ _ _ _ _ _ _ _ _ hr1 hbb hsr hsb hsr1).mono ?_
    rintro e w5 ⟨n5,A5,l5,c5,rfl,h5,hb5⟩
    have hg:=(HF.out.move hb5)
    have H5:=Lh h5
    have HG:=Lh hg
    have HH:=Lh (hg.setr h5)
    clear e10 e11 e20 e21 e30 e31 hr1 hbb h5 hb5 hsr hsr1 HF
    have e20:=hg.w20
    have e21:=hg.w21
    have e30:=hg.w30
    have e31:=hg.w31
    have f20:=hg.g20
    have f21:=hg.g21
    have f30:=hg.g30
    have f31:=hg.g31
    clear hg
    go_wp2_with fail
    go_region
    go_wp2
    have HZ:=Lh (((HH.out.setq HH.out.hq).setr (HH.out.setq HH.out.hq).hr).move (Below.refl _ _).drew)
    have z20:=HZ.out.w20
    have z21:=HZ.out.w21
    have z30:=HZ.out.w30
    have z31:=HZ.out.w31
    refine bodyPost_ret (v:=.tuple #[.agg #[.bool n4,.slice A4 l4 c4],.agg #[.bool n5,.slice A5 l5 c5],.int .i64 0]) (by clear e20 e21 e30 e31 f20 f21 f30 f31 HZ;generalize World.drew _=Z at z20 z21 z30 z31 ⊢;simp[results,Tryz.results76,go_sem,z20,z21,z30,z31]) rfl ⟨_,_,_,_,_,_,_,_,rfl,?_,?_,HZ.out.below⟩
    ·rw[E1.out];exact HZ.out.hq
    ·rw[E2.out];exact HZ.out.hr
  ·have E1:=Lh (show flq a b=a.tdiv b from if_neg hneg)
   have E2:=Lh (show flr a b=a.tmod b from if_neg hneg)
   rw[show decide (sg (a.tmod b)*sg b<0)=false from decide_eq_false hneg]
   have e20:=hfl.w20
   have e21:=hfl.w21
   have e30:=hfl.w30
   have e31:=hfl.w31
   have f20:=hfl.g20
   have f21:=hfl.g21
   have f30:=hfl.g30
   have f31:=hfl.g31
   clear hfl hneg
   go_wp2_with fail
   go_region
   go_wp2
   have HZ:=Lh (((HF.out.setq HF.out.hq).setr (HF.out.setq HF.out.hq).hr).move (Below.refl _ _).drew)
   refine bodyPost_ret (v:=.tuple #[.agg #[.bool n1,.slice A1 l1 c1],.agg #[.bool n2,.slice A2 l2 c2],.int .i64 0]) (by simp[results,Tryz.results76,go_sem,e20,e21,e30,e31]) rfl ⟨_,_,_,_,_,_,_,_,rfl,?_,?_,HZ.out.below⟩
   ·rw[E1.out];exact HZ.out.hq
   ·rw[E2.out];exact HZ.out.hr
end Go.Proofs.YtphmkdmflopcdaaGreat
