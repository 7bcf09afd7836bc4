/- The walks of division, third part: Floor. -/
import Derived.Test.YtpeiiomjnjemjaaGreatIntD
import Derived.WalkMore
import Derived.Test.YtpeiiomjnjemjaaGreatPolB
namespace Go.Proofs.YtpeiiomjnjemjaaGreat
open Go.RowKit
noncomputable def qD (h l y:Nat):Nat:=(h*BB+l) / y
noncomputable def rD (h l y:Nat):Nat:=(h*BB+l) % y
theorem div32_or {h l:Nat} (hh:h<4294967296) (hl:l<4294967296):bits BinOp.or IntKind.u64 ((h:Int)*4294967296) (l:Int)=((h*4294967296+l:Nat):Int):=by
 have e:(h:Int)*4294967296=((h*4294967296:Nat):Int):=by omega
 rw[e,u64_or_nat _ _ (by omega) (by omega)]
 have:h*4294967296=h <<< 32:=by rw[Nat.shiftLeft_eq]
 rw[this,<- Nat.shiftLeft_add_eq_or_of_lt (by omega:l<2^32)]
theorem qD_lt {h l y:Nat} (hh:h<y) (hl:l<BB):qD h l y<BB:=by
 unfold qD
 refine Nat.div_lt_of_lt_mul ?_
 have:(h+1)*BB<=y*BB:=Nat.mul_le_mul hh (Nat.le_refl _)
 rw[Nat.add_mul,Nat.one_mul] at this
 omega
theorem rD_lt (h l y:Nat) (hy:0<y):rD h l y<y:=Nat.mod_lt _ hy
theorem qr_eq (h l y:Nat):qD h l y*y+rD h l y=h*BB+l:=by
 unfold qD rD
 rw[Nat.mul_comm]
 exact Nat.div_add_mod _ _
theorem div32_q {h l y:Nat} (hh:h<y) (hl:l<4294967296):IntKind.u64.wrap ((((h*4294967296+l:Nat):Int)).tdiv (y:Int)) % 4294967296=((qD h l y:Nat):Int):=by
 have h1:=qD_lt hh (by rw[BB_eq];exact hl)
 have e:qD h l y=(h*4294967296+l) / y:=by unfold qD;rw[BB_eq]
 rw[<- Int.ofNat_tdiv,<- e,IntKind.wrap_u64]
 rw[BB_eq] at h1
 generalize qD h l y=q at *
 omega
theorem div32_r {h l y:Nat} (hh:h<y) (hy:y<4294967296):(((h*4294967296+l:Nat):Int)).tmod (y:Int) % 4294967296=((rD h l y:Nat):Int):=by
 have h1:=rD_lt h l y (by omega)
 have e:rD h l y=(h*4294967296+l) % y:=by unfold rD;rw[BB_eq]
 rw[<- Int.ofNat_tmod,<- e]
 generalize rD h l y=q at *
 omega
set_option maxHeartbeats 400000 in
theorem div32_any (h l y:Nat) (w:World) (hh:h<y) (hl:l<4294967296) (hy:y<4294967296) :
  Calls Tryz.prog 107 #[.int .u32 (h:Int),.int .u32 (l:Int),.int .u32 (y:Int)] w fun e w'=>e=.returned (.tuple #[.int .u32 (qD h l y:Nat),.int .u32 (rD h l y:Nat)])/\∃ n,w'=w.drewN n:=by
 have hor:=Lh (div32_or (show h<4294967296 by omega) hl)
 have hq:=Lh (div32_q hh hl)
 have hr:=Lh (div32_r (l:=l) hh hy)
 go_enter Tryz.func107,Tryz.ntmps107
 go_wp2
 go_quiet (fail)
 go_wp2
 go_ret2
 exact ⟨ret_int2 (by rw[hor.out];exact hq.out) (by rw[hor.out];exact hr.out),_,rfl⟩
structure DsInv (w wr:World) (g la d:Nat) (ds:List Nat) (k r:Nat) (zs:List Nat):Prop where
 rest:r<d
 row:DRow wr g zs
 len:zs.length=la
 wd:Wd zs
 eq:val (ds.drop k)=val (zs.drop k)*d+r
 below:Below w.heap.size w wr
theorem ds_arith (a B Z d r q r' V:Nat) (e:q*d+r'=r*B+a) (h:V=Z*d+r):a+B*V=(q+B*Z)*d+r':=by
 subst h
 grind
theorem DsInv.step {w wr w1:World} {g la d:Nat} {ds:List Nat} {k r:Nat} {zs:List Nat} (h:DsInv w wr g la d ds (k+1) r zs) (hw:Wd ds) (hl:ds.length=la) (hk:k<la) (hg:w.heap.size<=g) (hn:∃ n,w1=wr.drewN n) :
  DsInv w (w1.setCell ⟨g,k,none⟩ (.int .u32 (qD r (ds.getD k 0) d:Nat))) g la d ds k (rD r (ds.getD k 0) d) (zs.set k (qD r (ds.getD k 0) d)):=by
 obtain ⟨n,rfl⟩:=hn
 refine ⟨rD_lt _ _ _ (by have:=h.rest;omega),DRow.set_ (w:=wr.drewN n) h.row k _,by rw[List.length_set,h.len],h.wd.set (qD_lt h.rest (hw.getD k)),?_,?_⟩
 ·rw[drop_getD_cons ds (by omega),drop_getD_cons (zs.set k _) (by rw[List.length_set,h.len];exact hk),drop_set_lt zs (by omega)]
  have e:(zs.set k (qD r (ds.getD k 0) d)).getD k 0=qD r (ds.getD k 0) d:=by
   rw[List.getD_eq_getElem?_getD,List.getElem?_set_self (by rw[h.len];exact hk)];rfl
  rw[e]
  exact ds_arith _ _ _ _ _ _ _ _ (qr_eq _ _ _) h.eq
 ·have hq:Below w.heap.size wr (wr.drewN n):=⟨rfl,rfl,rfl,Nat.le_refl _,fun _ _=>rfl⟩
  exact (h.below.trans hq).setCell hg _
set_option maxHeartbeats 1000000 in
theorem divSmall_any (A:Option Addr) (len cap n d:Nat) (w:World) (h:NatAt w A len cap n) (hs:Sm n) (hd0:0<d) (hd:d<4294967296) :
  Calls Tryz.prog 101 #[.slice A len cap,.int .u32 (d:Int)] w fun e w'=>∃ A' len' cap',e=.returned (.tuple #[.slice A' len' cap',.int .u32 ((n % d:Nat):Int),.bool true])/\NatN w' A' len' cap' (n / d)/\Below w.heap.size w w':=by
 go_enter Tryz.func101,Tryz.ntmps101
 go_wp2_with fail
 refine (trim_any _ _ _ _ _ h hs).mono ?_
 rintro e w1 ⟨l1,rfl,h1,rfl⟩
 have hl1:=Lh h1.len
 have hlm:l1<=1099511627776:=by have:=hl1.out;unfold Sm at hs;omega
 have hdig:=h1.digits
 clear h h1 hs
 go_wp2_with (at_make;refine wpList_make_dig _ rfl (.tmp 15) (.tmp 15) rfl l1 rfl rfl (by omega) ?_)
 intro w1 hz hb1 hsz
 have Hz:=Lh hz
 have Hb1:=Lh hb1
 have hlen:=Lh hdig.length
 clear hz hb1 hsz
 go_wp2
 go_loopw [8,9] (fun r i wr=>∃ (k rr:Nat) (zs:List Nat),k<=l1/\r=.int .u32 (rr:Int)/\i=.int .i64 ((k:Int)-1)/\DsInv w wr w.heap.size l1 d (digs n) k rr zs) (fun _ i _=>(intOf i+1).toNat)
 case atStart =>
  refine ⟨l1,0,List.replicate l1 0,Nat.le_refl _,rfl,rfl,hd0,Hz.out,by simp,Wd.replicate _,?_,Hb1.out⟩
  rw[List.drop_eq_nil_of_le (by rw[hlen.out];omega),List.drop_eq_nil_of_le (by simp)]
  simp[val]
 case round =>
  clear Hz Hb1
  obtain ⟨k,rr,zs,hk,rfl,rfl,hinv⟩:=hrel
  cases k with
  | zero =>
    have he:=hinv.eq
    rw[List.drop_zero,List.drop_zero,val_digs] at he
    have hrest:=hinv.rest
    have hzl:=hinv.len
    have hdz:=hinv.row.dig hinv.wd (cap:=l1) (by omega)
    rw[hzl] at hdz
    have hq:val zs=n / d:=by rw[he,Nat.add_comm,Nat.add_mul_div_right _ _ hd0,Nat.div_eq_of_lt hrest,Nat.zero_add]
    have hr:rr=n % d:=by rw[he,Nat.add_comm,Nat.add_mul_mod_self_right,Nat.mod_eq_of_lt hrest]
    have Hb:=Lh hinv.below
    subst hr
    clear he hrest hzl hinv hdig
    go_wp2_with fail
    refine (trim_dig _ _ _ _ _ _ hdz hq (by omega)).mono ?_
    rintro e w2 ⟨l2,rfl,h2,rfl⟩
    have H2:=Lh h2
    clear h2 hdz hq
    go_wp2
    refine bodyPost_ret (v:=.tuple #[.slice (some ⟨w.heap.size,0,none⟩) l2 l1,.int .u32 ((n % d:Nat):Int),.bool true]) (by simp[results,Tryz.results101,go_sem]) rfl ⟨_,_,_,rfl,H2.out,Hb.out⟩
  | succ k =>
    obtain ⟨b,off,rfl,hb,hc⟩:=hdig.at_ (by omega)
    have hcell:=(hinv.below.cell (p:=⟨b,off+k,none⟩) hb).trans (hc k (by omega))
    have hkl:(k:Int)<(l1:Int):=by omega
    have hrest:=hinv.rest
    have hwk:=(digs_wd n).getD k
    rw[BB_eq] at hwk
    have hstep:=Lh (fun w1=>hinv.step (w1:=w1) (digs_wd n) hlen.out (show k<l1 by omega) (Nat.le_refl _))
    have hzk:=hinv.row.cell (i:=k) (by rw[hinv.len];omega)
    have hzf:=hinv.row.frozen k
    have Hlt:=Lh hinv.row.lt
    clear hc hdig hinv
    rw[show ((k+1:Nat):Int)-1=(k:Int) from by omega]
    go_wp2_with fail
    rw[<- List.getD_eq_getElem?_getD]
    refine (div32_any _ _ _ _ hrest hwk hd).mono ?_
    rintro e w2 ⟨rfl,hw2⟩
    have Hs:=Lh (hstep.out w2 hw2)
    obtain ⟨nn,rfl⟩:=hw2
    have hzk2:(wr.drewN nn).cell? ⟨w.heap.size,k,none⟩=_:=hzk
    have hzf2:(wr.drewN nn).frozen? ⟨w.heap.size,k,none⟩=false:=hzf
    clear hzk hzf hcell hwk hrest
    go_wp2
    go_roundw
    case rel=>exact ⟨k,_,_,by omega,rfl,rfl,Hs.out⟩
    case measure=>simp[intOf]
end Go.Proofs.YtpeiiomjnjemjaaGreat
namespace Go.Proofs.YtpeiiomjnjemjaaGreat
open Go.RowKit
theorem dlen_one {b:Nat} (h:dlen b=1):b≠0/\b<4294967296/\(digs b).getD 0 0=b:=by
 have h0:b≠0:=by intro e;rw[e,dlen_zero] at h;omega
 have h1:=lt_pow_dlen b
 rw[h,Nat.pow_one,BB_eq] at h1
 refine ⟨h0,h1,?_⟩
 rw[digs_pos h0]
 show b % BB=b
 rw[BB_eq,Nat.mod_eq_of_lt h1]
def DivOK (a b:Nat):Prop:=a<b∨dlen b=1
set_option maxRecDepth 100000 in
set_option maxHeartbeats 2000000 in
theorem divide_any (A B:Option Addr) (la ca lb cb a b:Nat) (w:World) (ha:NatAt w A la ca a) (hb:NatAt w B lb cb b) (hsa:Sm a) (hsb:Sm b) (hok:DivOK a b) :
  Calls Tryz.prog 96 #[.slice A la ca,.slice B lb cb] w fun e w'=>∃ A1 l1 c1 A2 l2 c2,e=.returned (.tuple #[.slice A1 l1 c1,.slice A2 l2 c2])/\NatN w' A1 l1 c1 (a / b)/\NatN w' A2 l2 c2 (a % b)/\Below w.heap.size w w':=by
 by_cases hlt:a<b
 ·go_enter Tryz.func96,Tryz.ntmps96
  go_wp2
  go_step3
  go_wp2_with fail
  refine (normal_any _ _ _ _ _ hb hsb).mono ?_
  rintro e w1 ⟨B1,lb1,cb1,rfl,hB1,hb1⟩
  have hA1:=ha.below hb1
  have hcm:cmpn a b<0:=by rw[cmpn_lt hlt];omega
  clear ha hb
  go_wp2_with fail
  refine (cmp_any _ _ _ _ _ _ _ _ _ hA1 hB1.at_ hsa hsb).mono ?_
  rintro e w2 ⟨rfl,nq,rfl⟩
  have hbq:Below w1.heap.size w1 (w1.drewN nq):=⟨rfl,rfl,rfl,Nat.le_refl _,fun _ _=>rfl⟩
  have hA2:=hA1.below hbq
  have Hb1:=Lh (hb1.trans (hbq.mono hb1.size))
  clear hA1 hbq hb1 hB1
  go_wp2_with fail
  refine (normal_any _ _ _ _ _ hA2 hsa).mono ?_
  rintro e w3 ⟨A3,l3,c3,rfl,h3,hb3⟩
  have H3:=Lh h3
  have Hb3:=Lh (Hb1.out.trans (hb3.mono Hb1.out.size))
  have Hlt:=Lh hlt
  clear h3 hb3 hA2 hlt hcm
  go_wp2
  (try rw[Exit.noGoto_ret])
  go_ret2
  refine ⟨_,_,_,_,_,_,rfl,?_,?_,Hb3.out⟩
  ·rw[Nat.div_eq_of_lt Hlt.out];exact NatN.zero _ _ _
  ·rw[Nat.mod_eq_of_lt Hlt.out];exact H3.out
 ·obtain ⟨hb0,hbl,hbd⟩:=dlen_one (hok.resolve_left hlt)
  have hd1:=hok.resolve_left hlt
  go_enter Tryz.func96,Tryz.ntmps96
  go_wp2
  go_step3
  go_wp2_with fail
  refine (normal_any _ _ _ _ _ hb hsb).mono ?_
  rintro e w1 ⟨B1,lb1,cb1,rfl,hB1,hb1⟩
  have hA1:=ha.below hb1
  have hcm:0<=cmpn a b:=by unfold cmpn;rw[if_neg hlt];split<;>omega
  have hl1:lb1=1:=by rw[hB1.len];exact hd1
  subst hl1
  clear ha hb
  go_wp2_with fail
  refine (cmp_any _ _ _ _ _ _ _ _ _ hA1 hB1.at_ hsa hsb).mono ?_
  rintro e w2 ⟨rfl,nq,rfl⟩
  have hbq:Below w1.heap.size w1 (w1.drewN nq):=⟨rfl,rfl,rfl,Nat.le_refl _,fun _ _=>rfl⟩
  have hA2:=hA1.below hbq
  obtain ⟨bb,off,rfl,hbb,hc⟩:=(hB1.below hbq).digits.at_ (by omega)
  have hcell:=hc 0 (by omega)
  rw[hbd,Nat.add_zero] at hcell
  have Hb1:=Lh (hb1.trans (hbq.mono hb1.size))
  have Hlt:=Lh hlt
  clear hA1 hbq hb1 hB1 hc hbd hlt hd1 hok
  go_wp2_with fail
  refine (divSmall_any _ _ _ _ _ _ hA2 hsa (by omega) hbl).mono ?_
  rintro e w3 ⟨A3,l3,c3,rfl,h3,hb3⟩
  have H3:=Lh h3
  have Hb3:=Lh (Hb1.out.trans (hb3.mono Hb1.out.size))
  have hmod:a % b<4294967296:=Nat.lt_of_lt_of_le (Nat.mod_lt _ (by omega)) (by omega)
  clear h3 hb3 hA2 hcm
  generalize hr:a % b=r at hmod ⊢
  have Hr:=Lh hr
  clear hr
  go_wp2_with fail
  refine (of_any _ _ (show U64 r by unfold U64;rw[BB_eq];omega)).mono ?_
  rintro e w4 ⟨A4,l4,c4,rfl,h4,hb4⟩
  have H4:=Lh h4
  have Hb4:=Lh (Hb3.out.trans (hb4.mono Hb3.out.size))
  have H3':=Lh (H3.out.below hb4)
  clear h4 hb4
  go_wp2
  (try rw[Exit.noGoto_ret])
  go_ret2
  refine ⟨_,_,_,_,_,_,rfl,H3'.out,?_,Hb4.out⟩
  rw[Hr.out];exact H4.out
set_option maxHeartbeats 400000 in
theorem dzero_any (neg:Bool) (A:Option Addr) (len cap:Nat) (z:Int) (w:World) (h:IntAt w neg A len cap z) (hs:SmI z) :
  Calls Tryz.prog 95 #[.agg #[.bool neg,.slice A len cap]] w fun e w'=>e=.returned (.bool (decide (z=0)))/\Below w.heap.size w w':=by
 have hb0:Below w.heap.size w (w.alloc (ibox neg A len cap)):=(Below.refl _ _).alloc (Nat.le_refl _) _
 have h0:=h.below hb0
 have Hb0:=Lh hb0
 clear h hb0
 go_enter Tryz.func95,Tryz.ntmps95
 go_wp2_with fail
 refine (isign_any _ _ _ _ _ _ h0 hs).mono ?_
 rintro e w1 ⟨rfl,rfl⟩
 clear h0
 have Hb1:=Lh (below_two (B:=w.heap.size) w (ibox neg A len cap) (ibox neg A len cap) (Nat.le_refl _))
 have hd:decide (z=0)=(sg z == 0):=by
  rcases sg_cases z with ⟨h1,h2⟩ | ⟨h1,h2⟩ | ⟨h1,h2⟩<;>rw[h2]<;>simp<;>omega
 have Hd:=Lh hd
 clear hd
 go_wp2
 go_ret
 exact ⟨by rw[Hd.out];rfl,Hb1.out⟩
theorem sgn_tdiv (na nb:Bool) {a b:Int} (ha:a=sgn na a.natAbs) (hb:b=sgn nb b.natAbs):sgn (!(na == nb)) (a.natAbs / b.natAbs)=a.tdiv b:=by
 generalize a.natAbs=x at *
 generalize b.natAbs=y at *
 subst ha hb
 cases na<;>cases nb<;>simp[sgn,Int.neg_tdiv,Int.tdiv_neg]
theorem sgn_tmod (na:Bool) {a b:Int} (ha:a=sgn na a.natAbs):sgn na (a.natAbs % b.natAbs)=a.tmod b:=by
 have e:∀ x:Nat,(x:Int).tmod b=((x % b.natAbs:Nat):Int):=by
  intro x
  rw[Int.ofNat_tmod]
  rcases Int.natAbs_eq b with h | h<;>rw[h]<;>simp
 generalize a.natAbs=x at *
 subst ha
 cases na<;>simp only[sgn_true,sgn_false,Int.neg_tmod,e]
theorem below_four {B:Nat} (w:World) (o1 o2 o3 o4:Obj) (h:B<=w.heap.size):Below B w ((((w.alloc o1).alloc o2).alloc o3).alloc o4):=(below_three w o1 o2 o3 h).alloc (by simp;omega) _
theorem IntN.rets {w:World} {neg:Bool} {A:Option Addr} {len cap:Nat} {z:Int} (h:IntN w neg A len cap z) {g g':Nat} (hg:g≠g') {b0 b1:Bool} {A0 A1:Option Addr} {l0 c0 l1 c1:Nat} (u v u' v':Value) (h0:w.cell? ⟨g,0,none⟩=some (.bool b0)) (h1:w.cell? ⟨g,1,none⟩=some (.slice A0 l0 c0)) (h2:w.cell? ⟨g',0,none⟩=some (.bool b1)) (h3:w.cell? ⟨g',1,none⟩=some (.slice A1 l1 c1)) :
  IntN ((((w.setCell ⟨g,0,none⟩ u).setCell ⟨g,1,none⟩ v).setCell ⟨g',0,none⟩ u').setCell ⟨g',1,none⟩ v') neg A len cap z:=by
 refine (h.ret u v h0 h1).ret u' v' (b0:=b1) (A0:=A1) (l0:=l1) (c0:=c1) ?_ ?_
 ·rw[World.cell?_setCell_other _ _ _ _ (by intro e;injection e with e _;exact hg e),World.cell?_setCell_other _ _ _ _ (by intro e;injection e with e _;exact hg e)];exact h2
 ·rw[World.cell?_setCell_other _ _ _ _ (by intro e;injection e with e _;exact hg e),World.cell?_setCell_other _ _ _ _ (by intro e;injection e with e _;exact hg e)];exact h3
end Go.Proofs.YtpeiiomjnjemjaaGreat
namespace Go.Proofs.YtpeiiomjnjemjaaGreat
open Go.RowKit
def flq (a b:Int):Int:=if sg (a.tmod b)*sg b<0 then a.tdiv b-1 else a.tdiv b
def flr (a b:Int):Int:=if sg (a.tmod b)*sg b<0 then a.tmod b+b else a.tmod b
structure FlW (w W:World) (nb:Bool) (B:Option Addr) (lb cb:Nat) (b:Int) (n1:Bool) (A1:Option Addr) (l1 c1:Nat) (q:Int) (n2:Bool) (A2:Option Addr) (l2 c2:Nat) (r:Int):Prop where
 w10:W.cell? ⟨w.heap.size+1,0,none⟩=some (.bool nb)
 w11:W.cell? ⟨w.heap.size+1,1,none⟩=some (.slice B lb cb)
 w20:W.cell? ⟨w.heap.size+1+1,0,none⟩=some (.bool n1)
 w21:W.cell? ⟨w.heap.size+1+1,1,none⟩=some (.slice A1 l1 c1)
 w30:W.cell? ⟨w.heap.size+1+1+1,0,none⟩=some (.bool n2)
 w31:W.cell? ⟨w.heap.size+1+1+1,1,none⟩=some (.slice A2 l2 c2)
 g20:W.frozen? ⟨w.heap.size+1+1,0,none⟩=false
 g21:W.frozen? ⟨w.heap.size+1+1,1,none⟩=false
 g30:W.frozen? ⟨w.heap.size+1+1+1,0,none⟩=false
 g31:W.frozen? ⟨w.heap.size+1+1+1,1,none⟩=false
 size:w.heap.size+4<=W.heap.size
 hb:IntAt W nb B lb cb b
 hq:IntN W n1 A1 l1 c1 q
 hr:IntN W n2 A2 l2 c2 r
 below:Below w.heap.size w W
section
variable {w W W':World} {nb:Bool} {B:Option Addr} {lb cb:Nat} {b:Int} {n1:Bool} {A1:Option Addr} {l1 c1:Nat} {q:Int} {n2:Bool} {A2:Option Addr} {l2 c2:Nat} {r:Int}
theorem FlW.move (h:FlW w W nb B lb cb b n1 A1 l1 c1 q n2 A2 l2 c2 r) (hb:Below W.heap.size W W'):FlW w W' nb B lb cb b n1 A1 l1 c1 q n2 A2 l2 c2 r:=by
 obtain ⟨hc,hf⟩:=bcell hb
 have hs:=h.size
 exact ⟨(hc _ _ (by omega)).trans h.w10,(hc _ _ (by omega)).trans h.w11,(hc _ _ (by omega)).trans h.w20,(hc _ _ (by omega)).trans h.w21,(hc _ _ (by omega)).trans h.w30,(hc _ _ (by omega)).trans h.w31,
  (hf _ _ (by omega)).trans h.g20,(hf _ _ (by omega)).trans h.g21,(hf _ _ (by omega)).trans h.g30,(hf _ _ (by omega)).trans h.g31,Nat.le_trans hs hb.size,h.hb.below hb,h.hq.below hb,h.hr.below hb,h.below.trans (hb.mono h.below.size)⟩
theorem ne_off {g:Nat} {i j:Nat} (h:i≠j):(⟨g,i,none⟩:Addr)≠⟨g,j,none⟩:=by intro e;injection e with _ e _;exact h e
theorem FlW.setq (h:FlW w W nb B lb cb b n1 A1 l1 c1 q n2 A2 l2 c2 r) {n3:Bool} {A3:Option Addr} {l3 c3:Nat} {q':Int} (h3:IntN W n3 A3 l3 c3 q') :
  FlW w ((W.setCell ⟨w.heap.size+1+1,0,none⟩ (.bool n3)).setCell ⟨w.heap.size+1+1,1,none⟩ (.slice A3 l3 c3)) nb B lb cb b n3 A3 l3 c3 q' n2 A2 l2 c2 r:=by
 have k:=h.w20
 have k1:=h.w21
 have k2:=h.w30
 have k3:=h.w31
 have k4:=h.w10
 have k5:=h.w11
 have f0:=h.g20
 have f1:=h.g21
 have f2:=h.g30
 have f3:=h.g31
 have k1':(W.setCell ⟨w.heap.size+1+1,0,none⟩ (.bool n3)).cell? ⟨w.heap.size+1+1,1,none⟩=some (.slice A1 l1 c1):=by rw[World.cell?_setCell_other _ _ _ _ (ne_off (by omega))];exact k1
 exact ⟨by go_simp,by go_simp,by go_simp,by go_simp,by go_simp,by go_simp,by go_simp,by go_simp,by go_simp,by go_simp,by simpa using h.size,
  (h.hb.store _ k (noDigit_bool _)).store _ k1' (noDigit_slice _ _ _),h3.ret _ _ k k1,h.hr.ret _ _ k k1,((h.below.setCell (p:=⟨w.heap.size+1+1,0,none⟩) (by simp;omega) _).setCell (p:=⟨w.heap.size+1+1,1,none⟩) (by simp;omega) _)⟩
theorem FlW.setr (h:FlW w W nb B lb cb b n1 A1 l1 c1 q n2 A2 l2 c2 r) {n3:Bool} {A3:Option Addr} {l3 c3:Nat} {r':Int} (h3:IntN W n3 A3 l3 c3 r') :
  FlW w ((W.setCell ⟨w.heap.size+1+1+1,0,none⟩ (.bool n3)).setCell ⟨w.heap.size+1+1+1,1,none⟩ (.slice A3 l3 c3)) nb B lb cb b n1 A1 l1 c1 q n3 A3 l3 c3 r':=by
 have k:=h.w20
 have k1:=h.w21
 have k2:=h.w30
 have k3:=h.w31
 have k4:=h.w10
 have k5:=h.w11
 have f0:=h.g20
 have f1:=h.g21
 have f2:=h.g30
 have f3:=h.g31
 have k1':(W.setCell ⟨w.heap.size+1+1+1,0,none⟩ (.bool n3)).cell? ⟨w.heap.size+1+1+1,1,none⟩=some (.slice A2 l2 c2):=by rw[World.cell?_setCell_other _ _ _ _ (ne_off (by omega))];exact k3
 exact ⟨by go_simp,by go_simp,by go_simp,by go_simp,by go_simp,by go_simp,by go_simp,by go_simp,by go_simp,by go_simp,by simpa using h.size,
  (h.hb.store _ k2 (noDigit_bool _)).store _ k1' (noDigit_slice _ _ _),h.hq.ret _ _ k2 k3,h3.ret _ _ k2 k3,((h.below.setCell (p:=⟨w.heap.size+1+1+1,0,none⟩) (by simp;omega) _).setCell (p:=⟨w.heap.size+1+1+1,1,none⟩) (by simp;omega) _)⟩
end
end Go.Proofs.YtpeiiomjnjemjaaGreat
