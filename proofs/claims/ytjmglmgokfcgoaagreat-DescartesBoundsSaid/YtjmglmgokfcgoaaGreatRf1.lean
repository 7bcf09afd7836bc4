/- The reference cylinderref11: Mul, Gcd, Normal; cylinderlaw15.Poly. -/
import Derived.Test.YtjmglmgokfcgoaaGreatIrow
import Derived.Test.YtjmglmgokfcgoaaGreatRf0
import Derived.Test.YtjmglmgokfcgoaaGreatLin
namespace Go.Proofs.YtjmglmgokfcgoaaGreat
open Go.RowKit
end Go.Proofs.YtjmglmgokfcgoaaGreat
namespace Go.Proofs.YtjmglmgokfcgoaaGreat
open Go.RowKit
theorem I64At.nil (w:World) (c:Nat):I64At w none 0 c []:=⟨rfl,Nat.zero_le _,.inl rfl⟩
set_option maxRecDepth 100000 in
set_option maxHeartbeats 4000000 in
theorem rmul_any (A:Option Addr) (la ca:Nat) (f:List Int) (B:Option Addr) (lb cb:Nat) (g:List Int) (w:World) (hf:I64At w A la ca f) (hg:I64At w B lb cb g) (hma:la≤1000) (hmb:lb≤1000) {X Y:Nat} (hX:∀ j,(f.getD j 0).natAbs≤X) (hY:∀ j,(g.getD j 0).natAbs≤Y) (hXY:X*Y≤1125899906842624) :
  Calls Tryz.prog 86 #[.slice A la ca,.slice B lb cb] w fun e w'=>∃ A' l' c',e=.returned (.slice A' l' c')∧I64At w' A' l' c' (rmul f g)∧(∀ q,A'=some q→w.heap.size≤q.block)∧Below w.heap.size w w':=by
 have hla:=hf.length
 have hlb:=hg.length
 have hpf:=plen_le f
 have hpg:=plen_le g
 go_enter Tryz.func86,Tryz.ntmps86
 go_wp2_with fail
 refine (rtrim_any _ _ _ _ _ hf (by omega)).mono ?_
 rintro e w1 ⟨rfl,rfl⟩
 go_wp2_with fail
 refine (rtrim_any _ _ _ _ _ hg (by omega)).mono ?_
 rintro e w1 ⟨rfl,rfl⟩
 by_cases hf0:plen f=0
 ·have Hr:=Lib.hid (rmul_nil_l (g:=g) hf0)
  rw [hf0]
  clear hX hY hf hg
  go_wp2
  go_ret
  exact ⟨_,_,_,rfl,by rw [Hr.out];exact I64At.nil _ _,(fun q hq=>by cases hq),Below.refl _ _⟩
 by_cases hg0:plen g=0
 ·have Hr:=Lib.hid (rmul_nil_r (f:=f) hg0)
  have b1:((plen f:Int) == 0)=false:=by rw [beq_eq_false_iff_ne];omega
  rw [hg0]
  clear hX hY hf hg
  go_wp2
  go_ret
  exact ⟨_,_,_,rfl,by rw [Hr.out];exact I64At.nil _ _,(fun q hq=>by cases hq),Below.refl _ _⟩
 obtain ⟨n,hn⟩:∃ n,plen f+plen g=n+1:=⟨plen f+plen g-1,by omega⟩
 have Hres:=Lib.hid (rmul_tab hf0 hg0 hn)
 have Hend:=Lib.hid (rcs_pc f g)
 have Hgz:=Lib.hid (fun k (hk:plen g≤k)=>getD_ge_plen g k hk)
 have Hrb:=Lib.hid (rcs_bd hX hY)
 generalize plen f=pf at *
 generalize plen g=pg at *
 have HX:=Lib.hid hX
 have HY:=Lib.hid hY
 have b1:((pf:Int) == 0)=false:=by rw [beq_eq_false_iff_ne];omega
 have b2:((pg:Int) == 0)=false:=by rw [beq_eq_false_iff_ne];omega
 have hni:IntKind.i64.wrap ((pf:Int)+(pg:Int)-1)=(n:Int):=by rw [IntWalk.i64_in _ (by omega)];omega
 have hni2:(pf:Int)+(pg:Int)-1=(n:Int):=by omega
 have hnb:n≤2000:=by omega
 have Hn:=Lib.hid hn
 have Hf:=Lib.hid hf
 have Hg:=Lib.hid hg
 have lpf:pf≤la:=by omega
 have lpg:pg≤lb:=by omega
 have pf0:0<pf:=by omega
 have pg0:0<pg:=by omega
 clear hX hY hf hg hla hlb hpf hpg hf0 hg0 hn
 go_wp2_with (at_make;refine wpList_make_int _ rfl (.tmp 25) (.tmp 25) rfl n rfl rfl (by omega) ?_)
 intro w1 hz hb1 hsz
 rw [tab_zero] at hz
 have Hz:=Lib.hid hz
 have Hb1:=Lib.hid hb1
 clear hz hb1 hsz hni hni2 b1 b2
 go_wp2
 go_loopw [6] (fun s6 wr=>∃ (i:Nat) (F:Nat→Int),i≤pf∧s6=.int .i64 (i:Int)∧IRow wr w.heap.size (tab n F)∧(∀ j,j<n→F j=rcs f g j i)∧Below w.heap.size w wr) (fun s6 _=>pf-(intOf s6).toNat)
 case atStart=>exact ⟨0,_,Nat.zero_le _,rfl,Hz.out,fun j _=>rfl,Hb1.out⟩
 case round =>
  clear Hz Hb1
  obtain ⟨i,F,hi,rfl,hrow,hF,hbw⟩:=hrel
  obtain ⟨wo,rfl⟩:∃ wo:World,wo=wr:=⟨_,rfl⟩
  have Hrow:=Lib.hid hrow
  have HF:=Lib.hid hF
  have Hbw:=Lib.hid hbw
  clear hrow hF hbw
  by_cases hlt:i<pf
  ·go_wp2
   go_loopw [7] (fun s7 wx=>∃ (k:Nat) (G:Nat→Int),k≤pg∧s7=.int .i64 (k:Int)∧IRow wx w.heap.size (tab n G)∧(∀ j,j<n→G j=rcs f g j i+(if i≤j∧j<i+k then f.getD i 0*g.getD (j-i) 0 else 0))∧Below w.heap.size w wx) (fun s7 _=>pg-(intOf s7).toNat)
   case atStart=>exact ⟨0,F,Nat.zero_le _,rfl,Hrow.out,fun j hj=>by rw [HF.out j hj,if_neg (by omega),Int.add_zero],Hbw.out⟩
   case round =>
    clear Hrow HF Hbw
    obtain ⟨k,G,hk,rfl,hrow,hG,hbx⟩:=hrel
    have Hrow:=Lib.hid hrow
    have HG:=Lib.hid hG
    have Hbx:=Lib.hid hbx
    by_cases hkg:k<pg
    ·obtain ⟨c1,o1,rfl,hb1,hc1⟩:=Hf.out.at_ (by omega)
     obtain ⟨c2,o2,rfl,hb2,hc2⟩:=Hg.out.at_ (by omega)
     have e1:=(hbx.cell (p:=⟨c1,o1+i,none⟩) hb1).trans (hc1 i (by omega))
     have e2:=(hbx.cell (p:=⟨c2,o2+k,none⟩) hb2).trans (hc2 k (by omega))
     have hik:i+k<n:=by have:=Hn.out;omega
     have e3:=hrow.cell (i:=i+k) (by rw [tab_length];exact hik)
     rw [tab_get _ hik] at e3
     have f3:=hrow.frozen (i+k)
     have hGv:=hG (i+k) hik
     rw [if_neg (by omega),Int.add_zero] at hGv
     have hB:=Hrb.out (i+k) i
     rw [← hGv] at hB
     have hmx:i*(X*Y)≤1000*1125899906842624:=Nat.mul_le_mul (by omega) hXY
     have hp:(f.getD i 0*g.getD k 0).natAbs≤X*Y:=by rw [Int.natAbs_mul];exact Nat.mul_le_mul (HX.out i) (HY.out k)
     have hfx:(f.getD i 0).natAbs≤(f.getD i 0).natAbs:=Nat.le_refl _
     have HGv:=Lib.hid hGv
     obtain ⟨v,hv⟩:∃ v,v=G (i+k):=⟨_,rfl⟩
     obtain ⟨x,hx⟩:∃ x,x=f.getD i 0:=⟨_,rfl⟩
     obtain ⟨y,hy⟩:∃ y,y=g.getD k 0:=⟨_,rfl⟩
     rw [← hv] at e3 hB
     rw [← hx] at e1 hp
     rw [← hy] at e2 hp
     have Hv:=Lib.hid hv
     have Hx:=Lib.hid hx
     have Hy:=Lib.hid hy
     have nb1:w.heap.size≠c1:=by omega
     have nb2:w.heap.size≠c2:=by omega
     have i1:IntKind.i64.wrap ((i:Int)+(k:Int))=((i+k:Nat):Int):=by rw [IntWalk.i64_in _ (by omega)];omega
     have i2:(i:Int)+(k:Int)=((i+k:Nat):Int):=by omega
     obtain ⟨m,hm⟩:∃ m,m=i+k:=⟨_,rfl⟩
     rw [← hm] at e3 f3 i1 i2 hik
     have i3:((i+k:Nat):Int)=(m:Int):=by rw [hm]
     have i4:IntKind.i64.wrap (m:Int)=(m:Int):=IntWalk.i64_in _ (by omega)
     have i5:(m:Int)<(n:Int):=by omega
     have i6:(i:Int)<(pf:Int):=by omega
     have i7:(k:Int)<(pg:Int):=by omega
     have i9:IntKind.i64.wrap (x*y)=x*y:=IntWalk.i64_in _ (by omega)
     have i10:IntKind.i64.wrap (v+x*y)=v+x*y:=IntWalk.i64_in _ (by omega)
     have Hm:=Lib.hid hm
     clear hrow hG hbx hc1 hc2 hb1 hb2 hGv hv hx hy hm hfx hB hp hmx hXY
     go_wp2_with fail
     refine wp_region_last (S:=fun w'=>w'.cell? ⟨c1,o1+i,none⟩=some (.int .i64 x)∧w'.cell? ⟨c2,o2+k,none⟩=some (.int .i64 y)∧w'.cell? ⟨w.heap.size,m,none⟩=some (.int .i64 v)) (by kernel_rfl) (by kernel_rfl) (by (try dsimp only);refine ⟨?_,?_,?_⟩<;>go_simp) (fun hHeld=>?_)
     simp only [List.pop_toArray,List.dropLast]
     (refine tk (i:=0) (v:=?_) rfl rfl (Or.inl ⟨by rfl,?_⟩) ?_;rotate_left;(focus (intro w hSw;(try dsimp only at hSw);go_simp;(try with_reducible rfl)));(simp only [put_lit,List.set]))
     (refine tk (i:=1) (v:=?_) rfl rfl (Or.inl ⟨by rfl,?_⟩) ?_;rotate_left;(focus (intro w hSw;(try dsimp only at hSw);go_simp;(try with_reducible rfl)));(simp only [put_lit,List.set]))
     (refine tk (i:=2) (v:=?_) rfl rfl (Or.inl ⟨by rfl,?_⟩) ?_;rotate_left;(focus (intro w hSw;(try dsimp only at hSw);go_simp;(try with_reducible rfl)));(simp only [put_lit,List.set]))
     (refine tk (i:=3) (v:=?_) rfl rfl (Or.inl ⟨by rfl,?_⟩) ?_;rotate_left;(focus (intro w hSw;(try dsimp only at hSw);go_simp;(try with_reducible rfl)));(simp only [put_lit,List.set]))
     (refine tk (i:=4) (v:=?_) rfl rfl (Or.inl ⟨by rfl,?_⟩) ?_;rotate_left;(focus (intro w hSw;(try dsimp only at hSw);go_simp;(try with_reducible rfl)));(simp only [put_lit,List.set]))
     (refine tk (i:=5) (v:=?_) rfl rfl (Or.inl ⟨by rfl,?_⟩) ?_;rotate_left;(focus (intro w hSw;(try dsimp only at hSw);go_simp;(try with_reducible rfl)));(simp only [put_lit,List.set]))
     (refine tk (i:=6) (v:=?_) rfl rfl (Or.inl ⟨by rfl,?_⟩) ?_;rotate_left;(focus (intro w hSw;(try dsimp only at hSw);go_simp;(try with_reducible rfl)));(simp only [put_lit,List.set]))
     (refine tk (i:=7) (v:=?_) rfl rfl (Or.inl ⟨by rfl,?_⟩) ?_;rotate_left;(focus (intro w hSw;(try dsimp only at hSw);go_simp;(try with_reducible rfl)));(simp only [put_lit,List.set]))
     (refine tk (i:=8) (v:=?_) rfl rfl (Or.inl ⟨by rfl,?_⟩) ?_;rotate_left;(focus (intro w hSw;(try dsimp only at hSw);go_simp;(try with_reducible rfl)));(simp only [put_lit,List.set]))
     (refine tk (i:=9) (v:=?_) rfl rfl (Or.inl ⟨by rfl,?_⟩) ?_;rotate_left;(focus (intro w hSw;(try dsimp only at hSw);go_simp;(try with_reducible rfl)));(simp only [put_lit,List.set]))
     (refine tk (i:=10) (v:=?_) rfl rfl (Or.inl ⟨by rfl,?_⟩) ?_;rotate_left;(focus (intro w hSw;(try dsimp only at hSw);go_simp;(try with_reducible rfl)));(simp only [put_lit,List.set]))
     (refine tk (i:=11) (v:=?_) rfl rfl (Or.inl ⟨by rfl,?_⟩) ?_;rotate_left;(focus (intro w hSw;(try dsimp only at hSw);go_simp;(try with_reducible rfl)));(simp only [put_lit,List.set]))
     (refine tk (i:=12) (v:=?_) rfl rfl (Or.inl ⟨by rfl,?_⟩) ?_;rotate_left;(focus (intro w hSw;(try dsimp only at hSw);go_simp;(try with_reducible rfl)));(simp only [put_lit,List.set]))
     (refine tk (i:=13) (v:=?_) rfl rfl (Or.inl ⟨by rfl,?_⟩) ?_;rotate_left;(focus (intro w hSw;(try dsimp only at hSw);go_simp;(try with_reducible rfl)));(simp only [put_lit,List.set]))
     (refine tk (i:=14) (v:=?_) rfl rfl (Or.inl ⟨by rfl,?_⟩) ?_;rotate_left;(focus (intro w hSw;(try dsimp only at hSw);go_simp;(try with_reducible rfl)));(simp only [put_lit,List.set]))
     (refine tk (i:=15) (v:=?_) rfl rfl (Or.inl ⟨by rfl,?_⟩) ?_;rotate_left;(focus (intro w hSw;(try dsimp only at hSw);go_simp;(try with_reducible rfl)));(simp only [put_lit,List.set]))
     (refine tk (i:=16) (v:=?_) rfl rfl (Or.inl ⟨by rfl,?_⟩) ?_;rotate_left;(focus (intro w hSw;(try dsimp only at hSw);go_simp;(try with_reducible rfl)));(simp only [put_lit,List.set]))
     refine wpAnyH_done (by kernel_rfl) (lastQ_list rfl ?_) _
     clear hHeld
     go_wp2_with fail
     have hr2:=Hrow.out.drew.set_ m (v+x*y)
     rw [tab_set] at hr2
     have Hr2:=Lib.hid hr2
     clear hr2
     go_roundw
     case rel =>
      refine ⟨k+1,_,by omega,by go_num,Hr2.out,fun j hj=>?_,Hbx.out.trans Bel.go⟩
      by_cases hjm:j=m
      ·subst hjm
       rw [if_pos rfl,if_pos (by have:=Hm.out;omega),Hv.out,Hx.out,Hy.out,Hm.out,HGv.out,show i+k-i=k by omega]
      ·rw [if_neg hjm,HG.out j hj]
       by_cases hc:i≤j∧j<i+k
       ·rw [if_pos hc,if_pos (by omega)]
       ·rw [if_neg hc,if_neg (by have:=Hm.out;omega)]
     case measure=>simp [intOf];omega
    ·have hkk:k=pg:=by omega
     clear hrow hG hbx
     go_wp2
     go_roundw
     case rel =>
      refine ⟨i+1,G,by omega,by go_num,Hrow.out,fun j hj=>?_,Hbx.out⟩
      rw [HG.out j hj,rcs]
      by_cases hij:i≤j
      ·rw [if_pos hij]
       by_cases hj2:j<i+k
       ·rw [if_pos ⟨hij,hj2⟩]
       ·rw [if_neg (fun h=>hj2 h.2),Hgz.out (j-i) (by omega),Int.mul_zero]
      ·rw [if_neg hij,if_neg (fun h=>hij h.1)]
     case measure=>simp [intOf];omega
  ·have hii:i=pf:=by omega
   have ht:tab n F=tab n (pc f g):=tab_ext fun j hj=>by rw [HF.out j hj,hii,Hend.out]
   have hat:=Hrow.out.at_ (cap:=n) (by rw [tab_length];exact Nat.le_refl _)
   rw [tab_length,ht] at hat
   have Hat:=Lib.hid hat
   have hpl:plen (tab n (pc f g))≤n:=by have:=plen_le (tab n (pc f g));rw [tab_length] at this;exact this
   clear HF Hrow ht
   go_wp2_with fail
   refine (rtrim_any _ _ _ _ _ hat (by omega)).mono ?_
   rintro e w2 ⟨rfl,rfl⟩
   have Hfin:=Lib.hid (hat.take hpl)
   clear hat
   go_wp2
   go_ret
   refine ⟨_,_,_,rfl,?_,(fun q hq=>by cases hq;exact Nat.le_refl _),Hbw.out⟩
   rw [← Hres.out]
   exact Hfin.out
end Go.Proofs.YtjmglmgokfcgoaaGreat
namespace Go.Proofs.YtjmglmgokfcgoaaGreat
open Go.RowKit
set_option maxRecDepth 100000 in
theorem rgcd_any (a b:Int) (w:World) (ha:a.natAbs≤4611686018427387904) (hb:b.natAbs≤4611686018427387904) :
  Calls Tryz.prog 200 #[.int .i64 a,.int .i64 b] w fun e w'=>e=.returned (.int .i64 ((Nat.gcd a.natAbs b.natAbs:Nat):Int))∧w=w':=by
 obtain ⟨x,hx⟩:∃ x:Nat,x=a.natAbs:=⟨_,rfl⟩
 obtain ⟨y,hy⟩:∃ y:Nat,y=b.natAbs:=⟨_,rfl⟩
 rw [← hx] at ha ⊢
 rw [← hy] at hb ⊢
 have wx:IntKind.i64.wrap (x:Int)=(x:Int):=IntWalk.i64_in _ (by omega)
 have wy:IntKind.i64.wrap (y:Int)=(y:Int):=IntWalk.i64_in _ (by omega)
 rcases (show (a=-(x:Int)∧0<x)∨a=(x:Int) by omega) with ⟨rfl,hx0⟩ | rfl <;>
 rcases (show (b=-(y:Int)∧0<y)∨b=(y:Int) by omega) with ⟨rfl,hy0⟩ | rfl <;>
 clear hx hy <;>
 ( go_enter Tryz.func200,Tryz.ntmps200
   go_wp2
   go_loop [0,1] (fun u v=>∃ p q:Nat,u=.int .i64 (p:Int)∧v=.int .i64 (q:Int)∧Nat.gcd p q=Nat.gcd x y∧p≤4611686018427387904∧q≤4611686018427387904) (fun _ v=>(intOf v).toNat)
   case atStart=>exact ⟨x,y,by go_num,by go_num,rfl,ha,hb⟩
   case round =>
    obtain ⟨p,q,rfl,rfl,hg,hp,hq⟩:=hrel
    have Hg:=Lib.hid hg
    clear hg
    by_cases h0:q=0
    ·subst h0
     clear wx wy
     go_wp2
     go_ret
     exact ⟨by rw [← Hg.out,Nat.gcd_zero_right];rfl,rfl⟩
    ·obtain ⟨r,hr⟩:∃ r,r=p % q:=⟨_,rfl⟩
     have hrq:r<q:=by rw [hr];exact Nat.mod_lt _ (by omega)
     have b0:((q:Int) == 0)=false:=by rw [beq_eq_false_iff_ne];omega
     have d1:Int.tmod (p:Int) (q:Int)=(r:Int):=by rw [hr];rfl
     have d2:IntKind.i64.wrap (r:Int)=(r:Int):=IntWalk.i64_in _ (by omega)
     have t0:(0:Int)<(q:Int):=by omega
     have Hr:=Lib.hid hr
     clear hr wx wy
     go_wp2
     go_round
     case rel=>exact ⟨q,r,by go_num,by go_num,by rw [← Hg.out,Hr.out,Nat.gcd_comm p q,Nat.gcd_rec q p,Nat.gcd_comm],hq,by omega⟩
     case measure=>simp [intOf];omega )
set_option maxRecDepth 100000 in
set_option maxHeartbeats 4000000 in
theorem rnrm_zero (A:Option Addr) (len cap:Nat) (p:List Int) (w:World) (h:I64At w A len cap p) (hm:len≤1000) (h0:plen p=0) :
  Calls Tryz.prog 150 #[.slice A len cap] w fun e w'=>e=.returned (.tuple #[.int .i64 0,.slice none 0 0])∧w=w':=by
 go_enter Tryz.func150,Tryz.ntmps150
 go_wp2_with fail
 refine (rtrim_any _ _ _ _ _ h (by omega)).mono ?_
 rintro e w1 ⟨rfl,rfl⟩
 rw [h0]
 clear h h0
 go_wp2
 refine bodyPost_ret (v:=.tuple #[.int .i64 0,.slice none 0 0]) (by simp [results,Tryz.results150,go_sem]) rfl ⟨rfl,rfl⟩
set_option maxRecDepth 100000 in
set_option maxHeartbeats 4000000 in
theorem rnrm_any (A:Option Addr) (len cap:Nat) (p:List Int) (w:World) (h:I64At w A len cap p) (hm:len≤1000) (h0:plen p≠0) (hM:∀ j,(p.getD j 0).natAbs≤2305843009213693952) :
  Calls Tryz.prog 150 #[.slice A len cap] w fun e w'=>e=.returned (.tuple #[.int .i64 (rnu p),.slice (some ⟨w.heap.size,0,none⟩) (plen p) (plen p)])∧IRow w' w.heap.size (tab (plen p) (fun j=>(p.getD j 0).tdiv (rnu p)))∧Below w.heap.size w w':=by
 have hlen:=h.length
 have hpl:=plen_le p
 have Hgc:=Lib.hid (rgc_eq p)
 have Hgb:=Lib.hid (rgc_bd hM)
 have hne:=pcont_ne h0
 have hcb:=rgc_bd hM (plen p)
 rw [rgc_eq] at hcb
 have hld:plead p=p.getD (plen p-1) 0:=rfl
 obtain ⟨u,hu⟩:∃ u,u=rnu p:=⟨_,rfl⟩
 have hu2:=hu
 unfold rnu at hu2
 rw [hld] at hu2
 rw [← hu]
 generalize hn:plen p=n at *
 generalize hgc:pcont p=gc at *
 have Hp:=Lib.hid h
 have Hbd:=Lib.hid hM
 have lnl:n≤len:=by omega
 have hn1:0<n:=by omega
 go_enter Tryz.func150,Tryz.ntmps150
 go_wp2_with fail
 refine (rtrim_any _ _ _ _ _ h (by omega)).mono ?_
 rintro e w1 ⟨rfl,rfl⟩
 rw [hn]
 have b1:((n:Int) == 0)=false:=by rw [beq_eq_false_iff_ne];omega
 clear h hM hu hld hn hgc hpl hlen h0
 go_wp2
 go_loop [4,5] (fun s4 s5=>∃ i:Nat,i≤n∧s4=.int .i64 ((rgc p i:Nat):Int)∧s5=.int .i64 (i:Int)) (fun _ s5=>n-(intOf s5).toNat)
 case atStart=>exact ⟨0,Nat.zero_le _,rfl,rfl⟩
 case round =>
  obtain ⟨i,hi,rfl,rfl⟩:=hrel
  by_cases hlt:i<n
  ·obtain ⟨b,off,rfl,hb,hcc⟩:=Hp.out.at_ (by omega)
   have e1:=hcc i (by omega)
   have Hst:=Lib.hid (show rgc p (i+1)=Nat.gcd (rgc p i) (p.getD i 0).natAbs from rfl)
   have hb1:=Hgb.out i
   have hb2:=Hbd.out i
   obtain ⟨g,hg⟩:∃ g,g=rgc p i:=⟨_,rfl⟩
   obtain ⟨y,hy⟩:∃ y,y=p.getD i 0:=⟨_,rfl⟩
   rw [← hg] at hb1 ⊢
   rw [← hy] at e1 hb2
   have Hg:=Lib.hid hg
   have Hy:=Lib.hid hy
   have i6:(i:Int)<(n:Int):=by omega
   clear hcc hb hg hy hu2 hne hcb b1
   go_wp2_with fail
   refine (rgcd_any _ _ _ (by omega) (by omega)).mono ?_
   rintro e w1 ⟨rfl,rfl⟩
   rw [Int.natAbs_natCast]
   have hst:=Hst.out
   rw [← Hg.out,← Hy.out] at hst
   rw [← hst]
   have Hst2:=Lib.hid hst
   clear hst
   go_wp2
   go_round
   case rel=>exact ⟨i+1,by omega,rfl,by go_num⟩
   case measure=>simp [intOf];omega
  ·have hin:n=i:=by omega
   subst hin
   rw [Hgc.out]
   obtain ⟨b,off,hA,hb,hcc⟩:=Hp.out.at_ (by omega)
   subst hA
   have e0:=hcc (n-1) (by omega)
   have Hcc:=Lib.hid hcc
   have Hbl:=Lib.hid hb
   clear hcc
   obtain ⟨m,hm⟩:∃ m,n=m+1:=⟨n-1,by omega⟩
   have i1:IntKind.i64.wrap ((n:Int)-1)=(m:Int):=by rw [IntWalk.i64_in _ (by omega)];omega
   have i2:(n:Int)-1=(m:Int):=by omega
   have i3:(m:Int)<(n:Int):=by omega
   have i4:IntKind.i64.wrap (m:Int)=(m:Int):=IntWalk.i64_in _ (by omega)
   rw [show n-1=m by omega] at e0 hu2
   obtain ⟨x,hx⟩:∃ x,x=p.getD m 0:=⟨_,rfl⟩
   rw [← hx] at e0 hu2
   have hu0:(u == 0)=false:=by rw [beq_eq_false_iff_ne,hu2];split<;>omega
   have hubd:u.natAbs≤2305843009213693952:=by rw [hu2];split<;>omega
   have hune:¬ u=0:=by rw [hu2];split<;>omega
   have hwu:IntKind.i64.wrap u=u:=IntWalk.i64_in _ (by omega)
   have Hm:=Lib.hid hm
   clear hx hm hb hn1 hi hlt Hgb Hgc b1
   rename_i hlen2
   by_cases hx0:x<0
   ·rw [if_pos hx0] at hu2
    have hgu:IntKind.i64.wrap (-(gc:Int))=u:=by rw [hu2];exact IntWalk.i64_in _ (by omega)
    have hgu2:-(gc:Int)=u:=hu2.symm
    clear hu2 hne hcb
    go_wp2_with (at_make;refine wpList_make_int _ rfl (.tmp 35) (.tmp 35) rfl n rfl rfl (by omega) ?_)
    intro w1 hz hb1 hsz
    rw [tab_zero] at hz
    have Hz:=Lib.hid hz
    have Hb1:=Lib.hid hb1
    have hgr:w.heap.size<w1.heap.size:=by omega
    clear hz hb1 hsz hgu hgu2 e0
    go_wp2
    go_loopw [7] (fun s7 wr=>∃ (k:Nat),k≤n∧s7=.int .i64 (k:Int)∧IRow wr w.heap.size (tab n (fun j=>if j<k then (p.getD j 0).tdiv u else 0))∧Below w.heap.size w wr) (fun s7 _=>n-(intOf s7).toNat)
    case atStart=>exact ⟨0,Nat.zero_le _,rfl,by rw [tab_ext (G:=fun _=>0) (fun j _=>if_neg (by omega))];exact Hz.out,Hb1.out⟩
    case round =>
     clear Hz Hb1 hgr
     obtain ⟨k,hk,rfl,hrow,hbw⟩:=hrel
     have Hrow:=Lib.hid hrow
     have Hbw:=Lib.hid hbw
     by_cases hlt:k<n
     ·have hb:=Hbl.out
      have e1:=(hbw.cell (p:=⟨b,off+k,none⟩) hb).trans (Hcc.out k (by omega))
      have e2:=hrow.cell (i:=k) (by rw [tab_length];exact hlt)
      have f2:=hrow.frozen k
      have hbd:=Hbd.out k
      obtain ⟨y,hy⟩:∃ y,y=p.getD k 0:=⟨_,rfl⟩
      rw [← hy] at e1 hbd
      obtain ⟨q,hq⟩:∃ q,q=y.tdiv u:=⟨_,rfl⟩
      have hqb:q.natAbs≤y.natAbs:=by rw [hq,Int.natAbs_tdiv];exact Nat.div_le_self _ _
      have d1:Int.tdiv y u=q:=hq.symm
      have d2:IntKind.i64.wrap q=q:=IntWalk.i64_in _ (by omega)
      have Hy:=Lib.hid hy
      have Hq:=Lib.hid hq
      have nb:w.heap.size≠b:=by omega
      have i6:(k:Int)<(n:Int):=by omega
      clear hrow hbw hb hy hq hqb hbd
      go_wp2_with fail
      have hr2:=Hrow.out.set_ k q
      rw [tab_set] at hr2
      have Hr2:=Lib.hid hr2
      clear hr2
      go_roundw
      case rel =>
       refine ⟨k+1,by omega,by go_num,?_,Hbw.out.trans Bel.go⟩
       rw [tab_ext (G:=fun t=>if t=k then q else if t<k then (p.getD t 0).tdiv u else 0) (fun j _=>?_)]
       ·exact Hr2.out
       ·by_cases hjk:j=k
        ·subst hjk
         rw [if_pos (by omega),if_pos rfl,Hq.out,Hy.out]
        ·rw [if_neg hjk]
         by_cases hl:j<k
         ·rw [if_pos (by omega),if_pos hl]
         ·rw [if_neg (by omega),if_neg hl]
      case measure=>simp [intOf];omega
     ·have hkn:k=n:=by omega
      subst hkn
      rw [tab_ext (G:=fun j=>(p.getD j 0).tdiv u) (fun j hj=>if_pos hj)] at hrow
      have Hrow:=Lib.hid hrow
      clear hrow hbw
      go_wp2
      refine bodyPost_ret (v:=.tuple #[.int .i64 u,.slice (some ⟨w.heap.size,0,none⟩) k k]) (by simp [results,Tryz.results150,go_sem]) rfl ⟨rfl,Hrow.out,Hbw.out⟩
   ·rw [if_neg hx0] at hu2
    have hgu:(gc:Int)=u:=hu2.symm
    clear hu2 hne hcb
    rw [hgu]
    go_wp2_with (at_make;refine wpList_make_int _ rfl (.tmp 35) (.tmp 35) rfl n rfl rfl (by omega) ?_)
    intro w1 hz hb1 hsz
    rw [tab_zero] at hz
    have Hz:=Lib.hid hz
    have Hb1:=Lib.hid hb1
    have hgr:w.heap.size<w1.heap.size:=by omega
    clear hz hb1 hsz hgu e0
    go_wp2
    go_loopw [7] (fun s7 wr=>∃ (k:Nat),k≤n∧s7=.int .i64 (k:Int)∧IRow wr w.heap.size (tab n (fun j=>if j<k then (p.getD j 0).tdiv u else 0))∧Below w.heap.size w wr) (fun s7 _=>n-(intOf s7).toNat)
    case atStart=>exact ⟨0,Nat.zero_le _,rfl,by rw [tab_ext (G:=fun _=>0) (fun j _=>if_neg (by omega))];exact Hz.out,Hb1.out⟩
    case round =>
     clear Hz Hb1 hgr
     obtain ⟨k,hk,rfl,hrow,hbw⟩:=hrel
     have Hrow:=Lib.hid hrow
     have Hbw:=Lib.hid hbw
     by_cases hlt:k<n
     ·have hb:=Hbl.out
      have e1:=(hbw.cell (p:=⟨b,off+k,none⟩) hb).trans (Hcc.out k (by omega))
      have e2:=hrow.cell (i:=k) (by rw [tab_length];exact hlt)
      have f2:=hrow.frozen k
      have hbd:=Hbd.out k
      obtain ⟨y,hy⟩:∃ y,y=p.getD k 0:=⟨_,rfl⟩
      rw [← hy] at e1 hbd
      obtain ⟨q,hq⟩:∃ q,q=y.tdiv u:=⟨_,rfl⟩
      have hqb:q.natAbs≤y.natAbs:=by rw [hq,Int.natAbs_tdiv];exact Nat.div_le_self _ _
      have d1:Int.tdiv y u=q:=hq.symm
      have d2:IntKind.i64.wrap q=q:=IntWalk.i64_in _ (by omega)
      have Hy:=Lib.hid hy
      have Hq:=Lib.hid hq
      have nb:w.heap.size≠b:=by omega
      have i6:(k:Int)<(n:Int):=by omega
      clear hrow hbw hb hy hq hqb hbd
      go_wp2_with fail
      have hr2:=Hrow.out.set_ k q
      rw [tab_set] at hr2
      have Hr2:=Lib.hid hr2
      clear hr2
      go_roundw
      case rel =>
       refine ⟨k+1,by omega,by go_num,?_,Hbw.out.trans Bel.go⟩
       rw [tab_ext (G:=fun t=>if t=k then q else if t<k then (p.getD t 0).tdiv u else 0) (fun j _=>?_)]
       ·exact Hr2.out
       ·by_cases hjk:j=k
        ·subst hjk
         rw [if_pos (by omega),if_pos rfl,Hq.out,Hy.out]
        ·rw [if_neg hjk]
         by_cases hl:j<k
         ·rw [if_pos (by omega),if_pos hl]
         ·rw [if_neg (by omega),if_neg hl]
      case measure=>simp [intOf];omega
     ·have hkn:k=n:=by omega
      subst hkn
      rw [tab_ext (G:=fun j=>(p.getD j 0).tdiv u) (fun j hj=>if_pos hj)] at hrow
      have Hrow:=Lib.hid hrow
      clear hrow hbw
      go_wp2
      refine bodyPost_ret (v:=.tuple #[.int .i64 u,.slice (some ⟨w.heap.size,0,none⟩) k k]) (by simp [results,Tryz.results150,go_sem]) rfl ⟨rfl,Hrow.out,Hbw.out⟩
end Go.Proofs.YtjmglmgokfcgoaaGreat
namespace Go.Proofs.YtjmglmgokfcgoaaGreat
open Go Go.RowKit
theorem I64At.one (w:World) (a:Int):I64At (w.alloc (.cells #[.int .i64 a] 3)) (some ⟨w.heap.size,0,none⟩) 1 1 [a]:=by
 have h:IRow (w.alloc (.cells #[.int .i64 a] 3)) w.heap.size [a]:=Blk.new w _ _
 exact h.at_ (cap:=1) (by simp)
theorem I64At.two (w:World) (a b:Int):I64At (w.alloc (.cells #[.int .i64 a,.int .i64 b] 3)) (some ⟨w.heap.size,0,none⟩) 2 2 [a,b]:=by
 have h:IRow (w.alloc (.cells #[.int .i64 a,.int .i64 b] 3)) w.heap.size [a,b]:=Blk.new w _ _
 exact h.at_ (cap:=2) (by simp)
set_option maxRecDepth 100000 in
set_option maxHeartbeats 1000000 in
theorem pol15_any (A:Option Addr) (len cap:Nat) (p:List Int) (w:World) (h:I64At w A len cap p) (hm:len≤1000) (hp:∀ c∈p,I64 c) :
  Calls Tryz.prog 35 #[.slice A len cap] w fun e w'=>∃ A' l' c',e=.returned (.slice A' l' c')∧PolyN w' A' l' c' (ptrim p)∧Below w.heap.size w w':=by
 obtain ⟨i0,hi,hz0,hz1,hz2⟩:=info_parts info_i64
 have hlen:=Lib.hid h.length
 have Hp:=Lib.hid hp
 clear hp
 go_enter Tryz.func35,Tryz.ntmps35
 go_wp2
 go_loopw [3,4] (fun v i wr=>∃ k:Nat,k≤len∧i=.int .i64 (k:Int)∧OwnI 2 wr w.heap.size v k p∧Below w.heap.size w wr) (fun _ i _=>len-(intOf i).toNat)
 case atStart=>exact ⟨0,Nat.zero_le _,rfl,World.ownsRow_nil _ _ _ _,Below.refl _ _⟩
 case round =>
  obtain ⟨k,hk,rfl,hown,hbw⟩:=hrel
  have Hown:=Lib.hid hown
  have Hbw:=Lib.hid hbw
  clear hown
  by_cases hlt:k<len
  ·obtain ⟨b,off,rfl,hb,hc⟩:=h.at_ (by omega)
   have hcell:=(hbw.cell (p:=⟨b,off+k,none⟩) hb).trans (hc k hlt)
   have hg:p[k]?.getD 0=p.getD k 0:=by rw [List.getD_eq_getElem?_getD]
   obtain ⟨c,hcv⟩:∃ c,c=p.getD k 0:=⟨_,rfl⟩
   rw [← hcv] at hcell hg
   have Hg:=Lib.hid hg
   clear hc h hbw hg hcv
   go_wp2_with (at_builtin;refine wpList_append_one rfl (.tmp 11) (.tmp 16) 131 rfl w.heap.size 2 i0 (.int .i64 0) 8 Tryz.underlying131 hi hz0 hz1 hz2 rfl _ (.int .i64 c) k _ rfl rfl Hown.out rfl (by omega) (by omega) Hbw.out.size ?_)
   intro v' w1 hown' hgrow
   have R:=Lib.hid (OwnI.step (v':=v') (by rw [hlen.out];omega) Hbw.out.size Hown.out Hbw.out (by rw [Hg.out];exact hown') hgrow)
   clear hown' hgrow hcell
   go_wp2
   go_roundw
   case rel=>exact ⟨k+1,by omega,by go_num,R.out.1,R.out.2⟩
   case measure=>simp [intOf];omega
  ·have hk2:k=p.length:=by rw [hlen.out];omega
   have ho:=Hown.out
   rw [hk2] at ho
   obtain ⟨A',cap',rfl,hat⟩:=ho.at_
   have hll:p.length≤1000:=by rw [hlen.out];omega
   have hkl:k=len:=by omega
   subst hkl
   obtain ⟨L,hL⟩:∃ L,L=p.length:=⟨_,rfl⟩
   rw [← hL] at hat hk2 hll ⊢
   subst hk2
   clear ho h hbw hi hz0 hz1 hz2 hL
   have h64:=Hp.out
   go_wp2_with fail
   refine (pof_any _ _ _ _ _ hat h64 (by omega)).mono ?_
   rintro e w2 ⟨A2,l2,c2,rfl,h2,hb2⟩
   have H2:=Lib.hid h2
   have Hb2:=Lib.hid (Hbw.out.trans (hb2.mono Hbw.out.size))
   clear h2 hb2 hat
   go_wp2
   go_ret
   exact ⟨_,_,_,rfl,H2.out,Hb2.out⟩
end Go.Proofs.YtjmglmgokfcgoaaGreat
