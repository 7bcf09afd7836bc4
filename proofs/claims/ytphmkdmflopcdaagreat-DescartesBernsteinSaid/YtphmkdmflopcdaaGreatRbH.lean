/- The law RootboundVariations: the walk. -/
import Derived.Test.YtphmkdmflopcdaaGreatPolB
import Derived.Test.YtphmkdmflopcdaaGreatDivC
import Derived.IntWalk
namespace Go.Proofs.YtphmkdmflopcdaaGreat
open Go.RowKit
def vst (p:List Int):Nat->Nat×Int
 | 0=>(0,0)
 | k+1=>if sg (p.getD k 0)=0 then vst p k else (if sg (p.getD k 0)=-(vst p k).2 then (vst p k).1+1 else (vst p k).1,sg (p.getD k 0))
def rst (p:List Int):Nat->Nat×Int
 | 0=>(0,0)
 | k+1=>if p.getD k 0=0 then rst p k else (if ((rst p k).2<0/\0<p.getD k 0)∨(0<(rst p k).2/\p.getD k 0<0) then (rst p k).1+1 else (rst p k).1,p.getD k 0)
theorem vst_rst (p:List Int) (k:Nat):(vst p k).1=(rst p k).1/\(vst p k).2=sg (rst p k).2:=by
 induction k with
 | zero=>exact ⟨rfl,rfl⟩
 | succ k ih =>
   obtain ⟨h1,h2⟩:=ih
   simp only[vst,rst]
   generalize p.getD k 0=a
   rw[h1,h2]
   generalize (rst p k).2=l
   generalize (rst p k).1=c
   rcases sg_cases a with ⟨a1,a2⟩ | ⟨a1,a2⟩ | ⟨a1,a2⟩
   ·rcases sg_cases l with ⟨b1,b2⟩ | ⟨b1,b2⟩ | ⟨b1,b2⟩<;>rw[a2,b2,if_neg (by omega),if_neg (by omega:¬ a=0)]<;>simp[a2]<;>omega
   ·subst a1
    simp[sg_zero]
    exact ⟨h1,h2⟩
   ·rcases sg_cases l with ⟨b1,b2⟩ | ⟨b1,b2⟩ | ⟨b1,b2⟩<;>rw[a2,b2,if_neg (by omega),if_neg (by omega:¬ a=0)]<;>simp[a2]<;>omega
theorem vst_le (p:List Int) (k:Nat):(vst p k).1<=k/\((vst p k).2=-1∨(vst p k).2=0∨(vst p k).2=1):=by
 induction k with
 | zero=>exact ⟨Nat.le_refl _,.inr (.inl rfl)⟩
 | succ k ih =>
   simp only[vst]
   split
   ·exact ⟨by omega,ih.2⟩
   ·refine ⟨by simp only;split<;>omega,?_⟩
    rcases sg_cases (p.getD k 0) with ⟨a1,a2⟩ | ⟨a1,a2⟩ | ⟨a1,a2⟩<;>first | exact .inl a2 | exact .inr (.inl a2) | exact .inr (.inr a2)
theorem rst_le (p:List Int) (k:Nat):(rst p k).1<=k:=by rw[<- (vst_rst p k).1];exact (vst_le p k).1
theorem vst_zero {p:List Int} {k:Nat} {c:Nat} {l:Int} (h:vst p k=(c,l)) (h0:sg (p.getD k 0)=0):vst p (k+1)=(c,l):=by simp only[vst,if_pos h0];exact h
theorem vst_turn {p:List Int} {k:Nat} {c:Nat} {l:Int} (h:vst p k=(c,l)) {s:Int} (hs:sg (p.getD k 0)=s) (h0:s≠0) (h1:s=-l):vst p (k+1)=(c+1,s):=by
 simp only[vst,h,hs,if_neg h0,if_pos h1]
theorem vst_same {p:List Int} {k:Nat} {c:Nat} {l:Int} (h:vst p k=(c,l)) {s:Int} (hs:sg (p.getD k 0)=s) (h0:s≠0) (h1:s≠-l):vst p (k+1)=(c,s):=by
 simp only[vst,h,hs,if_neg h0,if_neg h1]
set_option maxHeartbeats 2000000 in
theorem rvar_any (A:Option Addr) (len cap:Nat) (p:List Int) (w:World) (h:PolyAt w A len cap p) (hs:SmP p) (hm:len<=1099511627776) :
  Calls Tryz.prog 38 #[.slice A len cap] w fun e w'=>e=.returned (.int .i64 ((vst p len).1:Nat))/\Below w.heap.size w w':=by
 go_enter Tryz.func38,Tryz.ntmps38
 go_wp2
 go_loopw [3,4,10] (fun c l i wr=>∃ (k cc:Nat) (ll:Int),k<=len/\c=.int .i64 (cc:Int)/\l=.int .i64 ll/\i=.int .i64 (k:Int)/\vst p k=(cc,ll)/\Below w.heap.size w wr) (fun _ _ i _=>len-(intOf i).toNat)
 case atStart=>exact ⟨0,0,0,Nat.zero_le _,rfl,rfl,rfl,rfl,Below.refl _ _⟩
 case round =>
  obtain ⟨k,cc,ll,hk,rfl,rfl,rfl,hst,hbw⟩:=hrel
  have hle:=vst_le p k
  rw[hst] at hle
  obtain ⟨hcc,hll⟩:=hle
  simp only at hcc hll
  have Hst:=Lh hst
  clear hst
  by_cases hlt:k<len
  ·obtain ⟨b,off,rfl,hb,hc⟩:=h.get (by omega)
   obtain ⟨neg,Aj,lj,cj,c0,c1,hz⟩:=hc k hlt
   have e0:=(hbw.cell (p:=⟨b,off+k*2,none⟩) hb).trans c0
   have e1:=(hbw.cell (p:=⟨b,off+k*2+1,none⟩) hb).trans c1
   have hz2:=(hz.below hbw).below ((Below.refl wr.heap.size wr).alloc (Nat.le_refl _) (ibox neg Aj lj cj))
   have hsk:=hs.getD k
   have Hb:=Lh hbw
   clear hc h c0 c1 hz hbw
   go_wp2_with fail
   refine (isign_any _ _ _ _ _ _ hz2 hsk).mono ?_
   rintro e w2 ⟨rfl,rfl⟩
   have Hbn:=Lh (Hb.out.trans ((below_two (B:=wr.heap.size) wr (ibox neg Aj lj cj) (ibox neg Aj lj cj) (Nat.le_refl _)).mono Hb.out.size))
   clear hz2 hsk e0 e1
   obtain ⟨s,hsv⟩:∃ s,s=sg (p.getD k 0):=⟨_,rfl⟩
   have Hsv:=Lh hsv.symm
   have hcase:s=-1∨s=0∨s=1:=by
    rcases sg_cases (p.getD k 0) with ⟨a1,a2⟩ | ⟨a1,a2⟩ | ⟨a1,a2⟩<;>omega
   rw[<- hsv]
   clear hsv
   rcases hcase with rfl | rfl | rfl
   ·rcases hll with rfl | rfl | rfl
    ·have Hn:=Lh (vst_same Hst.out Hsv.out (by omega) (by omega))
     go_wp2
     go_roundw
     case rel=>exact ⟨k+1,_,_,by omega,rfl,rfl,by go_num,Hn.out,Hbn.out⟩
     case measure=>simp[intOf];omega
    ·have Hn:=Lh (vst_same Hst.out Hsv.out (by omega) (by omega))
     go_wp2
     go_roundw
     case rel=>exact ⟨k+1,_,_,by omega,rfl,rfl,by go_num,Hn.out,Hbn.out⟩
     case measure=>simp[intOf];omega
    ·have Hn:=Lh (vst_turn Hst.out Hsv.out (by omega) (by omega))
     go_wp2
     go_roundw
     case rel=>exact ⟨k+1,_,_,by omega,by go_num,rfl,by go_num,Hn.out,Hbn.out⟩
     case measure=>simp[intOf];omega
   ·have Hn:=Lh (vst_zero Hst.out Hsv.out)
    go_wp2
    go_roundw
    case rel=>exact ⟨k+1,_,_,by omega,rfl,rfl,by go_num,Hn.out,Hbn.out⟩
    case measure=>simp[intOf];omega
   ·rcases hll with rfl | rfl | rfl
    ·have Hn:=Lh (vst_turn Hst.out Hsv.out (by omega) (by omega))
     go_wp2
     go_roundw
     case rel=>exact ⟨k+1,_,_,by omega,by go_num,rfl,by go_num,Hn.out,Hbn.out⟩
     case measure=>simp[intOf];omega
    ·have Hn:=Lh (vst_same Hst.out Hsv.out (by omega) (by omega))
     go_wp2
     go_roundw
     case rel=>exact ⟨k+1,_,_,by omega,rfl,rfl,by go_num,Hn.out,Hbn.out⟩
     case measure=>simp[intOf];omega
    ·have Hn:=Lh (vst_same Hst.out Hsv.out (by omega) (by omega))
     go_wp2
     go_roundw
     case rel=>exact ⟨k+1,_,_,by omega,rfl,rfl,by go_num,Hn.out,Hbn.out⟩
     case measure=>simp[intOf];omega
  ·have hk2:len=k:=by omega
   subst hk2
   have Hb:=Lh hbw
   clear h hbw hll
   go_wp2
   go_ret
   exact ⟨by rw[Hst.out];rfl,Hb.out⟩
theorem rst_zero {p:List Int} {k:Nat} {c:Nat} {l:Int} (h:rst p k=(c,l)) (h0:p.getD k 0=0):rst p (k+1)=(c,l):=by simp only[rst,if_pos h0];exact h
theorem rst_turn {p:List Int} {k:Nat} {c:Nat} {l:Int} (h:rst p k=(c,l)) {s:Int} (hs:p.getD k 0=s) (h1:(l<0/\0<s)∨(0<l/\s<0)):rst p (k+1)=(c+1,s):=by
 simp only[rst,h,hs,if_pos h1];rw[if_neg (by omega)]
theorem rst_same {p:List Int} {k:Nat} {c:Nat} {l:Int} (h:rst p k=(c,l)) {s:Int} (hs:p.getD k 0=s) (h0:s≠0) (h1:¬ ((l<0/\0<s)∨(0<l/\s<0))):rst p (k+1)=(c,s):=by
 simp only[rst,h,hs,if_neg h1];rw[if_neg h0]
set_option maxHeartbeats 2000000 in
theorem refvar_any (A:Option Addr) (len cap:Nat) (p:List Int) (w:World) (h:I64At w A len cap p) (hm:len<=1099511627776) :
  Calls Tryz.prog 16 #[.slice A len cap] w fun e w'=>e=.returned (.int .i64 ((rst p len).1:Nat))/\w=w':=by
 go_enter Tryz.func16,Tryz.ntmps16
 go_wp2
 go_loop [3,4,5] (fun c l i=>∃ (k cc:Nat) (ll:Int),k<=len/\c=.int .i64 (cc:Int)/\l=.int .i64 ll/\i=.int .i64 (k:Int)/\rst p k=(cc,ll)) (fun _ _ i=>len-(intOf i).toNat)
 case atStart=>exact ⟨0,0,0,Nat.zero_le _,rfl,rfl,rfl,rfl⟩
 case round =>
  obtain ⟨k,cc,ll,hk,rfl,rfl,rfl,hst⟩:=hrel
  have hcc:=rst_le p k
  rw[hst] at hcc
  simp only at hcc
  have Hst:=Lh hst
  clear hst
  by_cases hlt:k<len
  ·obtain ⟨b,off,rfl,hb,hc⟩:=h.at_ (by omega)
   have hcell:=hc k hlt
   obtain ⟨s,hsv⟩:∃ s,s=p.getD k 0:=⟨_,rfl⟩
   rw[<- hsv] at hcell
   have Hsv:=Lh hsv.symm
   clear hc h hsv
   by_cases h0:s=0
   ·have Hn:=Lh (rst_zero Hst.out (Hsv.out.trans h0))
    have hb0:(s == 0)=true:=by simp[h0]
    clear h0
    go_wp2
    go_round
    case rel=>exact ⟨k+1,_,_,by omega,rfl,rfl,by go_num,Hn.out⟩
    case measure=>simp[intOf];omega
   ·by_cases h1:(ll<0/\0<s)∨(0<ll/\s<0)
    ·have Hn:=Lh (rst_turn Hst.out Hsv.out h1)
     have hb0:(s == 0)=false:=by simp[h0]
     rcases h1 with ⟨h1,h2⟩ | ⟨h1,h2⟩
     ·go_wp2
      go_round
      case rel=>exact ⟨k+1,_,_,by omega,by go_num,rfl,by go_num,Hn.out⟩
      case measure=>simp[intOf];omega
     ·have h3:¬ ll<0:=by omega
      go_wp2
      go_round
      case rel=>exact ⟨k+1,_,_,by omega,by go_num,rfl,by go_num,Hn.out⟩
      case measure=>simp[intOf];omega
    ·have Hn:=Lh (rst_same Hst.out Hsv.out h0 h1)
     have hb0:(s == 0)=false:=by simp[h0]
     rcases Int.lt_trichotomy ll 0 with h3 | h3 | h3
     ·have h4:¬ 0<s:=by omega
      have h5:¬ 0<ll:=by omega
      clear h1
      go_wp2
      go_round
      case rel=>exact ⟨k+1,_,_,by omega,rfl,rfl,by go_num,Hn.out⟩
      case measure=>simp[intOf];omega
     ·subst h3
      clear h1
      go_wp2
      go_round
      case rel=>exact ⟨k+1,_,_,by omega,rfl,rfl,by go_num,Hn.out⟩
      case measure=>simp[intOf];omega
     ·have h4:¬ s<0:=by omega
      have h5:¬ ll<0:=by omega
      clear h1
      go_wp2
      go_round
      case rel=>exact ⟨k+1,_,_,by omega,rfl,rfl,by go_num,Hn.out⟩
      case measure=>simp[intOf];omega
  ·have hk2:len=k:=by omega
   subst hk2
   clear h
   go_wp2
   go_ret
   exact ⟨by rw[Hst.out];rfl,rfl⟩
def Tiny (m:Nat) (p:List Int):Prop:=∀ k,(p.getD k 0).natAbs<=m
end Go.Proofs.YtphmkdmflopcdaaGreat
namespace Go.Proofs.YtphmkdmflopcdaaGreat
open Go.RowKit
def hst (p:List Int):Nat->Nat
 | 0=>0
 | k+1=>if hst p k<(p.getD k 0).natAbs then (p.getD k 0).natAbs else hst p k
theorem hst_sm {p:List Int} (h:SmP p) (k:Nat):Sm (hst p k):=by
 induction k with
 | zero=>exact SmI.zero
 | succ k ih =>
   simp only[hst]
   split
   ·exact h.getD k
   ·exact ih
structure HtW (w W:World) (n1:Bool) (A1:Option Addr) (l1 c1:Nat) (q:Int):Prop where
 c00:W.cell? ⟨w.heap.size,0,none⟩=some (.bool false)
 c01:W.cell? ⟨w.heap.size,1,none⟩=some (.slice none 0 0)
 c10:W.cell? ⟨w.heap.size+1,0,none⟩=some (.bool n1)
 c11:W.cell? ⟨w.heap.size+1,1,none⟩=some (.slice A1 l1 c1)
 f00:W.frozen? ⟨w.heap.size,0,none⟩=false
 f01:W.frozen? ⟨w.heap.size,1,none⟩=false
 f10:W.frozen? ⟨w.heap.size+1,0,none⟩=false
 f11:W.frozen? ⟨w.heap.size+1,1,none⟩=false
 size:w.heap.size+2<=W.heap.size
 hq:IntN W n1 A1 l1 c1 q
 below:Below w.heap.size w W
section
variable {w W W':World} {n1:Bool} {A1:Option Addr} {l1 c1:Nat} {q:Int}
theorem HtW.move (h:HtW w W n1 A1 l1 c1 q) (hb:Below W.heap.size W W'):HtW w W' n1 A1 l1 c1 q:=by
 obtain ⟨hc,hf⟩:=bcell hb
 have hs:=h.size
 exact ⟨(hc _ _ (by omega)).trans h.c00,(hc _ _ (by omega)).trans h.c01,(hc _ _ (by omega)).trans h.c10,(hc _ _ (by omega)).trans h.c11,
  (hf _ _ (by omega)).trans h.f00,(hf _ _ (by omega)).trans h.f01,(hf _ _ (by omega)).trans h.f10,(hf _ _ (by omega)).trans h.f11,Nat.le_trans hs hb.size,h.hq.below hb,h.below.trans (hb.mono h.below.size)⟩
theorem HtW.setq (h:HtW w W n1 A1 l1 c1 q) {n3:Bool} {A3:Option Addr} {l3 c3:Nat} {q':Int} (h3:IntN W n3 A3 l3 c3 q') :
  HtW w ((W.setCell ⟨w.heap.size+1,0,none⟩ (.bool n3)).setCell ⟨w.heap.size+1,1,none⟩ (.slice A3 l3 c3)) n3 A3 l3 c3 q':=by
 have k:=h.c00
 have k1:=h.c01
 have k2:=h.c10
 have k3:=h.c11
 have f0:=h.f00
 have f1:=h.f01
 have f2:=h.f10
 have f3:=h.f11
 exact ⟨by go_simp,by go_simp,by go_simp,by go_simp,by go_simp,by go_simp,by go_simp,by go_simp,by simpa using h.size,h3.ret _ _ k2 k3,((h.below.setCell (p:=⟨w.heap.size+1,0,none⟩) (by simp<;>omega) _).setCell (p:=⟨w.heap.size+1,1,none⟩) (by simp<;>omega) _)⟩
end
theorem HtW.start (w:World):HtW w ((w.alloc (ibox false none 0 0)).alloc (ibox false none 0 0)) false none 0 0 0:=by
 exact ⟨by go_simp,by go_simp,by go_simp,by go_simp,by go_simp,by go_simp,by go_simp,by go_simp,by simp,⟨NatN.zero _ _ _,by simp⟩,below_two w _ _ (Nat.le_refl _)⟩
set_option maxHeartbeats 2000000 in
theorem height_any {I:IntPred} (hI:IK I) (A:Option Addr) (len cap:Nat) (p:List Int) (w:World) (h:PolyP I w A len cap p) (hs:SmP p) (hm:len<=1099511627776) :
  Calls Tryz.prog 74 #[.slice A len cap] w fun e w'=>∃ n1 A1 l1 c1,e=.returned (.agg #[.bool n1,.slice A1 l1 c1])/\IntN w' n1 A1 l1 c1 (hst p len:Nat)/\Below w.heap.size w w':=by
 have H0:=Lh (HtW.start w)
 go_enter Tryz.func74,Tryz.ntmps74
 go_wp2
 go_loopw [9] (fun i wr=>∃ (k:Nat) (n1:Bool) (A1:Option Addr) (l1 c1:Nat),k<=len/\i=.int .i64 (k:Int)/\HtW w wr n1 A1 l1 c1 (hst p k:Nat)) (fun i _=>len-(intOf i).toNat)
 case atStart=>exact ⟨0,_,_,_,_,Nat.zero_le _,rfl,H0.out⟩
 case round =>
  clear H0
  obtain ⟨k,n1,A1,l1,c1,hk,rfl,hw⟩:=hrel
  have HW:=Lh hw
  have c00:=hw.c00
  have c01:=hw.c01
  have c10:=hw.c10
  have c11:=hw.c11
  have f00:=hw.f00
  have f01:=hw.f01
  have f10:=hw.f10
  have f11:=hw.f11
  have esz:=hw.size
  have k0:w.heap.size<wr.heap.size:=by omega
  have k1:w.heap.size+1<wr.heap.size:=by omega
  by_cases hlt:k<len
  ·obtain ⟨b,off,rfl,hb,hc⟩:=h.get (by omega)
   obtain ⟨neg,Aj,lj,cj,d0,d1,hz⟩:=hc k hlt
   have e0:=(hw.below.cell (p:=⟨b,off+k*2,none⟩) hb).trans d0
   have e1:=(hw.below.cell (p:=⟨b,off+k*2+1,none⟩) hb).trans d1
   have hbx:Below wr.heap.size wr (wr.alloc (ibox neg Aj lj cj)):=(Below.refl _ _).alloc (Nat.le_refl _) _
   have hz2:=((hI.at_ hz).below hw.below).below hbx
   have hq2:=(hw.hq.below hbx).nat.at_
   rw[Int.natAbs_natCast] at hq2
   have HX:=Lh (hw.move hbx)
   have hsk:=hs.getD k
   have hsh:=hst_sm hs k
   clear hc h d0 d1 hz hw hbx
   go_wp2_with fail
   refine (cmp_any _ _ _ _ _ _ _ _ _ hz2.nat hq2 hsk hsh).mono ?_
   rintro e w2 ⟨rfl,nq,rfl⟩
   have hbq:Below (wr.alloc (ibox neg Aj lj cj)).heap.size (wr.alloc (ibox neg Aj lj cj)) ((wr.alloc (ibox neg Aj lj cj)).drewN nq):=⟨rfl,rfl,rfl,Nat.le_refl _,fun _ _=>rfl⟩
   have hz3:=hz2.below hbq
   have HY:=Lh (HX.out.move hbq)
   clear hz2 hq2 hbq
   obtain ⟨v,hv⟩:∃ v,v=cmpn (p.getD k 0).natAbs (hst p k):=⟨_,rfl⟩
   rw[<- hv]
   by_cases hgt:hst p k<(p.getD k 0).natAbs
   ·have hcm:0<v:=by rw[hv,cmpn_gt hgt];omega
    clear hv
    have Hn:=Lh (show hst p (k+1)=(p.getD k 0).natAbs from if_pos hgt)
    clear hgt
    go_wp2_with fail
    refine (iabs_any _ _ _ _ _ _ hz3 hsk).mono ?_
    rintro e w3 ⟨n3,A3,l3,c3,rfl,h3,hb3⟩
    have hg:=HY.out.move hb3
    have HZ:=Lh (hg.setq h3)
    clear c00 c01 c10 c11 f00 f01 f10 f11 e0 e1 hz3 hsk hsh hcm h3 hb3
    have c10:=hg.c10
    have c11:=hg.c11
    have f10:=hg.f10
    have f11:=hg.f11
    clear hg
    go_wp2
    go_roundw
    case rel=>exact ⟨k+1,_,_,_,_,by omega,by go_num,by rw[Hn.out];exact HZ.out⟩
    case measure=>simp[intOf];omega
   ·have hcm:¬ 0<v:=by
     rw[hv]
     unfold cmpn
     rcases Nat.lt_or_ge (p.getD k 0).natAbs (hst p k) with h1 | h1
     ·rw[if_pos h1];omega
     ·rw[if_neg (by omega),if_pos (by omega)];omega
    clear hv
    have Hn:=Lh (show hst p (k+1)=hst p k from if_neg hgt)
    clear hgt
    go_wp2
    go_roundw
    case rel=>exact ⟨k+1,_,_,_,_,by omega,by go_num,by rw[Hn.out];exact HY.out⟩
    case measure=>simp[intOf];omega
  ·have hk2:len=k:=by omega
   subst hk2
   have HI2:=Lh (hw.hq.ret (.bool n1) (.slice A1 l1 c1) c00 c01)
   have Hb:=Lh hw.below
   clear h hw HW
   go_wp2
   refine bodyPost_ret (v:=.agg #[.bool n1,.slice A1 l1 c1]) (by simp[results,Tryz.results74,go_sem,c00,c01]) rfl ⟨_,_,_,_,rfl,HI2.out,(Hb.out.setCell (p:=⟨w.heap.size,0,none⟩) (Nat.le_refl _) _).setCell (p:=⟨w.heap.size,1,none⟩) (Nat.le_refl _) _⟩
end Go.Proofs.YtphmkdmflopcdaaGreat
namespace Go.Proofs.YtphmkdmflopcdaaGreat
open Go.RowKit
end Go.Proofs.YtphmkdmflopcdaaGreat
namespace Go.Proofs.YtphmkdmflopcdaaGreat
open Go.RowKit
end Go.Proofs.YtphmkdmflopcdaaGreat
namespace Go.Proofs.YtphmkdmflopcdaaGreat
open Go.RowKit
theorem info_i64:(Tryz.prog.info? 2).map (fun i=>(i.zero,i.size,i.bytes))=some (some (.int .i64 0),1,8):=by kernel_rfl
def OwnI (e:TypeId) (w:World) (base:Nat) (v:Value) (k:Nat) (p:List Int):Prop:=w.ownsRow base e 1 v k ((p.map (Value.int .i64)).take k)
theorem OwnI.step {e:TypeId} {wr w1 w:World} {base k:Nat} {u v':Value} {p:List Int} {o:Obj} (hk:k<p.length) (hbase:base<=wr.heap.size) (h:OwnI e wr base u k p) (hn:Below base w wr)
  (h':w1.ownsRow base e 1 v' (k+1) ((p.map (Value.int .i64)).take k ++ [.int .i64 (p[k]?.getD 0)])) (hg:(wr.alloc o).grownBy w1 u.ownBlock):OwnI e w1 base v' (k+1) p/\Below base w w1:=by
 refine ⟨?_,(hn.alloc hbase o).grown hg (by simp;omega) (fun j hj=>(World.ownsRow.lt h j hj).1)⟩
 unfold OwnI
 have e1:(p.map (Value.int .i64)).take (k+1)=(p.map (Value.int .i64)).take k ++ [.int .i64 (p[k]?.getD 0)]:=by
  rw[List.take_add_one]
  simp[List.getElem?_map,List.getElem?_eq_getElem hk]
 rw[e1];exact h'
theorem OwnI.at_ {e:TypeId} {w:World} {base:Nat} {v:Value} {p:List Int} (h:OwnI e w base v p.length p):∃ A cap,v=.slice A p.length cap/\I64At w A p.length cap p:=by
 obtain ⟨hl,h0 | ⟨g,cap,cur,rfl,hg,hh,hc,hm,hs,ht⟩⟩:=h
 ·obtain ⟨rfl,hz⟩:=h0
  refine ⟨none,0,by rw[hz],rfl,by omega,.inl hz⟩
 ·refine ⟨_,cap,rfl,rfl,hc,.inr ⟨g,0,rfl,Blk.lt (t:=e) (cs:=cur) hh,fun j hj=>?_⟩⟩
  rw[Blk.cell (t:=e) (cs:=cur) hh,Nat.zero_add]
  have e2:=congrArg (fun l=>l[j]?) ht
  simp only[Nat.mul_one] at e2
  rw[List.getElem?_take_of_lt (by omega),List.getElem?_take_of_lt (by omega)] at e2
  rw[<- Array.getElem?_toList,e2]
  simp[List.getElem?_eq_getElem hj,List.getD_eq_getElem?_getD]
end Go.Proofs.YtphmkdmflopcdaaGreat
namespace Go.Proofs.YtphmkdmflopcdaaGreat
open Go.RowKit
structure IBox (W:World) (g:Nat) (n:Bool) (A:Option Addr) (l c:Nat) (z:Int):Prop where
 c0:W.cell? ⟨g,0,none⟩=some (.bool n)
 c1:W.cell? ⟨g,1,none⟩=some (.slice A l c)
 f0:W.frozen? ⟨g,0,none⟩=false
 f1:W.frozen? ⟨g,1,none⟩=false
 lt:g<W.heap.size
 hz:IntN W n A l c z
abbrev put2 (W:World) (g:Nat) (n:Bool) (A:Option Addr) (l c:Nat):World:=(W.setCell ⟨g,0,none⟩ (.bool n)).setCell ⟨g,1,none⟩ (.slice A l c)
section
variable {W W':World} {g g':Nat} {n n':Bool} {A A':Option Addr} {l c l' c':Nat} {z z':Int}
theorem IBox.move (h:IBox W g n A l c z) (hb:Below W.heap.size W W'):IBox W' g n A l c z:=by
 obtain ⟨hc,hf⟩:=bcell hb
 exact ⟨(hc _ _ h.lt).trans h.c0,(hc _ _ h.lt).trans h.c1,(hf _ _ h.lt).trans h.f0,(hf _ _ h.lt).trans h.f1,Nat.lt_of_lt_of_le h.lt hb.size,h.hz.below hb⟩
theorem IBox.nil (W:World):IBox (W.alloc (ibox false none 0 0)) W.heap.size false none 0 0 0 :=
 ⟨by go_simp,by go_simp,by go_simp,by go_simp,by simp,⟨NatN.zero _ _ _,by simp⟩⟩
theorem IBox.make (h:IntN W n A l c z):IBox (W.alloc (ibox n A l c)) W.heap.size n A l c z :=
 ⟨by go_simp,by go_simp,by go_simp,by go_simp,by simp,h.below ((Below.refl _ _).alloc (Nat.le_refl _) _)⟩
theorem IBox.put (h:IBox W g n A l c z) (hz:IntN W n' A' l' c' z'):IBox (put2 W g n' A' l' c') g n' A' l' c' z':=by
 have k0:=h.c0
 have k1:=h.c1
 have f0:=h.f0
 have f1:=h.f1
 exact ⟨by go_simp,by go_simp,by go_simp,by go_simp,by simpa [World.setCell] using h.lt,hz.ret _ _ k0 k1⟩
theorem IBox.far (h:IBox W g n A l c z) (h':IBox W g' n' A' l' c' z') (hg:g≠g') (u v:Value):IBox ((W.setCell ⟨g',0,none⟩ u).setCell ⟨g',1,none⟩ v) g n A l c z:=by
 have k0:=h.c0
 have k1:=h.c1
 have f0:=h.f0
 have f1:=h.f1
 have j0:=h'.c0
 have j1:=h'.c1
 exact ⟨by go_simp,by go_simp,by go_simp,by go_simp,by simpa [World.setCell] using h.lt,h.hz.ret _ _ j0 j1⟩
end
theorem plen_lead (ds:List Int):∀ k,plen ds=k+1->ds.getD k 0≠0:=by
 induction ds with
 | nil=>intro k h;simp[plen] at h
 | cons d ds ih =>
   intro k h
   by_cases h1:plen ds=0
   ·by_cases h2:d=0
    ·rw[plen_cons_zero h1 h2] at h;omega
    ·rw[plen_cons_one h1 h2] at h
     have:k=0:=by omega
     subst this
     simpa using h2
   ·rw[plen_cons_succ h1] at h
    obtain ⟨j,rfl⟩:∃ j,k=j+1:=⟨k-1,by omega⟩
    rw[List.getD_cons_succ]
    exact ih j (by omega)
theorem plead_ne {p:List Int} (h:plen p≠0):plead p≠0:=plen_lead p _ (by omega)
theorem hst_take (p:List Int) (n:Nat):∀ k,k<=n->hst (p.take n) k=hst p k:=by
 intro k
 induction k with
 | zero=>intro _;rfl
 | succ k ih =>
   intro hk
   have e:(p.take n).getD k 0=p.getD k 0:=by simp[List.getD_eq_getElem?_getD,show k<n by omega]
   simp only[hst,e,ih (by omega)]
theorem bcellS {W w1:World} (hb:Below W.heap.size W w1):(∀ a:Addr,(W.cell? a).isSome=true->w1.cell? a=W.cell? a)/\(∀ a:Addr,(W.cell? a).isSome=true->w1.frozen? a=W.frozen? a):=by
 refine ⟨fun a h=>?_,fun a h=>?_⟩<;>obtain ⟨u,hu⟩:=Option.isSome_iff_exists.1 h
 ·exact hb.cell (World.block_lt_of_cell? W a hu)
 ·exact hb.frozen (World.block_lt_of_cell? W a hu)
def cau (p:List Int):Int:=if plen p<2 then 0 else 1-flq (-(hst (ptrim p) (plen p-1):Nat)) ((plead (ptrim p)).natAbs:Nat)
structure CauOK (p:List Int):Prop where
 div:DivOK (hst (ptrim p) (plen p-1)) (plead (ptrim p)).natAbs
 one:Sm (hst (ptrim p) (plen p-1)+1)
 add:Sm (hst (ptrim p) (plen p-1)+(plead (ptrim p)).natAbs)
 fin:Sm ((flq (-(hst (ptrim p) (plen p-1):Nat)) ((plead (ptrim p)).natAbs:Nat)).natAbs+1)
set_option maxHeartbeats 2000000 in
theorem cauchy_any {I:IntPred} (hI:IK I) (A:Option Addr) (len cap:Nat) (p:List Int) (w:World) (h:PolyP I w A len cap p) (hs:SmP p) (hm:len<=1099511627776) (hok:2<=plen p->CauOK p) :
  Calls Tryz.prog 42 #[.slice A len cap] w fun e w'=>∃ n1 A1 l1 c1,e=.returned (.agg #[.bool n1,.slice A1 l1 c1])/\IntN w' n1 A1 l1 c1 (cau p)/\Below w.heap.size w w':=by
 have hb0:Below w.heap.size w (w.alloc (ibox false none 0 0)):=(Below.refl _ _).alloc (Nat.le_refl _) _
 have h0:=h.below hI hb0
 have hpl:plen p<=1099511627776:=by have:=plen_le p;have:=h.length;omega
 have Hb0:=Lh hb0
 clear h hb0
 go_enter Tryz.func42,Tryz.ntmps42
 go_wp2_with fail
 refine (pnormal_any hI _ _ _ _ _ h0 hs hm).mono ?_
 rintro e w1 ⟨g,rfl,hrow,hg,hb1⟩
 obtain ⟨hc,hf⟩:=bcell hb1
 have hsz:=hb1.size
 simp only[World.size_alloc] at hsz hg
 have d00:w1.cell? ⟨w.heap.size,0,none⟩=some (.bool false):=by rw[hc _ _ (by simp)];go_simp
 have d01:w1.cell? ⟨w.heap.size,1,none⟩=some (.slice none 0 0):=by rw[hc _ _ (by simp)];go_simp
 have f00:w1.frozen? ⟨w.heap.size,0,none⟩=false:=by rw[hf _ _ (by simp)];go_simp
 have f01:w1.frozen? ⟨w.heap.size,1,none⟩=false:=by rw[hf _ _ (by simp)];go_simp
 have Hb1:=Lh (Hb0.out.trans (hb1.mono Hb0.out.size))
 clear hc hf hb1 h0
 by_cases hlt:plen p<2
 ·have E:=Lh (show cau p=0 from if_pos hlt)
  have HB:=Lh (show IBox w1 w.heap.size false none 0 0 0 from ⟨d00,d01,f00,f01,by omega,⟨NatN.zero _ _ _,by simp⟩⟩)
  clear hrow
  go_wp2
  have HP:=Lh (HB.out.put (n':=false) (A':=none) (l':=0) (c':=0) (z':=0) ⟨NatN.zero _ _ _,by simp⟩)
  refine bodyPost_ret (v:=.agg #[.bool false,.slice none 0 0]) (by simp[results,Tryz.results42,go_sem,d00,d01]) rfl ⟨_,_,_,_,rfl,by rw[E.out];exact HP.out.hz,(Hb1.out.setCell (p:=⟨w.heap.size,0,none⟩) (Nat.le_refl _) _).setCell (p:=⟨w.heap.size,1,none⟩) (Nat.le_refl _) _⟩
 ·have E:=Lh (show cau p=_ from if_neg hlt)
  have hok2:=Lh (hok (by omega))
  have hpt:=Lh (ptrim_length p)
  have hpoly:=hrow.poly (cap:=plen p) (by rw[hpt.out];exact Nat.le_refl _)
  rw[hpt.out] at hpoly
  have hsp:=hs.ptrim
  have hpart:=hpoly.take (k:=plen p-1) (by omega)
  have HB:=Lh (show IBox w1 w.heap.size false none 0 0 0 from ⟨d00,d01,f00,f01,by omega,⟨NatN.zero _ _ _,by simp⟩⟩)
  have HPo:=Lh hpoly
  clear hrow hpoly hok
  go_wp2_with fail
  refine (height_any ikN _ _ _ _ _ hpart (hsp.take _) (by omega)).mono ?_
  rintro e w2 ⟨n2,A2,l2,c2,rfl,h2,hb2⟩
  rw[hst_take _ _ _ (Nat.le_refl _)] at h2
  have HB2:=Lh (HB.out.move hb2)
  have HPo2:=Lh (HPo.out.below ikN hb2)
  have Hb2:=Lh (Hb1.out.trans (hb2.mono Hb1.out.size))
  have hsz2:=hb2.size
  have HT3:=Lh (IBox.make h2)
  have hbx:Below w2.heap.size w2 (w2.alloc (ibox n2 A2 l2 c2)):=(Below.refl _ _).alloc (Nat.le_refl _) _
  have HB3:=Lh (HB2.out.move hbx)
  have HPo3:=Lh (HPo2.out.below ikN hbx)
  have Hb3:=Lh (Hb2.out.trans (hbx.mono Hb2.out.size))
  clear d00 d01 f00 f01 hpart HB HPo hb2 HB2 HPo2 h2 hbx
  go_wp2_with fail
  refine (lead_any _ _ _ _ _ (HPo3.out.at_ ikN) hsp (by omega)).mono ?_
  rintro e w3 ⟨n3,A3,l3,c3,rfl,h3,hb3⟩
  have hsl:SmI (plead (ptrim p)):=hsp.getD _
  have HT4:=Lh (HT3.out.move hb3)
  have HB4:=Lh (HB3.out.move hb3)
  have Hb4:=Lh (Hb3.out.trans (hb3.mono Hb3.out.size))
  have hsz3:=hb3.size
  simp only[World.size_alloc] at hsz3
  have hg3:w2.heap.size<w3.heap.size:=by omega
  clear HT3 HB3 HPo3 hb3
  go_wp2_with fail
  refine (iabs_any _ _ _ _ _ _ h3.at_ hsl).mono ?_
  rintro e w4 ⟨n4,A4,l4,c4,rfl,h4,hb4⟩
  have hbx:Below w4.heap.size w4 (w4.alloc (ibox n4 A4 l4 c4)):=(Below.refl _ _).alloc (Nat.le_refl _) _
  have HT5:=Lh ((HT4.out.move hb4).move hbx)
  have HB5:=Lh ((HB4.out.move hb4).move hbx)
  have HL5:=Lh (IBox.make h4)
  have Hb5:=Lh ((Hb4.out.trans (hb4.mono Hb4.out.size)).trans (hbx.mono (Hb4.out.trans (hb4.mono Hb4.out.size)).size))
  have hsz4:=hb4.size
  clear HT4 HB4 h3 h4 hb4 hbx
  have HT:=HT5
  have HL:=HL5
  have HB:=HB5
  have Hb:=Hb5
  have e30:=HT5.out.c0
  have e31:=HT5.out.c1
  have e40:=HL5.out.c0
  have e41:=HL5.out.c1
  have hht:SmI ((hst (ptrim p) (plen p-1):Nat):Int):=by unfold SmI;rw[Int.natAbs_natCast];exact hst_sm hsp _
  have hhn:SmI (-((hst (ptrim p) (plen p-1):Nat):Int)):=by unfold SmI;rw[Int.natAbs_neg,Int.natAbs_natCast];exact hst_sm hsp _
  have hll:SmI (((plead (ptrim p)).natAbs:Nat):Int):=by unfold SmI;rw[Int.natAbs_natCast];exact hsl
  have fok:DivOK (-((hst (ptrim p) (plen p-1):Nat):Int)).natAbs (((plead (ptrim p)).natAbs:Nat):Int).natAbs:=by rw[Int.natAbs_neg,Int.natAbs_natCast,Int.natAbs_natCast];exact hok2.out.div
  have f0:(((plead (ptrim p)).natAbs:Nat):Int)≠0:=by
   have:=plead_ne (p:=ptrim p) (by rw[plen_ptrim];omega)
   omega
  have f1:Sm ((-((hst (ptrim p) (plen p-1):Nat):Int)).natAbs+1):=by rw[Int.natAbs_neg,Int.natAbs_natCast];exact hok2.out.one
  have f2:Sm ((-((hst (ptrim p) (plen p-1):Nat):Int)).natAbs+(((plead (ptrim p)).natAbs:Nat):Int).natAbs):=by rw[Int.natAbs_neg,Int.natAbs_natCast,Int.natAbs_natCast];exact hok2.out.add
  clear HT5 HL5 HB5 Hb5
  go_wp2_with fail
  have y2:w2.heap.size<w4.heap.size:=by omega
  have v0:w4.heap.size≠w2.heap.size:=by omega
  have v1:w4.heap.size+1≠w2.heap.size:=by omega
  have v2:w4.heap.size+1+1≠w2.heap.size:=by omega
  have v12:w4.heap.size+1+1≠w4.heap.size:=by omega
  go_cut [5] (fun s5 wx=>∃ g5 n6 A6 l6 c6,s5=.pointer (some ⟨g5,0,none⟩)/\w.heap.size<g5/\IBox wx g5 n6 A6 l6 c6 (flq (-(hst (ptrim p) (plen p-1):Nat)) ((plead (ptrim p)).natAbs:Nat))/\IBox wx w.heap.size false none 0 0 0/\Below w.heap.size w wx)
  case first =>
   go_region_held3 (fun w'=>w'.cell? ⟨w2.heap.size,0,none⟩=some (.bool n2)/\w'.cell? ⟨w2.heap.size,1,none⟩=some (.slice A2 l2 c2)/\w'.cell? ⟨w4.heap.size,0,none⟩=some (.bool n4)/\w'.cell? ⟨w4.heap.size,1,none⟩=some (.slice A4 l4 c4)) (go_keep) (first
    | (go_at_call 46;go_must (refine (ineg_any _ _ _ _ _ _ ?_ hht).mono ?_;(exact HT.out.hz.at_.below Bel.go);rintro e w5 ⟨n5,A5,l5,c5,rfl,h5,hb5⟩;obtain ⟨hc5,hf5⟩:=bcellS hb5;have HL6:=Lh (HL.out.move (Below.trans Bel.go (hb5.mono (by simp<;>omega))));have HT6:=Lh (HT.out.move (Below.trans Bel.go (hb5.mono (by simp<;>omega))));have HB6:=Lh (HB.out.move (Below.trans Bel.go (hb5.mono (by simp<;>omega))));have zy:=hb5.size;(try simp only[World.size_alloc,World.size_drew] at zy);(try have z1:w4.heap.size+1<w5.heap.size:=(by omega));(try have z2:w4.heap.size+1+1<w5.heap.size:=(by omega));have v3:w5.heap.size≠w2.heap.size:=(by omega);have v4:w5.heap.size≠w4.heap.size:=(by omega);have v5:w5.heap.size+1≠w2.heap.size:=(by omega);have v6:w5.heap.size+1≠w4.heap.size:=(by omega);(try (have Z1:=Lh (show IBox w5 (w4.heap.size+1) false none 0 0 0 from ⟨(by go_simp),(by go_simp),(by go_simp),(by go_simp),(by omega),⟨NatN.zero _ _ _,(by simp)⟩⟩);have Z1a:=Z1.out.c0;have Z1b:=Z1.out.c1;have Z1c:=Z1.out.f0;have Z1d:=Z1.out.f1));(try (have Z2:=Lh (show IBox w5 (w4.heap.size+1+1) false none 0 0 0 from ⟨(by go_simp),(by go_simp),(by go_simp),(by go_simp),(by omega),⟨NatN.zero _ _ _,(by simp)⟩⟩);have Z2a:=Z2.out.c0;have Z2b:=Z2.out.c1;have Z2c:=Z2.out.f0;have Z2d:=Z2.out.f1));clear hc5 hf5;have Hbn:=Lh (Hb.out.trans ((Below.trans Bel.go (hb5.mono (by simp<;>omega))).mono Hb.out.size));have q30:=HT6.out.c0;have q31:=HT6.out.c1;have q40:=HL6.out.c0;have q41:=HL6.out.c1))
    | (go_at_call 76;go_must (refine (floor_any _ _ _ _ _ _ _ _ _ _ _ ?_ ?_ hhn hll fok f0 f1 f2).mono ?_;(exact h5.at_.below Bel.go);(exact HL6.out.hz.at_.below Bel.go);rintro e w6 ⟨n6,A6,l6,c6,n7,A7,l7,c7,rfl,h6,h7,hb6⟩;obtain ⟨hc6,hf6⟩:=bcellS hb6;have H6:=Lh h6;have HL7:=Lh (HL6.out.move (Below.trans Bel.go (hb6.mono (by simp<;>omega))));have HT7:=Lh (HT6.out.move (Below.trans Bel.go (hb6.mono (by simp<;>omega))));have HB7:=Lh (HB6.out.move (Below.trans Bel.go (hb6.mono (by simp<;>omega))));have zz:=hb6.size;(try simp only[World.size_alloc] at zz);(try have z3:w4.heap.size+1<w6.heap.size:=(by omega));(try have z4:w4.heap.size+1+1<w6.heap.size:=(by omega));(try have z5:w5.heap.size<w6.heap.size:=(by omega));(try have z6:w5.heap.size+1<w6.heap.size:=(by omega));have v7:w6.heap.size≠w2.heap.size:=(by omega);have v8:w6.heap.size≠w4.heap.size:=(by omega);have v9:w6.heap.size+1≠w2.heap.size:=(by omega);have v10:w6.heap.size+1≠w4.heap.size:=(by omega);(try (have Y1:=Lh (Z1.out.move (Below.trans Bel.go (hb6.mono (by simp<;>omega))));have Y1a:=Y1.out.c0;have Y1b:=Y1.out.c1;have Y1c:=Y1.out.f0;have Y1d:=Y1.out.f1));(try (have Y2:=Lh (Z2.out.move (Below.trans Bel.go (hb6.mono (by simp<;>omega))));have Y2a:=Y2.out.c0;have Y2b:=Y2.out.c1;have Y2c:=Y2.out.f0;have Y2d:=Y2.out.f1));(try (have Y3:=Lh (show IBox w6 (w5.heap.size) false none 0 0 0 from ⟨(by go_simp),(by go_simp),(by go_simp),(by go_simp),(by omega),⟨NatN.zero _ _ _,(by simp)⟩⟩);have Y3a:=Y3.out.c0;have Y3b:=Y3.out.c1;have Y3c:=Y3.out.f0;have Y3d:=Y3.out.f1));(try (have Y4:=Lh (show IBox w6 (w5.heap.size+1) false none 0 0 0 from ⟨(by go_simp),(by go_simp),(by go_simp),(by go_simp),(by omega),⟨NatN.zero _ _ _,(by simp)⟩⟩);have Y4a:=Y4.out.c0;have Y4b:=Y4.out.c1;have Y4c:=Y4.out.f0;have Y4d:=Y4.out.f1));clear hc6 hf6;have HbF:=Lh (Hbn.out.trans ((Below.trans Bel.go (hb6.mono (by simp<;>omega))).mono Hbn.out.size));have p30:=HT7.out.c0;have p31:=HT7.out.c1;have p40:=HL7.out.c0;have p41:=HL7.out.c1)))
   all_goals go_wp2_with fail
   all_goals go_meet
   ·refine ⟨_,n6,A6,l6,c6,rfl,by omega,?_,?_,?_⟩
    ·exact (IBox.make H6.out).move Bel.go
    ·exact HB7.out.move Bel.go
    ·(repeat (first | exact HbF.out | refine Below.alloc ?_ (by first | (simp;done) | (simp;omega) | omega) _ | refine Below.setCell ?_ (by first | (simp;done) | (simp;omega) | omega) _))
   ·refine ⟨_,n6,A6,l6,c6,rfl,by omega,?_,?_,?_⟩
    ·have hx:=IBox.make (W:=w6.alloc (ibox n7 A7 l7 c7)) (H6.out.below Bel.go)
     rw[World.size_alloc] at hx
     exact hx
    ·exact HB7.out.move Bel.go
    ·(repeat (first | exact HbF.out | refine Below.alloc ?_ (by first | (simp;done) | (simp;omega) | omega) _ | refine Below.setCell ?_ (by first | (simp;done) | (simp;omega) | omega) _))
   ·refine ⟨_,n6,A6,l6,c6,rfl,by omega,?_,?_,?_⟩
    ·exact (Y3.out.put H6.out).move Bel.go
    ·exact (HB7.out.far Y3.out (by omega) _ _).move Bel.go
    ·(repeat (first | exact HbF.out | refine Below.alloc ?_ (by first | (simp;done) | (simp;omega) | omega) _ | refine Below.setCell ?_ (by first | (simp;done) | (simp;omega) | omega) _))
   ·refine ⟨_,n6,A6,l6,c6,rfl,by omega,?_,?_,?_⟩
    ·exact (Y3.out.put H6.out).far (Y4.out.far Y3.out (by omega) _ _) (by omega) _ _
    ·exact (HB7.out.far Y3.out (by omega) _ _).far (Y4.out.far Y3.out (by omega) _ _) (by omega) _ _
    ·(repeat (first | exact HbF.out | refine Below.alloc ?_ (by first | (simp;done) | (simp;omega) | omega) _ | refine Below.setCell ?_ (by first | (simp;done) | (simp;omega) | omega) _))
   ·refine ⟨_,n6,A6,l6,c6,rfl,by omega,?_,?_,?_⟩
    ·have hx:=IBox.make (H6.out.ret (.bool n7) (.slice A7 l7 c7) Y3.out.c0 Y3.out.c1)
     rw[World.size_setCell,World.size_setCell] at hx
     exact hx
    ·exact (HB7.out.far Y3.out (by omega) _ _).move Bel.go
    ·(repeat (first | exact HbF.out | refine Below.alloc ?_ (by first | (simp;done) | (simp;omega) | omega) _ | refine Below.setCell ?_ (by first | (simp;done) | (simp;omega) | omega) _))
   ·refine ⟨_,n6,A6,l6,c6,rfl,by omega,?_,?_,?_⟩
    ·exact (Y4.out.put H6.out).far (Y3.out.far Y4.out (by omega) _ _) (by omega) _ _
    ·exact (HB7.out.far Y4.out (by omega) _ _).far (Y3.out.far Y4.out (by omega) _ _) (by omega) _ _
    ·(repeat (first | exact HbF.out | refine Below.alloc ?_ (by first | (simp;done) | (simp;omega) | omega) _ | refine Below.setCell ?_ (by first | (simp;done) | (simp;omega) | omega) _))
   ·refine ⟨_,n6,A6,l6,c6,rfl,by omega,?_,?_,?_⟩
    ·exact (Y1.out.put H6.out).move Bel.go
    ·exact (HB7.out.far Y1.out (by omega) _ _).move Bel.go
    ·(repeat (first | exact HbF.out | refine Below.alloc ?_ (by first | (simp;done) | (simp;omega) | omega) _ | refine Below.setCell ?_ (by first | (simp;done) | (simp;omega) | omega) _))
   ·refine ⟨_,n6,A6,l6,c6,rfl,by omega,?_,?_,?_⟩
    ·exact (Y1.out.put H6.out).far (Y3.out.far Y1.out (by omega) _ _) (by omega) _ _
    ·exact (HB7.out.far Y1.out (by omega) _ _).far (Y3.out.far Y1.out (by omega) _ _) (by omega) _ _
    ·(repeat (first | exact HbF.out | refine Below.alloc ?_ (by first | (simp;done) | (simp;omega) | omega) _ | refine Below.setCell ?_ (by first | (simp;done) | (simp;omega) | omega) _))
   ·refine ⟨_,n6,A6,l6,c6,rfl,by omega,?_,?_,?_⟩
    ·exact (Y1.out.put H6.out).far (Y2.out.far Y1.out (by omega) _ _) (by omega) _ _
    ·exact (HB7.out.far Y1.out (by omega) _ _).far (Y2.out.far Y1.out (by omega) _ _) (by omega) _ _
    ·(repeat (first | exact HbF.out | refine Below.alloc ?_ (by first | (simp;done) | (simp;omega) | omega) _ | refine Below.setCell ?_ (by first | (simp;done) | (simp;omega) | omega) _))
   ·refine ⟨_,n6,A6,l6,c6,rfl,by omega,?_,?_,?_⟩
    ·have hx:=IBox.make (H6.out.ret (.bool n7) (.slice A7 l7 c7) Y1.out.c0 Y1.out.c1)
     rw[World.size_setCell,World.size_setCell] at hx
     exact hx
    ·exact (HB7.out.far Y1.out (by omega) _ _).move Bel.go
    ·(repeat (first | exact HbF.out | refine Below.alloc ?_ (by first | (simp;done) | (simp;omega) | omega) _ | refine Below.setCell ?_ (by first | (simp;done) | (simp;omega) | omega) _))
   ·refine ⟨_,n6,A6,l6,c6,rfl,by omega,?_,?_,?_⟩
    ·exact (Y3.out.put H6.out).far (Y1.out.far Y3.out (by omega) _ _) (by omega) _ _
    ·exact (HB7.out.far Y3.out (by omega) _ _).far (Y1.out.far Y3.out (by omega) _ _) (by omega) _ _
    ·(repeat (first | exact HbF.out | refine Below.alloc ?_ (by first | (simp;done) | (simp;omega) | omega) _ | refine Below.setCell ?_ (by first | (simp;done) | (simp;omega) | omega) _))
   ·refine ⟨_,n6,A6,l6,c6,rfl,by omega,?_,?_,?_⟩
    ·exact (Y2.out.put H6.out).far (Y1.out.far Y2.out (by omega) _ _) (by omega) _ _
    ·exact (HB7.out.far Y2.out (by omega) _ _).far (Y1.out.far Y2.out (by omega) _ _) (by omega) _ _
    ·(repeat (first | exact HbF.out | refine Below.alloc ?_ (by first | (simp;done) | (simp;omega) | omega) _ | refine Below.setCell ?_ (by first | (simp;done) | (simp;omega) | omega) _))
  case rest =>
   clear HT HL HB Hb e30 e31 e40 e41 y2 v0 v1 v2 v12 hht hhn hll fok f0 f1 f2
   obtain ⟨g5,n6,A6,l6,c6,rfl,hg5,hbx,hb0,hbw⟩:=hcut
   have hne:w.heap.size≠g5:=by omega
   have HX:=Lh hbx
   have HB:=Lh hb0
   have Hbw:=Lh hbw
   have x0:=hbx.c0
   have x1:=hbx.c1
   have hsf:SmI (flq (-(hst (ptrim p) (plen p-1):Nat)) ((plead (ptrim p)).natAbs:Nat)):=hok2.out.fin.mono (Nat.le_add_right _ _)
   have hsf2:Sm ((1:Int).natAbs+(flq (-(hst (ptrim p) (plen p-1):Nat)) ((plead (ptrim p)).natAbs:Nat)).natAbs):=by
    have:=hok2.out.fin
    rw[Nat.add_comm] at this
    exact this
   have hs1:SmI 1:=SmI.of64 (by unfold I64;omega)
   clear hbx hb0 hbw
   go_wp2_with fail
   go_region_held3 (fun w'=>w'.cell? ⟨g5,0,none⟩=some (.bool n6)/\w'.cell? ⟨g5,1,none⟩=some (.slice A6 l6 c6)) (go_keep) (first
    | (go_at_call 22;go_must (refine (iof_any 1 _ (by unfold I64;omega)).mono ?_;rintro e w7 ⟨n8,A8,l8,c8,rfl,h8,hb8⟩;have HX8:=Lh (HX.out.move (Below.trans Bel.go (hb8.mono (by simp<;>omega))));have HB8:=Lh (HB.out.move (Below.trans Bel.go (hb8.mono (by simp<;>omega))));have Hb8:=Lh (Hbw.out.trans ((Below.trans Bel.go (hb8.mono (by simp<;>omega))).mono Hbw.out.size));have q0:=HX8.out.c0;have q1:=HX8.out.c1))
    | (go_at_call 30;go_must (refine (isub_any _ _ _ _ _ _ _ _ _ _ _ ?_ ?_ hs1 hsf hsf2).mono ?_;(exact h8.at_.below Bel.go);(exact HX8.out.hz.at_.below Bel.go);rintro e w9 ⟨n9,A9,l9,c9,rfl,h9,hb9⟩;have HX9:=Lh (HX8.out.move (Below.trans Bel.go (hb9.mono (by simp<;>omega))));have HB9:=Lh (HB8.out.move (Below.trans Bel.go (hb9.mono (by simp<;>omega))));have Hb9:=Lh (Hb8.out.trans ((Below.trans Bel.go (hb9.mono (by simp<;>omega))).mono Hb8.out.size));have p0:=HX9.out.c0;have p1:=HX9.out.c1;have b0:=HB9.out.c0;have b1:=HB9.out.c1;have b2:=HB9.out.f0;have b3:=HB9.out.f1)))
   have HP:=Lh (HB9.out.put h9)
   have HbP:=Lh ((Hb9.out.setCell (p:=⟨w.heap.size,0,none⟩) (Nat.le_refl _) (.bool n9)).setCell (p:=⟨w.heap.size,1,none⟩) (Nat.le_refl _) (.slice A9 l9 c9))
   clear HX HB Hbw x0 x1 hsf hsf2 hs1 HX8 HB8 Hb8 q0 q1 h8 hb8 HX9 HB9 Hb9 p0 p1 h9 hb9
   go_wp2
   refine bodyPost_ret (v:=.agg #[.bool n9,.slice A9 l9 c9]) (by simp[results,Tryz.results42,go_sem,b0,b1]) rfl ⟨_,_,_,_,rfl,by rw[E.out];exact HP.out.hz,HbP.out⟩
end Go.Proofs.YtphmkdmflopcdaaGreat
namespace Go.Proofs.YtphmkdmflopcdaaGreat
open Go.RowKit
theorem sm_small {n:Nat} (h:n<=9223372036854775807):Sm n:=by
 have:=SmI.of64 (z:=(n:Int)) (by unfold I64;omega)
 unfold SmI at this
 rwa [Int.natAbs_natCast] at this
theorem dlen_low {n:Nat} (h0:n≠0) (h:n<BB):dlen n=1:=by
 rw[dlen_pos h0,Nat.div_eq_of_lt h,dlen_zero]
theorem cauok_small {p:List Int} (h1:hst (ptrim p) (plen p-1)<=1000000000) (h2:(plead (ptrim p)).natAbs<=1000000000) (h0:plead (ptrim p)≠0):CauOK p:=by
 have hf:(flq (-(hst (ptrim p) (plen p-1):Nat)) ((plead (ptrim p)).natAbs:Nat)).natAbs<=1000000001:=by
  have:=Int.natAbs_tdiv (-((hst (ptrim p) (plen p-1):Nat):Int)) ((plead (ptrim p)).natAbs:Nat)
  rw[Int.natAbs_neg,Int.natAbs_natCast,Int.natAbs_natCast] at this
  have h3:=Nat.div_le_self (hst (ptrim p) (plen p-1)) (plead (ptrim p)).natAbs
  have h3:_<=_:=Nat.le_trans (Nat.le_of_eq this) h3
  unfold flq
  generalize (-((hst (ptrim p) (plen p-1):Nat):Int)).tdiv ((plead (ptrim p)).natAbs:Nat)=d at h3 ⊢
  split<;>omega
 exact ⟨.inr (dlen_low (by omega) (by rw[BB_eq];omega)),sm_small (by omega),sm_small (by omega),sm_small (by omega)⟩
end Go.Proofs.YtphmkdmflopcdaaGreat
namespace Go.Proofs.YtphmkdmflopcdaaGreat
open Go.RowKit
theorem info_int64:(Tryz.prog.info? 3).map (fun i=>(i.zero,i.size,i.bytes))=some (some (.int .i64 0),1,8):=by kernel_rfl
theorem wpList_append_one {w:World} {ops:Array Oper} {rest:List Oper} {o:Oper} {a:Act} {Q:Exit->Act->World->Prop} (hgd:o.guard=none) (s x:Operand) (t:TypeId)
  (ho:o.op=.call { callee:=.builtin .append,args:=#[s,x],argTypes:=#[t,t] })
  (base:Nat) (e:TypeId) (i:TypeInfo) (z:Value) (bytes:Nat) (ht:Tryz.prog.underlying t=some (.slice e)) (hi:Tryz.prog.info? e=some i) (hz:i.zero=some z)
  (hsize:i.size=1) (hby:i.bytes=bytes) (hzs:z.cells.size=1)
  (v u:Value) (n:Nat) (xs:List Value) (hu:u.oneCell'=true) (hs:a.eval s=v) (hown:w.ownsRow base e 1 v n xs) (hx:a.eval x=.slice (some ⟨w.heap.size,0,none⟩) 1 1)
  (h63:n+1<=1000000000000) (hb:bytes<=128) (hbase:base<=w.heap.size)
  (h:∀ v' w',w'.ownsRow base e 1 v' (n+1) (xs ++ [u])->(w.alloc (.cells #[u] e)).grownBy w' v.ownBlock->wpList Tryz.prog ops Q rest (a.put o.dst v') w') :
  wpList Tryz.prog ops Q (o :: rest) a (w.alloc (.cells #[u] e)):=by
 refine wpList_append_own _ hgd s x t ho base e i z 1 bytes ht hi hz hsize hby hzs (by decide) v n xs hs (World.ownsRow.alloc hown _) ⟨w.heap.size,0,none⟩ 1 1 [u] hx rfl ?_ ?_ (by unfold maxLen;omega) ?_ (by simp;omega) (fun v' w' h1 h2 _=>h v' w' h1 h2)
 ·intro j y hj
  match j,hj with
  | 0,hj=>simp at hj;subst hj;simp[Addr.add]
 ·intro y hy
  simp at hy
  rw[hy];exact hu
 ·calc (n+1)*bytes<=1000000000000*128:=Nat.mul_le_mul h63 hb
   _<=140737488355328:=by omega
structure I16At (w:World) (A:Option Addr) (len cap:Nat) (p:List Int):Prop where
 length:p.length=len
 range:∀ c∈p,-32768<=c/\c<=32767
 cells:len=0∨∃ b off,A=some ⟨b,off,none⟩/\b<w.heap.size/\∀ j,j<len->w.cell? ⟨b,off+j,none⟩=some (.int .i16 (p.getD j 0))
theorem I16At.below {w w':World} {A:Option Addr} {len cap:Nat} {p:List Int} (h:I16At w A len cap p) (hb:Below w.heap.size w w'):I16At w' A len cap p:=by
 refine ⟨h.length,h.range,?_⟩
 rcases h.cells with h0 | ⟨b,off,hA,hlt,hc⟩
 ·exact .inl h0
 ·exact .inr ⟨b,off,hA,Nat.lt_of_lt_of_le hlt hb.size,fun j hj=>(hb.cell (p:=⟨b,off+j,none⟩) hlt).trans (hc j hj)⟩
theorem I16At.at_ {w:World} {A:Option Addr} {len cap:Nat} {p:List Int} (h:I16At w A len cap p) (hl:0<len) :
  ∃ b off,A=some ⟨b,off,none⟩/\b<w.heap.size/\∀ j,j<len->w.cell? ⟨b,off+j,none⟩=some (.int .i16 (p.getD j 0)):=by
 rcases h.cells with h0 | h1
 ·omega
 ·exact h1
end Go.Proofs.YtphmkdmflopcdaaGreat
namespace Go.Proofs.YtphmkdmflopcdaaGreat
open Go.RowKit
theorem getD_ge_plen (p:List Int):∀ k,plen p<=k->p.getD k 0=0:=by
 induction p with
 | nil=>intro k _;simp
 | cons d ds ih =>
   intro k h
   by_cases h1:plen ds=0
   ·by_cases h2:d=0
    ·cases k with
     | zero=>simpa using h2
     | succ k=>rw[List.getD_cons_succ];exact ih k (by omega)
    ·rw[plen_cons_one h1 h2] at h
     obtain ⟨j,rfl⟩:∃ j,k=j+1:=⟨k-1,by omega⟩
     rw[List.getD_cons_succ];exact ih j (by omega)
   ·rw[plen_cons_succ h1] at h
    obtain ⟨j,rfl⟩:∃ j,k=j+1:=⟨k-1,by omega⟩
    rw[List.getD_cons_succ];exact ih j (by omega)
theorem take_getD (p:List Int) {n k:Nat} (h:k<n):(p.take n).getD k 0=p.getD k 0:=by simp[List.getD_eq_getElem?_getD,h]
theorem Tiny.i64 {m:Nat} {p:List Int} (h:Tiny m p) (hm:m<=9223372036854775807):∀ c∈p,I64 c:=by
 intro c hc
 obtain ⟨k,hk⟩:=List.getElem?_of_mem hc
 have:=h k
 rw[List.getD_eq_getElem?_getD,hk] at this
 unfold I64
 simp at this
 omega
theorem Tiny.smp {m:Nat} {p:List Int} (h:Tiny m p) (hm:m<=9223372036854775807):SmP p:=fun c hc=>SmI.of64 (h.i64 hm c hc)
theorem Tiny.trim {m:Nat} {p:List Int} (h:Tiny m p):Tiny m (ptrim p):=by
 intro k
 rcases Nat.lt_or_ge k (plen p) with h1 | h1
 ·rw[ptrim,take_getD p h1];exact h k
 ·have:=ptrim_length p
  rw[List.getD_eq_getElem?_getD,List.getElem?_eq_none (by omega)];simp
end Go.Proofs.YtphmkdmflopcdaaGreat
