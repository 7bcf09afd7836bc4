/- The law RootboundVariations: the walk. -/
import Derived.Test.YtdimmlckpgpgcaaGreatPolB
import Derived.Test.YtdimmlckpgpgcaaGreatDivC
import Derived.IntWalk
namespace Go.Proofs.YtdimmlckpgpgcaaGreat
open Go.RowKit
def vst (p:List Int):Nat->Nat×Int
 | 0=>(0,0)
 | k+1=>if sg (p.getD k 0)=0 then vst p k else (if sg (p.getD k 0)=-(vst p k).2 then (vst p k).1+1 else (vst p k).1,sg (p.getD k 0))
theorem afy (p:List Int) (k:Nat):(vst p k).1<=k/\((vst p k).2=-1∨(vst p k).2=0∨(vst p k).2=1):=by
 induction k with
 | zero=>exact ⟨Nat.le_refl _,.inr (.inl rfl)⟩
 | succ k ih =>
   simp only[vst]
   split
   ·exact ⟨by omega,ih.2⟩
   ·refine ⟨by simp only;split<;>omega,?_⟩
    rcases aar (p.getD k 0) with ⟨a1,a2⟩ | ⟨a1,a2⟩ | ⟨a1,a2⟩<;>first | exact .inl a2 | exact .inr (.inl a2) | exact .inr (.inr a2)
theorem aiV {p:List Int} {k:Nat} {c:Nat} {l:Int} (h:vst p k=(c,l)) (h0:sg (p.getD k 0)=0):vst p (k+1)=(c,l):=by simp only[vst,if_pos h0];exact h
theorem aeK {p:List Int} {k:Nat} {c:Nat} {l:Int} (h:vst p k=(c,l)) {s:Int} (hs:sg (p.getD k 0)=s) (h0:s≠0) (h1:s=-l):vst p (k+1)=(c+1,s):=by
 simp only[vst,h,hs,if_neg h0,if_pos h1]
theorem acs {p:List Int} {k:Nat} {c:Nat} {l:Int} (h:vst p k=(c,l)) {s:Int} (hs:sg (p.getD k 0)=s) (h0:s≠0) (h1:s≠-l):vst p (k+1)=(c,s):=by
 simp only[vst,h,hs,if_neg h0,if_neg h1]
set_option maxHeartbeats 2000000 in
theorem ard (A:Option Addr) (len cap:Nat) (p:List Int) (w:World) (h:acG w A len cap p) (hs:SmP p) (hm:len<=1099511627776) :
  Calls Tryz.prog 79 #[.slice A len cap] w fun e w'=>e=.returned (.int .i64 ((vst p len).1:Nat))/\Below w.heap.size w w':=by
 go_enter Tryz.func79,Tryz.ntmps79
 go_wp2
 go_loopw [3,4,10] (fun c l i wr=>∃ (k cc:Nat) (ll:Int),k<=len/\c=.int .i64 (cc:Int)/\l=.int .i64 ll/\i=.int .i64 (k:Int)/\vst p k=(cc,ll)/\Below w.heap.size w wr) (fun _ _ i _=>len-(intOf i).toNat)
 case atStart=>exact ⟨0,0,0,Nat.zero_le _,rfl,rfl,rfl,rfl,Below.refl _ _⟩
 case round =>
  obtain ⟨k,cc,ll,hk,rfl,rfl,rfl,hst,hbw⟩:=hrel
  have hle:=afy p k
  rw[hst] at hle
  obtain ⟨hcc,hll⟩:=hle
  simp only at hcc hll
  have Hst:=Lh hst
  clear hst
  by_cases hlt:k<len
  ·obtain ⟨b,off,rfl,hb,hc⟩:=h.get (by omega)
   obtain ⟨neg,Aj,lj,cj,c0,c1,hz⟩:=hc k hlt
   have e0:=(hbw.cell (p:=⟨b,off+k*2,none⟩) hb).trans c0
   have e1:=(hbw.cell (p:=⟨b,off+k*2+1,none⟩) hb).trans c1
   have hz2:=(hz.below hbw).below ((Below.refl wr.heap.size wr).alloc (Nat.le_refl _) (aaq neg Aj lj cj))
   have hsk:=hs.getD k
   have Hb:=Lh hbw
   clear hc h c0 c1 hz hbw
   go_wp2_with fail
   refine (abC _ _ _ _ _ _ hz2 hsk).mono ?_
   rintro e w2 ⟨rfl,rfl⟩
   have Hbn:=Lh (Hb.out.trans ((ab1 (B:=wr.heap.size) wr (aaq neg Aj lj cj) (aaq neg Aj lj cj) (Nat.le_refl _)).mono Hb.out.size))
   clear hz2 hsk e0 e1
   obtain ⟨s,hsv⟩:∃ s,s=sg (p.getD k 0):=⟨_,rfl⟩
   have Hsv:=Lh hsv.symm
   have hcase:s=-1∨s=0∨s=1:=by
    rcases aar (p.getD k 0) with ⟨a1,a2⟩ | ⟨a1,a2⟩ | ⟨a1,a2⟩<;>omega
   rw[<- hsv]
   clear hsv
   rcases hcase with rfl | rfl | rfl
   ·rcases hll with rfl | rfl | rfl
    ·have Hn:=Lh (acs Hst.out Hsv.out (by omega) (by omega))
     go_wp2
     go_roundw
     case rel=>exact ⟨k+1,_,_,by omega,rfl,rfl,by go_num,Hn.out,Hbn.out⟩
     case measure=>simp[intOf];omega
    ·have Hn:=Lh (acs Hst.out Hsv.out (by omega) (by omega))
     go_wp2
     go_roundw
     case rel=>exact ⟨k+1,_,_,by omega,rfl,rfl,by go_num,Hn.out,Hbn.out⟩
     case measure=>simp[intOf];omega
    ·have Hn:=Lh (aeK Hst.out Hsv.out (by omega) (by omega))
     go_wp2
     go_roundw
     case rel=>exact ⟨k+1,_,_,by omega,by go_num,rfl,by go_num,Hn.out,Hbn.out⟩
     case measure=>simp[intOf];omega
   ·have Hn:=Lh (aiV Hst.out Hsv.out)
    go_wp2
    go_roundw
    case rel=>exact ⟨k+1,_,_,by omega,rfl,rfl,by go_num,Hn.out,Hbn.out⟩
    case measure=>simp[intOf];omega
   ·rcases hll with rfl | rfl | rfl
    ·have Hn:=Lh (aeK Hst.out Hsv.out (by omega) (by omega))
     go_wp2
     go_roundw
     case rel=>exact ⟨k+1,_,_,by omega,by go_num,rfl,by go_num,Hn.out,Hbn.out⟩
     case measure=>simp[intOf];omega
    ·have Hn:=Lh (acs Hst.out Hsv.out (by omega) (by omega))
     go_wp2
     go_roundw
     case rel=>exact ⟨k+1,_,_,by omega,rfl,rfl,by go_num,Hn.out,Hbn.out⟩
     case measure=>simp[intOf];omega
    ·have Hn:=Lh (acs Hst.out Hsv.out (by omega) (by omega))
     go_wp2
     go_roundw
     case rel=>exact ⟨k+1,_,_,by omega,rfl,rfl,by go_num,Hn.out,Hbn.out⟩
     case measure=>simp[intOf];omega
  ·have hk2:len=k:=by omega
   subst hk2
   have Hb:=Lh hbw
   clear h hbw hll
   go_wp2
   go_ret
   exact ⟨by rw[Hst.out];rfl,Hb.out⟩
def Tiny (m:Nat) (p:List Int):Prop:=∀ k,(p.getD k 0).natAbs<=m
end Go.Proofs.YtdimmlckpgpgcaaGreat
namespace Go.Proofs.YtdimmlckpgpgcaaGreat
open Go.RowKit
def hst (p:List Int):Nat->Nat
 | 0=>0
 | k+1=>if hst p k<(p.getD k 0).natAbs then (p.getD k 0).natAbs else hst p k
theorem ao0 {p:List Int} (h:SmP p) (k:Nat):Sm (hst p k):=by
 induction k with
 | zero=>exact SmI.zero
 | succ k ih =>
   simp only[hst]
   split
   ·exact h.getD k
   ·exact ih
structure HtW (w W:World) (n1:Bool) (A1:Option Addr) (l1 c1:Nat) (q:Int):Prop where
 c00:W.cell? ⟨w.heap.size,0,none⟩=some (.bool false)
 c01:W.cell? ⟨w.heap.size,1,none⟩=some (.slice none 0 0)
 c10:W.cell? ⟨w.heap.size+1,0,none⟩=some (.bool n1)
 c11:W.cell? ⟨w.heap.size+1,1,none⟩=some (.slice A1 l1 c1)
 f00:W.frozen? ⟨w.heap.size,0,none⟩=false
 f01:W.frozen? ⟨w.heap.size,1,none⟩=false
 f10:W.frozen? ⟨w.heap.size+1,0,none⟩=false
 f11:W.frozen? ⟨w.heap.size+1,1,none⟩=false
 size:w.heap.size+2<=W.heap.size
 hq:aaE W n1 A1 l1 c1 q
 below:Below w.heap.size w W
section
variable {w W W':World} {n1:Bool} {A1:Option Addr} {l1 c1:Nat} {q:Int}
theorem HtW.move (h:HtW w W n1 A1 l1 c1 q) (hb:Below W.heap.size W W'):HtW w W' n1 A1 l1 c1 q:=by
 obtain ⟨hc,hf⟩:=acg hb
 have hs:=h.size
 exact ⟨(hc _ _ (by omega)).trans h.c00,(hc _ _ (by omega)).trans h.c01,(hc _ _ (by omega)).trans h.c10,(hc _ _ (by omega)).trans h.c11,
  (hf _ _ (by omega)).trans h.f00,(hf _ _ (by omega)).trans h.f01,(hf _ _ (by omega)).trans h.f10,(hf _ _ (by omega)).trans h.f11,Nat.le_trans hs hb.size,h.hq.below hb,h.below.trans (hb.mono h.below.size)⟩
theorem HtW.atD (h:HtW w W n1 A1 l1 c1 q) {n3:Bool} {A3:Option Addr} {l3 c3:Nat} {q':Int} (h3:aaE W n3 A3 l3 c3 q') :
  HtW w ((W.setCell ⟨w.heap.size+1,0,none⟩ (.bool n3)).setCell ⟨w.heap.size+1,1,none⟩ (.slice A3 l3 c3)) n3 A3 l3 c3 q':=by
 have k:=h.c00
 have k1:=h.c01
 have k2:=h.c10
 have k3:=h.c11
 have f0:=h.f00
 have f1:=h.f01
 have f2:=h.f10
 have f3:=h.f11
 exact ⟨by go_simp,by go_simp,by go_simp,by go_simp,by go_simp,by go_simp,by go_simp,by go_simp,by simpa using h.size,h3.ret _ _ k2 k3,((h.below.setCell (p:=⟨w.heap.size+1,0,none⟩) (by simp<;>omega) _).setCell (p:=⟨w.heap.size+1,1,none⟩) (by simp<;>omega) _)⟩
end
theorem HtW.start (w:World):HtW w ((w.alloc (aaq false none 0 0)).alloc (aaq false none 0 0)) false none 0 0 0:=by
 exact ⟨by go_simp,by go_simp,by go_simp,by go_simp,by go_simp,by go_simp,by go_simp,by go_simp,by simp,⟨aaW.zero _ _ _,by simp⟩,ab1 w _ _ (Nat.le_refl _)⟩
set_option maxHeartbeats 2000000 in
theorem height_any {I:aay} (hI:IK I) (A:Option Addr) (len cap:Nat) (p:List Int) (w:World) (h:aaw I w A len cap p) (hs:SmP p) (hm:len<=1099511627776) :
  Calls Tryz.prog 39 #[.slice A len cap] w fun e w'=>∃ n1 A1 l1 c1,e=.returned (.agg #[.bool n1,.slice A1 l1 c1])/\aaE w' n1 A1 l1 c1 (hst p len:Nat)/\Below w.heap.size w w':=by
 have H0:=Lh (HtW.start w)
 go_enter Tryz.func39,Tryz.ntmps39
 go_wp2
 go_loopw [9] (fun i wr=>∃ (k:Nat) (n1:Bool) (A1:Option Addr) (l1 c1:Nat),k<=len/\i=.int .i64 (k:Int)/\HtW w wr n1 A1 l1 c1 (hst p k:Nat)) (fun i _=>len-(intOf i).toNat)
 case atStart=>exact ⟨0,_,_,_,_,Nat.zero_le _,rfl,H0.out⟩
 case round =>
  clear H0
  obtain ⟨k,n1,A1,l1,c1,hk,rfl,hw⟩:=hrel
  have HW:=Lh hw
  have c00:=hw.c00
  have c01:=hw.c01
  have c10:=hw.c10
  have c11:=hw.c11
  have f00:=hw.f00
  have f01:=hw.f01
  have f10:=hw.f10
  have f11:=hw.f11
  have esz:=hw.size
  have k0:w.heap.size<wr.heap.size:=by omega
  have k1:w.heap.size+1<wr.heap.size:=by omega
  by_cases hlt:k<len
  ·obtain ⟨b,off,rfl,hb,hc⟩:=h.get (by omega)
   obtain ⟨neg,Aj,lj,cj,d0,d1,hz⟩:=hc k hlt
   have e0:=(hw.below.cell (p:=⟨b,off+k*2,none⟩) hb).trans d0
   have e1:=(hw.below.cell (p:=⟨b,off+k*2+1,none⟩) hb).trans d1
   have hbx:Below wr.heap.size wr (wr.alloc (aaq neg Aj lj cj)):=(Below.refl _ _).alloc (Nat.le_refl _) _
   have hz2:=((hI.at_ hz).below hw.below).below hbx
   have hq2:=(hw.hq.below hbx).nat.at_
   rw[Int.natAbs_natCast] at hq2
   have HX:=Lh (hw.move hbx)
   have hsk:=hs.getD k
   have hsh:=ao0 hs k
   clear hc h d0 d1 hz hw hbx
   go_wp2_with fail
   refine (ael _ _ _ _ _ _ _ _ _ hz2.nat hq2 hsk hsh).mono ?_
   rintro e w2 ⟨rfl,nq,rfl⟩
   have hbq:Below (wr.alloc (aaq neg Aj lj cj)).heap.size (wr.alloc (aaq neg Aj lj cj)) ((wr.alloc (aaq neg Aj lj cj)).drewN nq):=⟨rfl,rfl,rfl,Nat.le_refl _,fun _ _=>rfl⟩
   have hz3:=hz2.below hbq
   have HY:=Lh (HX.out.move hbq)
   clear hz2 hq2 hbq
   obtain ⟨v,hv⟩:∃ v,v=ag4 (p.getD k 0).natAbs (hst p k):=⟨_,rfl⟩
   rw[<- hv]
   by_cases hgt:hst p k<(p.getD k 0).natAbs
   ·have hcm:0<v:=by rw[hv,ak6 hgt];omega
    clear hv
    have Hn:=Lh (show hst p (k+1)=(p.getD k 0).natAbs from if_pos hgt)
    clear hgt
    go_wp2_with fail
    refine (aiR _ _ _ _ _ _ hz3 hsk).mono ?_
    rintro e w3 ⟨n3,A3,l3,c3,rfl,h3,hb3⟩
    have hg:=HY.out.move hb3
    have HZ:=Lh (hg.atD h3)
    clear c00 c01 c10 c11 f00 f01 f10 f11 e0 e1 hz3 hsk hsh hcm h3 hb3
    have c10:=hg.c10
    have c11:=hg.c11
    have f10:=hg.f10
    have f11:=hg.f11
    clear hg
    go_wp2
    go_roundw
    case rel=>exact ⟨k+1,_,_,_,_,by omega,by go_num,by rw[Hn.out];exact HZ.out⟩
    case measure=>simp[intOf];omega
   ·have hcm:¬ 0<v:=by
     rw[hv]
     unfold ag4
     rcases Nat.lt_or_ge (p.getD k 0).natAbs (hst p k) with h1 | h1
     ·rw[if_pos h1];omega
     ·rw[if_neg (by omega),if_pos (by omega)];omega
    clear hv
    have Hn:=Lh (show hst p (k+1)=hst p k from if_neg hgt)
    clear hgt
    go_wp2
    go_roundw
    case rel=>exact ⟨k+1,_,_,_,_,by omega,by go_num,by rw[Hn.out];exact HY.out⟩
    case measure=>simp[intOf];omega
  ·have hk2:len=k:=by omega
   subst hk2
   have HI2:=Lh (hw.hq.ret (.bool n1) (.slice A1 l1 c1) c00 c01)
   have Hb:=Lh hw.below
   clear h hw HW
   go_wp2
   refine bodyPost_ret (v:=.agg #[.bool n1,.slice A1 l1 c1]) (by simp[results,Tryz.results39,go_sem,c00,c01]) rfl ⟨_,_,_,_,rfl,HI2.out,(Hb.out.setCell (p:=⟨w.heap.size,0,none⟩) (Nat.le_refl _) _).setCell (p:=⟨w.heap.size,1,none⟩) (Nat.le_refl _) _⟩
end Go.Proofs.YtdimmlckpgpgcaaGreat
namespace Go.Proofs.YtdimmlckpgpgcaaGreat
open Go.RowKit
end Go.Proofs.YtdimmlckpgpgcaaGreat
namespace Go.Proofs.YtdimmlckpgpgcaaGreat
open Go.RowKit
end Go.Proofs.YtdimmlckpgpgcaaGreat
namespace Go.Proofs.YtdimmlckpgpgcaaGreat
open Go.RowKit
def avj (e:TypeId) (w:World) (base:Nat) (v:Value) (k:Nat) (p:List Int):Prop:=w.ownsRow base e 1 v k ((p.map (Value.int .i64)).take k)
theorem avj.step {e:TypeId} {wr w1 w:World} {base k:Nat} {u v':Value} {p:List Int} {o:Obj} (hk:k<p.length) (hbase:base<=wr.heap.size) (h:avj e wr base u k p) (hn:Below base w wr)
  (h':w1.ownsRow base e 1 v' (k+1) ((p.map (Value.int .i64)).take k ++ [.int .i64 (p[k]?.getD 0)])) (hg:(wr.alloc o).grownBy w1 u.ownBlock):avj e w1 base v' (k+1) p/\Below base w w1:=by
 refine ⟨?_,(hn.alloc hbase o).grown hg (by simp;omega) (fun j hj=>(World.ownsRow.lt h j hj).1)⟩
 unfold avj
 have e1:(p.map (Value.int .i64)).take (k+1)=(p.map (Value.int .i64)).take k ++ [.int .i64 (p[k]?.getD 0)]:=by
  rw[List.take_add_one]
  simp[List.getElem?_map,List.getElem?_eq_getElem hk]
 rw[e1];exact h'
theorem avj.at_ {e:TypeId} {w:World} {base:Nat} {v:Value} {p:List Int} (h:avj e w base v p.length p):∃ A cap,v=.slice A p.length cap/\afw w A p.length cap p:=by
 obtain ⟨hl,h0 | ⟨g,cap,cur,rfl,hg,hh,hc,hm,hs,ht⟩⟩:=h
 ·obtain ⟨rfl,hz⟩:=h0
  refine ⟨none,0,by rw[hz],rfl,by omega,.inl hz⟩
 ·refine ⟨_,cap,rfl,rfl,hc,.inr ⟨g,0,rfl,Blk.lt (t:=e) (cs:=cur) hh,fun j hj=>?_⟩⟩
  rw[Blk.cell (t:=e) (cs:=cur) hh,Nat.zero_add]
  have e2:=congrArg (fun l=>l[j]?) ht
  simp only[Nat.mul_one] at e2
  rw[List.getElem?_take_of_lt (by omega),List.getElem?_take_of_lt (by omega)] at e2
  rw[<- Array.getElem?_toList,e2]
  simp[List.getElem?_eq_getElem hj,List.getD_eq_getElem?_getD]
end Go.Proofs.YtdimmlckpgpgcaaGreat
namespace Go.Proofs.YtdimmlckpgpgcaaGreat
open Go.RowKit
structure aaN (W:World) (g:Nat) (n:Bool) (A:Option Addr) (l c:Nat) (z:Int):Prop where
 c0:W.cell? ⟨g,0,none⟩=some (.bool n)
 c1:W.cell? ⟨g,1,none⟩=some (.slice A l c)
 f0:W.frozen? ⟨g,0,none⟩=false
 f1:W.frozen? ⟨g,1,none⟩=false
 lt:g<W.heap.size
 hz:aaE W n A l c z
abbrev adz (W:World) (g:Nat) (n:Bool) (A:Option Addr) (l c:Nat):World:=(W.setCell ⟨g,0,none⟩ (.bool n)).setCell ⟨g,1,none⟩ (.slice A l c)
section
variable {W W':World} {g g':Nat} {n n':Bool} {A A':Option Addr} {l c l' c':Nat} {z z':Int}
theorem aaN.move (h:aaN W g n A l c z) (hb:Below W.heap.size W W'):aaN W' g n A l c z:=by
 obtain ⟨hc,hf⟩:=acg hb
 exact ⟨(hc _ _ h.lt).trans h.c0,(hc _ _ h.lt).trans h.c1,(hf _ _ h.lt).trans h.f0,(hf _ _ h.lt).trans h.f1,Nat.lt_of_lt_of_le h.lt hb.size,h.hz.below hb⟩
theorem aaN.nil (W:World):aaN (W.alloc (aaq false none 0 0)) W.heap.size false none 0 0 0 :=
 ⟨by go_simp,by go_simp,by go_simp,by go_simp,by simp,⟨aaW.zero _ _ _,by simp⟩⟩
theorem aaN.make (h:aaE W n A l c z):aaN (W.alloc (aaq n A l c)) W.heap.size n A l c z :=
 ⟨by go_simp,by go_simp,by go_simp,by go_simp,by simp,h.below ((Below.refl _ _).alloc (Nat.le_refl _) _)⟩
theorem aaN.put (h:aaN W g n A l c z) (hz:aaE W n' A' l' c' z'):aaN (adz W g n' A' l' c') g n' A' l' c' z':=by
 have k0:=h.c0
 have k1:=h.c1
 have f0:=h.f0
 have f1:=h.f1
 exact ⟨by go_simp,by go_simp,by go_simp,by go_simp,by simpa [World.setCell] using h.lt,hz.ret _ _ k0 k1⟩
theorem aaN.far (h:aaN W g n A l c z) (h':aaN W g' n' A' l' c' z') (hg:g≠g') (u v:Value):aaN ((W.setCell ⟨g',0,none⟩ u).setCell ⟨g',1,none⟩ v) g n A l c z:=by
 have k0:=h.c0
 have k1:=h.c1
 have f0:=h.f0
 have f1:=h.f1
 have j0:=h'.c0
 have j1:=h'.c1
 exact ⟨by go_simp,by go_simp,by go_simp,by go_simp,by simpa [World.setCell] using h.lt,h.hz.ret _ _ j0 j1⟩
end
theorem ab3 (ds:List Int):∀ k,aac ds=k+1->ds.getD k 0≠0:=by
 induction ds with
 | nil=>intro k h;simp[aac] at h
 | cons d ds ih =>
   intro k h
   by_cases h1:aac ds=0
   ·by_cases h2:d=0
    ·rw[abg h1 h2] at h;omega
    ·rw[aa2 h1 h2] at h
     have:k=0:=by omega
     subst this
     simpa using h2
   ·rw[aaA h1] at h
    obtain ⟨j,rfl⟩:∃ j,k=j+1:=⟨k-1,by omega⟩
    rw[List.getD_cons_succ]
    exact ih j (by omega)
theorem abw {p:List Int} (h:aac p≠0):aaj p≠0:=ab3 p _ (by omega)
theorem arf (p:List Int) (n:Nat):∀ k,k<=n->hst (p.take n) k=hst p k:=by
 intro k
 induction k with
 | zero=>intro _;rfl
 | succ k ih =>
   intro hk
   have e:(p.take n).getD k 0=p.getD k 0:=by simp[List.getD_eq_getElem?_getD,show k<n by omega]
   simp only[hst,e,ih (by omega)]
theorem aap {W w1:World} (hb:Below W.heap.size W w1):(∀ a:Addr,(W.cell? a).isSome=true->w1.cell? a=W.cell? a)/\(∀ a:Addr,(W.cell? a).isSome=true->w1.frozen? a=W.frozen? a):=by
 refine ⟨fun a h=>?_,fun a h=>?_⟩<;>obtain ⟨u,hu⟩:=Option.isSome_iff_exists.1 h
 ·exact hb.cell (World.block_lt_of_cell? W a hu)
 ·exact hb.frozen (World.block_lt_of_cell? W a hu)
def cau (p:List Int):Int:=if aac p<2 then 0 else 1-flq (-(hst (aaf p) (aac p-1):Nat)) ((aaj (aaf p)).natAbs:Nat)
end Go.Proofs.YtdimmlckpgpgcaaGreat
namespace Go.Proofs.YtdimmlckpgpgcaaGreat
open Go.RowKit
end Go.Proofs.YtdimmlckpgpgcaaGreat
namespace Go.Proofs.YtdimmlckpgpgcaaGreat
open Go.RowKit
structure ao1 (w:World) (A:Option Addr) (len cap:Nat) (p:List Int):Prop where
 length:p.length=len
 range:∀ c∈p,-32768<=c/\c<=32767
 cells:len=0∨∃ b off,A=some ⟨b,off,none⟩/\b<w.heap.size/\∀ j,j<len->w.cell? ⟨b,off+j,none⟩=some (.int .i16 (p.getD j 0))
theorem ao1.below {w w':World} {A:Option Addr} {len cap:Nat} {p:List Int} (h:ao1 w A len cap p) (hb:Below w.heap.size w w'):ao1 w' A len cap p:=by
 refine ⟨h.length,h.range,?_⟩
 rcases h.cells with h0 | ⟨b,off,hA,hlt,hc⟩
 ·exact .inl h0
 ·exact .inr ⟨b,off,hA,Nat.lt_of_lt_of_le hlt hb.size,fun j hj=>(hb.cell (p:=⟨b,off+j,none⟩) hlt).trans (hc j hj)⟩
theorem ao1.at_ {w:World} {A:Option Addr} {len cap:Nat} {p:List Int} (h:ao1 w A len cap p) (hl:0<len) :
  ∃ b off,A=some ⟨b,off,none⟩/\b<w.heap.size/\∀ j,j<len->w.cell? ⟨b,off+j,none⟩=some (.int .i16 (p.getD j 0)):=by
 rcases h.cells with h0 | h1
 ·omega
 ·exact h1
end Go.Proofs.YtdimmlckpgpgcaaGreat
namespace Go.Proofs.YtdimmlckpgpgcaaGreat
open Go.RowKit
theorem aah (p:List Int):∀ k,aac p<=k->p.getD k 0=0:=by
 induction p with
 | nil=>intro k _;simp
 | cons d ds ih =>
   intro k h
   by_cases h1:aac ds=0
   ·by_cases h2:d=0
    ·cases k with
     | zero=>simpa using h2
     | succ k=>rw[List.getD_cons_succ];exact ih k (by omega)
    ·rw[aa2 h1 h2] at h
     obtain ⟨j,rfl⟩:∃ j,k=j+1:=⟨k-1,by omega⟩
     rw[List.getD_cons_succ];exact ih j (by omega)
   ·rw[aaA h1] at h
    obtain ⟨j,rfl⟩:∃ j,k=j+1:=⟨k-1,by omega⟩
    rw[List.getD_cons_succ];exact ih j (by omega)
theorem akb (p:List Int) {n k:Nat} (h:k<n):(p.take n).getD k 0=p.getD k 0:=by simp[List.getD_eq_getElem?_getD,h]
theorem Tiny.i64 {m:Nat} {p:List Int} (h:Tiny m p) (hm:m<=9223372036854775807):∀ c∈p,I64 c:=by
 intro c hc
 obtain ⟨k,hk⟩:=List.getElem?_of_mem hc
 have:=h k
 rw[List.getD_eq_getElem?_getD,hk] at this
 unfold I64
 simp at this
 omega
theorem Tiny.smp {m:Nat} {p:List Int} (h:Tiny m p) (hm:m<=9223372036854775807):SmP p:=fun c hc=>SmI.avi (h.i64 hm c hc)
theorem Tiny.trim {m:Nat} {p:List Int} (h:Tiny m p):Tiny m (aaf p):=by
 intro k
 rcases Nat.lt_or_ge k (aac p) with h1 | h1
 ·rw[aaf,akb p h1];exact h k
 ·have:=aae p
  rw[List.getD_eq_getElem?_getD,List.getElem?_eq_none (by omega)];simp
end Go.Proofs.YtdimmlckpgpgcaaGreat
