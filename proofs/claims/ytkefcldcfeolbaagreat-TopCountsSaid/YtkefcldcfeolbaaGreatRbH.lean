/- The law RootboundVariations: the walk. -/
import Derived.Test.YtkefcldcfeolbaaGreatPolB
import Derived.Test.YtkefcldcfeolbaaGreatDivC
import Derived.IntWalk
namespace Go.Proofs.YtkefcldcfeolbaaGreat
open Go.RowKit
def vst (p:List Int):Nat->Nat×Int
 | 0=>(0,0)
 | k+1=>if sg (p.getD k 0)=0 then vst p k else (if sg (p.getD k 0)=-(vst p k).2 then (vst p k).1+1 else (vst p k).1,sg (p.getD k 0))
theorem afD (p:List Int) (k:Nat):(vst p k).1<=k/\((vst p k).2=-1∨(vst p k).2=0∨(vst p k).2=1):=by
 induction k with
 | zero=>exact ⟨Nat.le_refl _,.inr (.inl rfl)⟩
 | succ k ih =>
   simp only[vst]
   split
   ·exact ⟨by omega,ih.2⟩
   ·refine ⟨by simp only;split<;>omega,?_⟩
    rcases aav (p.getD k 0) with ⟨a1,a2⟩ | ⟨a1,a2⟩ | ⟨a1,a2⟩<;>first | exact .inl a2 | exact .inr (.inl a2) | exact .inr (.inr a2)
theorem aiS {p:List Int} {k:Nat} {c:Nat} {l:Int} (h:vst p k=(c,l)) (h0:sg (p.getD k 0)=0):vst p (k+1)=(c,l):=by simp only[vst,if_pos h0];exact h
theorem aeR {p:List Int} {k:Nat} {c:Nat} {l:Int} (h:vst p k=(c,l)) {s:Int} (hs:sg (p.getD k 0)=s) (h0:s≠0) (h1:s=-l):vst p (k+1)=(c+1,s):=by
 simp only[vst,h,hs,if_neg h0,if_pos h1]
theorem acs {p:List Int} {k:Nat} {c:Nat} {l:Int} (h:vst p k=(c,l)) {s:Int} (hs:sg (p.getD k 0)=s) (h0:s≠0) (h1:s≠-l):vst p (k+1)=(c,s):=by
 simp only[vst,h,hs,if_neg h0,if_neg h1]
set_option maxHeartbeats 2000000 in
theorem aqi (A:Option Addr) (len cap:Nat) (p:List Int) (w:World) (h:acH w A len cap p) (hs:SmP p) (hm:len<=1099511627776) :
  Calls Tryz.prog 95 #[.slice A len cap] w fun e w'=>e=.returned (.int .i64 ((vst p len).1:Nat))/\Below w.heap.size w w':=by
 go_enter Tryz.func95,Tryz.ntmps95
 go_wp2
 go_loopw [3,4,10] (fun c l i wr=>∃ (k cc:Nat) (ll:Int),k<=len/\c=.int .i64 (cc:Int)/\l=.int .i64 ll/\i=.int .i64 (k:Int)/\vst p k=(cc,ll)/\Below w.heap.size w wr) (fun _ _ i _=>len-(intOf i).toNat)
 case atStart=>exact ⟨0,0,0,Nat.zero_le _,rfl,rfl,rfl,rfl,Below.refl _ _⟩
 case round =>
  obtain ⟨k,cc,ll,hk,rfl,rfl,rfl,hst,hbw⟩:=hrel
  have hle:=afD p k
  rw[hst] at hle
  obtain ⟨hcc,hll⟩:=hle
  simp only at hcc hll
  have Hst:=Lh hst
  clear hst
  by_cases hlt:k<len
  ·obtain ⟨b,off,rfl,hb,hc⟩:=h.get (by omega)
   obtain ⟨neg,Aj,lj,cj,c0,c1,hz⟩:=hc k hlt
   have e0:=(hbw.cell (p:=⟨b,off+k*2,none⟩) hb).trans c0
   have e1:=(hbw.cell (p:=⟨b,off+k*2+1,none⟩) hb).trans c1
   have hz2:=(hz.below hbw).below ((Below.refl wr.heap.size wr).alloc (Nat.le_refl _) (aap neg Aj lj cj))
   have hsk:=hs.getD k
   have Hb:=Lh hbw
   clear hc h c0 c1 hz hbw
   go_wp2_with fail
   refine (aa8 _ _ _ _ _ _ hz2 hsk).mono ?_
   rintro e w2 ⟨rfl,rfl⟩
   have Hbn:=Lh (Hb.out.trans ((ab5 (B:=wr.heap.size) wr (aap neg Aj lj cj) (aap neg Aj lj cj) (Nat.le_refl _)).mono Hb.out.size))
   clear hz2 hsk e0 e1
   obtain ⟨s,hsv⟩:∃ s,s=sg (p.getD k 0):=⟨_,rfl⟩
   have Hsv:=Lh hsv.symm
   have hcase:s=-1∨s=0∨s=1:=by
    rcases aav (p.getD k 0) with ⟨a1,a2⟩ | ⟨a1,a2⟩ | ⟨a1,a2⟩<;>omega
   rw[<- hsv]
   clear hsv
   rcases hcase with rfl | rfl | rfl
   ·rcases hll with rfl | rfl | rfl
    ·have Hn:=Lh (acs Hst.out Hsv.out (by omega) (by omega))
     go_wp2
     go_roundw
     case rel=>exact ⟨k+1,_,_,by omega,rfl,rfl,by go_num,Hn.out,Hbn.out⟩
     case measure=>simp[intOf];omega
    ·have Hn:=Lh (acs Hst.out Hsv.out (by omega) (by omega))
     go_wp2
     go_roundw
     case rel=>exact ⟨k+1,_,_,by omega,rfl,rfl,by go_num,Hn.out,Hbn.out⟩
     case measure=>simp[intOf];omega
    ·have Hn:=Lh (aeR Hst.out Hsv.out (by omega) (by omega))
     go_wp2
     go_roundw
     case rel=>exact ⟨k+1,_,_,by omega,by go_num,rfl,by go_num,Hn.out,Hbn.out⟩
     case measure=>simp[intOf];omega
   ·have Hn:=Lh (aiS Hst.out Hsv.out)
    go_wp2
    go_roundw
    case rel=>exact ⟨k+1,_,_,by omega,rfl,rfl,by go_num,Hn.out,Hbn.out⟩
    case measure=>simp[intOf];omega
   ·rcases hll with rfl | rfl | rfl
    ·have Hn:=Lh (aeR Hst.out Hsv.out (by omega) (by omega))
     go_wp2
     go_roundw
     case rel=>exact ⟨k+1,_,_,by omega,by go_num,rfl,by go_num,Hn.out,Hbn.out⟩
     case measure=>simp[intOf];omega
    ·have Hn:=Lh (acs Hst.out Hsv.out (by omega) (by omega))
     go_wp2
     go_roundw
     case rel=>exact ⟨k+1,_,_,by omega,rfl,rfl,by go_num,Hn.out,Hbn.out⟩
     case measure=>simp[intOf];omega
    ·have Hn:=Lh (acs Hst.out Hsv.out (by omega) (by omega))
     go_wp2
     go_roundw
     case rel=>exact ⟨k+1,_,_,by omega,rfl,rfl,by go_num,Hn.out,Hbn.out⟩
     case measure=>simp[intOf];omega
  ·have hk2:len=k:=by omega
   subst hk2
   have Hb:=Lh hbw
   clear h hbw hll
   go_wp2
   go_ret
   exact ⟨by rw[Hst.out];rfl,Hb.out⟩
def Tiny (m:Nat) (p:List Int):Prop:=∀ k,(p.getD k 0).natAbs<=m
end Go.Proofs.YtkefcldcfeolbaaGreat
namespace Go.Proofs.YtkefcldcfeolbaaGreat
open Go.RowKit
def hst (p:List Int):Nat->Nat
 | 0=>0
 | k+1=>if hst p k<(p.getD k 0).natAbs then (p.getD k 0).natAbs else hst p k
theorem ajS {p:List Int} (h:SmP p) (k:Nat):Sm (hst p k):=by
 induction k with
 | zero=>exact SmI.zero
 | succ k ih =>
   simp only[hst]
   split
   ·exact h.getD k
   ·exact ih
structure HtW (w W:World) (n1:Bool) (A1:Option Addr) (l1 c1:Nat) (q:Int):Prop where
 c00:W.cell? ⟨w.heap.size,0,none⟩=some (.bool false)
 c01:W.cell? ⟨w.heap.size,1,none⟩=some (.slice none 0 0)
 c10:W.cell? ⟨w.heap.size+1,0,none⟩=some (.bool n1)
 c11:W.cell? ⟨w.heap.size+1,1,none⟩=some (.slice A1 l1 c1)
 f00:W.frozen? ⟨w.heap.size,0,none⟩=false
 f01:W.frozen? ⟨w.heap.size,1,none⟩=false
 f10:W.frozen? ⟨w.heap.size+1,0,none⟩=false
 f11:W.frozen? ⟨w.heap.size+1,1,none⟩=false
 size:w.heap.size+2<=W.heap.size
 hq:aaA W n1 A1 l1 c1 q
 below:Below w.heap.size w W
section
variable {w W W':World} {n1:Bool} {A1:Option Addr} {l1 c1:Nat} {q:Int}
theorem HtW.move (h:HtW w W n1 A1 l1 c1 q) (hb:Below W.heap.size W W'):HtW w W' n1 A1 l1 c1 q:=by
 obtain ⟨hc,hf⟩:=abH hb
 have hs:=h.size
 exact ⟨(hc _ _ (by omega)).trans h.c00,(hc _ _ (by omega)).trans h.c01,(hc _ _ (by omega)).trans h.c10,(hc _ _ (by omega)).trans h.c11,
  (hf _ _ (by omega)).trans h.f00,(hf _ _ (by omega)).trans h.f01,(hf _ _ (by omega)).trans h.f10,(hf _ _ (by omega)).trans h.f11,Nat.le_trans hs hb.size,h.hq.below hb,h.below.trans (hb.mono h.below.size)⟩
theorem HtW.anS (h:HtW w W n1 A1 l1 c1 q) {n3:Bool} {A3:Option Addr} {l3 c3:Nat} {q':Int} (h3:aaA W n3 A3 l3 c3 q') :
  HtW w ((W.setCell ⟨w.heap.size+1,0,none⟩ (.bool n3)).setCell ⟨w.heap.size+1,1,none⟩ (.slice A3 l3 c3)) n3 A3 l3 c3 q':=by
 have k:=h.c00
 have k1:=h.c01
 have k2:=h.c10
 have k3:=h.c11
 have f0:=h.f00
 have f1:=h.f01
 have f2:=h.f10
 have f3:=h.f11
 exact ⟨by go_simp,by go_simp,by go_simp,by go_simp,by go_simp,by go_simp,by go_simp,by go_simp,by simpa using h.size,h3.ret _ _ k2 k3,((h.below.setCell (p:=⟨w.heap.size+1,0,none⟩) (by simp<;>omega) _).setCell (p:=⟨w.heap.size+1,1,none⟩) (by simp<;>omega) _)⟩
end
theorem HtW.start (w:World):HtW w ((w.alloc (aap false none 0 0)).alloc (aap false none 0 0)) false none 0 0 0:=by
 exact ⟨by go_simp,by go_simp,by go_simp,by go_simp,by go_simp,by go_simp,by go_simp,by go_simp,by simp,⟨aaT.zero _ _ _,by simp⟩,ab5 w _ _ (Nat.le_refl _)⟩
set_option maxHeartbeats 2000000 in
theorem height_any {I:aas} (hI:IK I) (A:Option Addr) (len cap:Nat) (p:List Int) (w:World) (h:aar I w A len cap p) (hs:SmP p) (hm:len<=1099511627776) :
  Calls Tryz.prog 40 #[.slice A len cap] w fun e w'=>∃ n1 A1 l1 c1,e=.returned (.agg #[.bool n1,.slice A1 l1 c1])/\aaA w' n1 A1 l1 c1 (hst p len:Nat)/\Below w.heap.size w w':=by
 have H0:=Lh (HtW.start w)
 go_enter Tryz.func40,Tryz.ntmps40
 go_wp2
 go_loopw [9] (fun i wr=>∃ (k:Nat) (n1:Bool) (A1:Option Addr) (l1 c1:Nat),k<=len/\i=.int .i64 (k:Int)/\HtW w wr n1 A1 l1 c1 (hst p k:Nat)) (fun i _=>len-(intOf i).toNat)
 case atStart=>exact ⟨0,_,_,_,_,Nat.zero_le _,rfl,H0.out⟩
 case round =>
  clear H0
  obtain ⟨k,n1,A1,l1,c1,hk,rfl,hw⟩:=hrel
  have HW:=Lh hw
  have c00:=hw.c00
  have c01:=hw.c01
  have c10:=hw.c10
  have c11:=hw.c11
  have f00:=hw.f00
  have f01:=hw.f01
  have f10:=hw.f10
  have f11:=hw.f11
  have esz:=hw.size
  have k0:w.heap.size<wr.heap.size:=by omega
  have k1:w.heap.size+1<wr.heap.size:=by omega
  by_cases hlt:k<len
  ·obtain ⟨b,off,rfl,hb,hc⟩:=h.get (by omega)
   obtain ⟨neg,Aj,lj,cj,d0,d1,hz⟩:=hc k hlt
   have e0:=(hw.below.cell (p:=⟨b,off+k*2,none⟩) hb).trans d0
   have e1:=(hw.below.cell (p:=⟨b,off+k*2+1,none⟩) hb).trans d1
   have hbx:Below wr.heap.size wr (wr.alloc (aap neg Aj lj cj)):=(Below.refl _ _).alloc (Nat.le_refl _) _
   have hz2:=((hI.at_ hz).below hw.below).below hbx
   have hq2:=(hw.hq.below hbx).nat.at_
   rw[Int.natAbs_natCast] at hq2
   have HX:=Lh (hw.move hbx)
   have hsk:=hs.getD k
   have hsh:=ajS hs k
   clear hc h d0 d1 hz hw hbx
   go_wp2_with fail
   refine (aem _ _ _ _ _ _ _ _ _ hz2.nat hq2 hsk hsh).mono ?_
   rintro e w2 ⟨rfl,nq,rfl⟩
   have hbq:Below (wr.alloc (aap neg Aj lj cj)).heap.size (wr.alloc (aap neg Aj lj cj)) ((wr.alloc (aap neg Aj lj cj)).drewN nq):=⟨rfl,rfl,rfl,Nat.le_refl _,fun _ _=>rfl⟩
   have hz3:=hz2.below hbq
   have HY:=Lh (HX.out.move hbq)
   clear hz2 hq2 hbq
   obtain ⟨v,hv⟩:∃ v,v=ahd (p.getD k 0).natAbs (hst p k):=⟨_,rfl⟩
   rw[<- hv]
   by_cases hgt:hst p k<(p.getD k 0).natAbs
   ·have hcm:0<v:=by rw[hv,akG hgt];omega
    clear hv
    have Hn:=Lh (show hst p (k+1)=(p.getD k 0).natAbs from if_pos hgt)
    clear hgt
    go_wp2_with fail
    refine (agY _ _ _ _ _ _ hz3 hsk).mono ?_
    rintro e w3 ⟨n3,A3,l3,c3,rfl,h3,hb3⟩
    have hg:=HY.out.move hb3
    have HZ:=Lh (hg.anS h3)
    clear c00 c01 c10 c11 f00 f01 f10 f11 e0 e1 hz3 hsk hsh hcm h3 hb3
    have c10:=hg.c10
    have c11:=hg.c11
    have f10:=hg.f10
    have f11:=hg.f11
    clear hg
    go_wp2
    go_roundw
    case rel=>exact ⟨k+1,_,_,_,_,by omega,by go_num,by rw[Hn.out];exact HZ.out⟩
    case measure=>simp[intOf];omega
   ·have hcm:¬ 0<v:=by
     rw[hv]
     unfold ahd
     rcases Nat.lt_or_ge (p.getD k 0).natAbs (hst p k) with h1 | h1
     ·rw[if_pos h1];omega
     ·rw[if_neg (by omega),if_pos (by omega)];omega
    clear hv
    have Hn:=Lh (show hst p (k+1)=hst p k from if_neg hgt)
    clear hgt
    go_wp2
    go_roundw
    case rel=>exact ⟨k+1,_,_,_,_,by omega,by go_num,by rw[Hn.out];exact HY.out⟩
    case measure=>simp[intOf];omega
  ·have hk2:len=k:=by omega
   subst hk2
   have HI2:=Lh (hw.hq.ret (.bool n1) (.slice A1 l1 c1) c00 c01)
   have Hb:=Lh hw.below
   clear h hw HW
   go_wp2
   refine bodyPost_ret (v:=.agg #[.bool n1,.slice A1 l1 c1]) (by simp[results,Tryz.results40,go_sem,c00,c01]) rfl ⟨_,_,_,_,rfl,HI2.out,(Hb.out.setCell (p:=⟨w.heap.size,0,none⟩) (Nat.le_refl _) _).setCell (p:=⟨w.heap.size,1,none⟩) (Nat.le_refl _) _⟩
end Go.Proofs.YtkefcldcfeolbaaGreat
namespace Go.Proofs.YtkefcldcfeolbaaGreat
open Go.RowKit
end Go.Proofs.YtkefcldcfeolbaaGreat
namespace Go.Proofs.YtkefcldcfeolbaaGreat
open Go.RowKit
end Go.Proofs.YtkefcldcfeolbaaGreat
namespace Go.Proofs.YtkefcldcfeolbaaGreat
open Go.RowKit
def auf (e:TypeId) (w:World) (base:Nat) (v:Value) (k:Nat) (p:List Int):Prop:=w.ownsRow base e 1 v k ((p.map (Value.int .i64)).take k)
theorem auf.step {e:TypeId} {wr w1 w:World} {base k:Nat} {u v':Value} {p:List Int} {o:Obj} (hk:k<p.length) (hbase:base<=wr.heap.size) (h:auf e wr base u k p) (hn:Below base w wr)
  (h':w1.ownsRow base e 1 v' (k+1) ((p.map (Value.int .i64)).take k ++ [.int .i64 (p[k]?.getD 0)])) (hg:(wr.alloc o).grownBy w1 u.ownBlock):auf e w1 base v' (k+1) p/\Below base w w1:=by
 refine ⟨?_,(hn.alloc hbase o).grown hg (by simp;omega) (fun j hj=>(World.ownsRow.lt h j hj).1)⟩
 unfold auf
 have e1:(p.map (Value.int .i64)).take (k+1)=(p.map (Value.int .i64)).take k ++ [.int .i64 (p[k]?.getD 0)]:=by
  rw[List.take_add_one]
  simp[List.getElem?_map,List.getElem?_eq_getElem hk]
 rw[e1];exact h'
theorem auf.at_ {e:TypeId} {w:World} {base:Nat} {v:Value} {p:List Int} (h:auf e w base v p.length p):∃ A cap,v=.slice A p.length cap/\afl w A p.length cap p:=by
 obtain ⟨hl,h0 | ⟨g,cap,cur,rfl,hg,hh,hc,hm,hs,ht⟩⟩:=h
 ·obtain ⟨rfl,hz⟩:=h0
  refine ⟨none,0,by rw[hz],rfl,by omega,.inl hz⟩
 ·refine ⟨_,cap,rfl,rfl,hc,.inr ⟨g,0,rfl,Blk.lt (t:=e) (cs:=cur) hh,fun j hj=>?_⟩⟩
  rw[Blk.cell (t:=e) (cs:=cur) hh,Nat.zero_add]
  have e2:=congrArg (fun l=>l[j]?) ht
  simp only[Nat.mul_one] at e2
  rw[List.getElem?_take_of_lt (by omega),List.getElem?_take_of_lt (by omega)] at e2
  rw[<- Array.getElem?_toList,e2]
  simp[List.getElem?_eq_getElem hj,List.getD_eq_getElem?_getD]
end Go.Proofs.YtkefcldcfeolbaaGreat
namespace Go.Proofs.YtkefcldcfeolbaaGreat
open Go.RowKit
structure aaK (W:World) (g:Nat) (n:Bool) (A:Option Addr) (l c:Nat) (z:Int):Prop where
 c0:W.cell? ⟨g,0,none⟩=some (.bool n)
 c1:W.cell? ⟨g,1,none⟩=some (.slice A l c)
 f0:W.frozen? ⟨g,0,none⟩=false
 f1:W.frozen? ⟨g,1,none⟩=false
 lt:g<W.heap.size
 hz:aaA W n A l c z
abbrev adp (W:World) (g:Nat) (n:Bool) (A:Option Addr) (l c:Nat):World:=(W.setCell ⟨g,0,none⟩ (.bool n)).setCell ⟨g,1,none⟩ (.slice A l c)
section
variable {W W':World} {g g':Nat} {n n':Bool} {A A':Option Addr} {l c l' c':Nat} {z z':Int}
theorem aaK.move (h:aaK W g n A l c z) (hb:Below W.heap.size W W'):aaK W' g n A l c z:=by
 obtain ⟨hc,hf⟩:=abH hb
 exact ⟨(hc _ _ h.lt).trans h.c0,(hc _ _ h.lt).trans h.c1,(hf _ _ h.lt).trans h.f0,(hf _ _ h.lt).trans h.f1,Nat.lt_of_lt_of_le h.lt hb.size,h.hz.below hb⟩
theorem aaK.nil (W:World):aaK (W.alloc (aap false none 0 0)) W.heap.size false none 0 0 0 :=
 ⟨by go_simp,by go_simp,by go_simp,by go_simp,by simp,⟨aaT.zero _ _ _,by simp⟩⟩
theorem aaK.make (h:aaA W n A l c z):aaK (W.alloc (aap n A l c)) W.heap.size n A l c z :=
 ⟨by go_simp,by go_simp,by go_simp,by go_simp,by simp,h.below ((Below.refl _ _).alloc (Nat.le_refl _) _)⟩
theorem aaK.put (h:aaK W g n A l c z) (hz:aaA W n' A' l' c' z'):aaK (adp W g n' A' l' c') g n' A' l' c' z':=by
 have k0:=h.c0
 have k1:=h.c1
 have f0:=h.f0
 have f1:=h.f1
 exact ⟨by go_simp,by go_simp,by go_simp,by go_simp,by simpa [World.setCell] using h.lt,hz.ret _ _ k0 k1⟩
theorem aaK.far (h:aaK W g n A l c z) (h':aaK W g' n' A' l' c' z') (hg:g≠g') (u v:Value):aaK ((W.setCell ⟨g',0,none⟩ u).setCell ⟨g',1,none⟩ v) g n A l c z:=by
 have k0:=h.c0
 have k1:=h.c1
 have f0:=h.f0
 have f1:=h.f1
 have j0:=h'.c0
 have j1:=h'.c1
 exact ⟨by go_simp,by go_simp,by go_simp,by go_simp,by simpa [World.setCell] using h.lt,h.hz.ret _ _ j0 j1⟩
end
theorem ab7 (ds:List Int):∀ k,aad ds=k+1->ds.getD k 0≠0:=by
 induction ds with
 | nil=>intro k h;simp[aad] at h
 | cons d ds ih =>
   intro k h
   by_cases h1:aad ds=0
   ·by_cases h2:d=0
    ·rw[abG h1 h2] at h;omega
    ·rw[abe h1 h2] at h
     have:k=0:=by omega
     subst this
     simpa using h2
   ·rw[aaM h1] at h
    obtain ⟨j,rfl⟩:∃ j,k=j+1:=⟨k-1,by omega⟩
    rw[List.getD_cons_succ]
    exact ih j (by omega)
theorem abf {p:List Int} (h:aad p≠0):aai p≠0:=ab7 p _ (by omega)
theorem alN (p:List Int) (n:Nat):∀ k,k<=n->hst (p.take n) k=hst p k:=by
 intro k
 induction k with
 | zero=>intro _;rfl
 | succ k ih =>
   intro hk
   have e:(p.take n).getD k 0=p.getD k 0:=by simp[List.getD_eq_getElem?_getD,show k<n by omega]
   simp only[hst,e,ih (by omega)]
theorem aao {W w1:World} (hb:Below W.heap.size W w1):(∀ a:Addr,(W.cell? a).isSome=true->w1.cell? a=W.cell? a)/\(∀ a:Addr,(W.cell? a).isSome=true->w1.frozen? a=W.frozen? a):=by
 refine ⟨fun a h=>?_,fun a h=>?_⟩<;>obtain ⟨u,hu⟩:=Option.isSome_iff_exists.1 h
 ·exact hb.cell (World.block_lt_of_cell? W a hu)
 ·exact hb.frozen (World.block_lt_of_cell? W a hu)
def cau (p:List Int):Int:=if aad p<2 then 0 else 1-flq (-(hst (aaf p) (aad p-1):Nat)) ((aai (aaf p)).natAbs:Nat)
structure asx (p:List Int):Prop where
 div:amX (hst (aaf p) (aad p-1)) (aai (aaf p)).natAbs
 one:Sm (hst (aaf p) (aad p-1)+1)
 add:Sm (hst (aaf p) (aad p-1)+(aai (aaf p)).natAbs)
 fin:Sm ((flq (-(hst (aaf p) (aad p-1):Nat)) ((aai (aaf p)).natAbs:Nat)).natAbs+1)
set_option maxHeartbeats 2000000 in
theorem amY {I:aas} (hI:IK I) (A:Option Addr) (len cap:Nat) (p:List Int) (w:World) (h:aar I w A len cap p) (hs:SmP p) (hm:len<=1099511627776) (hok:2<=aad p->asx p) :
  Calls Tryz.prog 18 #[.slice A len cap] w fun e w'=>∃ n1 A1 l1 c1,e=.returned (.agg #[.bool n1,.slice A1 l1 c1])/\aaA w' n1 A1 l1 c1 (cau p)/\Below w.heap.size w w':=by
 have hb0:Below w.heap.size w (w.alloc (aap false none 0 0)):=(Below.refl _ _).alloc (Nat.le_refl _) _
 have h0:=h.below hI hb0
 have hpl:aad p<=1099511627776:=by have:=aat p;have:=h.length;omega
 have Hb0:=Lh hb0
 clear h hb0
 go_enter Tryz.func18,Tryz.ntmps18
 go_wp2_with fail
 refine (abd hI _ _ _ _ _ h0 hs hm).mono ?_
 rintro e w1 ⟨g,rfl,hrow,hg,hb1⟩
 obtain ⟨hc,hf⟩:=abH hb1
 have hsz:=hb1.size
 simp only[World.size_alloc] at hsz hg
 have d00:w1.cell? ⟨w.heap.size,0,none⟩=some (.bool false):=by rw[hc _ _ (by simp)];go_simp
 have d01:w1.cell? ⟨w.heap.size,1,none⟩=some (.slice none 0 0):=by rw[hc _ _ (by simp)];go_simp
 have f00:w1.frozen? ⟨w.heap.size,0,none⟩=false:=by rw[hf _ _ (by simp)];go_simp
 have f01:w1.frozen? ⟨w.heap.size,1,none⟩=false:=by rw[hf _ _ (by simp)];go_simp
 have Hb1:=Lh (Hb0.out.trans (hb1.mono Hb0.out.size))
 clear hc hf hb1 h0
 by_cases hlt:aad p<2
 ·have E:=Lh (show cau p=0 from if_pos hlt)
  have HB:=Lh (show aaK w1 w.heap.size false none 0 0 0 from ⟨d00,d01,f00,f01,by omega,⟨aaT.zero _ _ _,by simp⟩⟩)
  clear hrow
  go_wp2
  have HP:=Lh (HB.out.put (n':=false) (A':=none) (l':=0) (c':=0) (z':=0) ⟨aaT.zero _ _ _,by simp⟩)
  refine bodyPost_ret (v:=.agg #[.bool false,.slice none 0 0]) (by simp[results,Tryz.results18,go_sem,d00,d01]) rfl ⟨_,_,_,_,rfl,by rw[E.out];exact HP.out.hz,(Hb1.out.setCell (p:=⟨w.heap.size,0,none⟩) (Nat.le_refl _) _).setCell (p:=⟨w.heap.size,1,none⟩) (Nat.le_refl _) _⟩
 ·have E:=Lh (show cau p=_ from if_neg hlt)
  have hok2:=Lh (hok (by omega))
  have hpt:=Lh (aae p)
  have afC:=hrow.poly (cap:=aad p) (by rw[hpt.out];exact Nat.le_refl _)
  rw[hpt.out] at afC
  have hsp:=hs.aaf
  have hpart:=afC.take (k:=aad p-1) (by omega)
  have HB:=Lh (show aaK w1 w.heap.size false none 0 0 0 from ⟨d00,d01,f00,f01,by omega,⟨aaT.zero _ _ _,by simp⟩⟩)
  have HPo:=Lh afC
  clear hrow afC hok
  go_wp2_with fail
  refine (height_any ikN _ _ _ _ _ hpart (hsp.take _) (by omega)).mono ?_
  rintro e w2 ⟨n2,A2,l2,c2,rfl,h2,hb2⟩
  rw[alN _ _ _ (Nat.le_refl _)] at h2
  have HB2:=Lh (HB.out.move hb2)
  have auE:=Lh (HPo.out.below ikN hb2)
  have Hb2:=Lh (Hb1.out.trans (hb2.mono Hb1.out.size))
  have hsz2:=hb2.size
  have HT3:=Lh (aaK.make h2)
  have hbx:Below w2.heap.size w2 (w2.alloc (aap n2 A2 l2 c2)):=(Below.refl _ _).alloc (Nat.le_refl _) _
  have HB3:=Lh (HB2.out.move hbx)
  have auF:=Lh (auE.out.below ikN hbx)
  have Hb3:=Lh (Hb2.out.trans (hbx.mono Hb2.out.size))
  clear d00 d01 f00 f01 hpart HB HPo hb2 HB2 auE h2 hbx
  go_wp2_with fail
  refine (lead_any _ _ _ _ _ (auF.out.at_ ikN) hsp (by omega)).mono ?_
  rintro e w3 ⟨n3,A3,l3,c3,rfl,h3,hb3⟩
  have hsl:SmI (aai (aaf p)):=hsp.getD _
  have HT4:=Lh (HT3.out.move hb3)
  have HB4:=Lh (HB3.out.move hb3)
  have Hb4:=Lh (Hb3.out.trans (hb3.mono Hb3.out.size))
  have hsz3:=hb3.size
  simp only[World.size_alloc] at hsz3
  have hg3:w2.heap.size<w3.heap.size:=by omega
  clear HT3 HB3 auF hb3
  go_wp2_with fail
  refine (agY _ _ _ _ _ _ h3.at_ hsl).mono ?_
  rintro e w4 ⟨n4,A4,l4,c4,rfl,h4,hb4⟩
  have hbx:Below w4.heap.size w4 (w4.alloc (aap n4 A4 l4 c4)):=(Below.refl _ _).alloc (Nat.le_refl _) _
  have HT5:=Lh ((HT4.out.move hb4).move hbx)
  have HB5:=Lh ((HB4.out.move hb4).move hbx)
  have HL5:=Lh (aaK.make h4)
  have Hb5:=Lh ((Hb4.out.trans (hb4.mono Hb4.out.size)).trans (hbx.mono (Hb4.out.trans (hb4.mono Hb4.out.size)).size))
  have aud:=hb4.size
  clear HT4 HB4 h3 h4 hb4 hbx
  have HT:=HT5
  have HL:=HL5
  have HB:=HB5
  have Hb:=Hb5
  have e30:=HT5.out.c0
  have e31:=HT5.out.c1
  have e40:=HL5.out.c0
  have e41:=HL5.out.c1
  have hht:SmI ((hst (aaf p) (aad p-1):Nat):Int):=by unfold SmI;rw[Int.natAbs_natCast];exact ajS hsp _
  have hhn:SmI (-((hst (aaf p) (aad p-1):Nat):Int)):=by unfold SmI;rw[Int.natAbs_neg,Int.natAbs_natCast];exact ajS hsp _
  have hll:SmI (((aai (aaf p)).natAbs:Nat):Int):=by unfold SmI;rw[Int.natAbs_natCast];exact hsl
  have fok:amX (-((hst (aaf p) (aad p-1):Nat):Int)).natAbs (((aai (aaf p)).natAbs:Nat):Int).natAbs:=by rw[Int.natAbs_neg,Int.natAbs_natCast,Int.natAbs_natCast];exact hok2.out.div
  have f0:(((aai (aaf p)).natAbs:Nat):Int)≠0:=by
   have:=abf (p:=aaf p) (by rw[abK];omega)
   omega
  have f1:Sm ((-((hst (aaf p) (aad p-1):Nat):Int)).natAbs+1):=by rw[Int.natAbs_neg,Int.natAbs_natCast];exact hok2.out.one
  have f2:Sm ((-((hst (aaf p) (aad p-1):Nat):Int)).natAbs+(((aai (aaf p)).natAbs:Nat):Int).natAbs):=by rw[Int.natAbs_neg,Int.natAbs_natCast,Int.natAbs_natCast];exact hok2.out.add
  clear HT5 HL5 HB5 Hb5
  go_wp2_with fail
  have y2:w2.heap.size<w4.heap.size:=by omega
  have v0:w4.heap.size≠w2.heap.size:=by omega
  have v1:w4.heap.size+1≠w2.heap.size:=by omega
  have v2:w4.heap.size+1+1≠w2.heap.size:=by omega
  have v12:w4.heap.size+1+1≠w4.heap.size:=by omega
  go_cut [5] (fun s5 wx=>∃ g5 n6 A6 l6 c6,s5=.pointer (some ⟨g5,0,none⟩)/\w.heap.size<g5/\aaK wx g5 n6 A6 l6 c6 (flq (-(hst (aaf p) (aad p-1):Nat)) ((aai (aaf p)).natAbs:Nat))/\aaK wx w.heap.size false none 0 0 0/\Below w.heap.size w wx)
  case first =>
   go_region_held3 (fun w'=>w'.cell? ⟨w2.heap.size,0,none⟩=some (.bool n2)/\w'.cell? ⟨w2.heap.size,1,none⟩=some (.slice A2 l2 c2)/\w'.cell? ⟨w4.heap.size,0,none⟩=some (.bool n4)/\w'.cell? ⟨w4.heap.size,1,none⟩=some (.slice A4 l4 c4)) (go_keep) (first
    | (go_at_call 44;go_must (refine (adT _ _ _ _ _ _ ?_ hht).mono ?_;(exact HT.out.hz.at_.below Bel.go);rintro e w5 ⟨n5,A5,l5,c5,rfl,h5,hb5⟩;obtain ⟨hc5,hf5⟩:=aao hb5;have HL6:=Lh (HL.out.move (Below.trans Bel.go (hb5.mono (by simp<;>omega))));have HT6:=Lh (HT.out.move (Below.trans Bel.go (hb5.mono (by simp<;>omega))));have HB6:=Lh (HB.out.move (Below.trans Bel.go (hb5.mono (by simp<;>omega))));have zy:=hb5.size;(try simp only[World.size_alloc,World.size_drew] at zy);(try have z1:w4.heap.size+1<w5.heap.size:=(by omega));(try have z2:w4.heap.size+1+1<w5.heap.size:=(by omega));have v3:w5.heap.size≠w2.heap.size:=(by omega);have v4:w5.heap.size≠w4.heap.size:=(by omega);have v5:w5.heap.size+1≠w2.heap.size:=(by omega);have v6:w5.heap.size+1≠w4.heap.size:=(by omega);(try (have Z1:=Lh (show aaK w5 (w4.heap.size+1) false none 0 0 0 from ⟨(by go_simp),(by go_simp),(by go_simp),(by go_simp),(by omega),⟨aaT.zero _ _ _,(by simp)⟩⟩);have Z1a:=Z1.out.c0;have Z1b:=Z1.out.c1;have Z1c:=Z1.out.f0;have Z1d:=Z1.out.f1));(try (have Z2:=Lh (show aaK w5 (w4.heap.size+1+1) false none 0 0 0 from ⟨(by go_simp),(by go_simp),(by go_simp),(by go_simp),(by omega),⟨aaT.zero _ _ _,(by simp)⟩⟩);have Z2a:=Z2.out.c0;have Z2b:=Z2.out.c1;have Z2c:=Z2.out.f0;have Z2d:=Z2.out.f1));clear hc5 hf5;have Hbn:=Lh (Hb.out.trans ((Below.trans Bel.go (hb5.mono (by simp<;>omega))).mono Hb.out.size));have q30:=HT6.out.c0;have q31:=HT6.out.c1;have q40:=HL6.out.c0;have q41:=HL6.out.c1))
    | (go_at_call 43;go_must (refine (aob _ _ _ _ _ _ _ _ _ _ _ ?_ ?_ hhn hll fok f0 f1 f2).mono ?_;(exact h5.at_.below Bel.go);(exact HL6.out.hz.at_.below Bel.go);rintro e w6 ⟨n6,A6,l6,c6,n7,A7,l7,c7,rfl,h6,h7,hb6⟩;obtain ⟨hc6,hf6⟩:=aao hb6;have H6:=Lh h6;have HL7:=Lh (HL6.out.move (Below.trans Bel.go (hb6.mono (by simp<;>omega))));have HT7:=Lh (HT6.out.move (Below.trans Bel.go (hb6.mono (by simp<;>omega))));have HB7:=Lh (HB6.out.move (Below.trans Bel.go (hb6.mono (by simp<;>omega))));have zz:=hb6.size;(try simp only[World.size_alloc] at zz);(try have z3:w4.heap.size+1<w6.heap.size:=(by omega));(try have z4:w4.heap.size+1+1<w6.heap.size:=(by omega));(try have z5:w5.heap.size<w6.heap.size:=(by omega));(try have z6:w5.heap.size+1<w6.heap.size:=(by omega));have v7:w6.heap.size≠w2.heap.size:=(by omega);have v8:w6.heap.size≠w4.heap.size:=(by omega);have v9:w6.heap.size+1≠w2.heap.size:=(by omega);have v10:w6.heap.size+1≠w4.heap.size:=(by omega);(try (have Y1:=Lh (Z1.out.move (Below.trans Bel.go (hb6.mono (by simp<;>omega))));have Y1a:=Y1.out.c0;have Y1b:=Y1.out.c1;have Y1c:=Y1.out.f0;have Y1d:=Y1.out.f1));(try (have Y2:=Lh (Z2.out.move (Below.trans Bel.go (hb6.mono (by simp<;>omega))));have Y2a:=Y2.out.c0;have Y2b:=Y2.out.c1;have Y2c:=Y2.out.f0;have Y2d:=Y2.out.f1));(try (have Y3:=Lh (show aaK w6 (w5.heap.size) false none 0 0 0 from ⟨(by go_simp),(by go_simp),(by go_simp),(by go_simp),(by omega),⟨aaT.zero _ _ _,(by simp)⟩⟩);have Y3a:=Y3.out.c0;have Y3b:=Y3.out.c1;have Y3c:=Y3.out.f0;have Y3d:=Y3.out.f1));(try (have Y4:=Lh (show aaK w6 (w5.heap.size+1) false none 0 0 0 from ⟨(by go_simp),(by go_simp),(by go_simp),(by go_simp),(by omega),⟨aaT.zero _ _ _,(by simp)⟩⟩);have Y4a:=Y4.out.c0;have Y4b:=Y4.out.c1;have Y4c:=Y4.out.f0;have Y4d:=Y4.out.f1));clear hc6 hf6;have HbF:=Lh (Hbn.out.trans ((Below.trans Bel.go (hb6.mono (by simp<;>omega))).mono Hbn.out.size));have p30:=HT7.out.c0;have p31:=HT7.out.c1;have p40:=HL7.out.c0;have p41:=HL7.out.c1)))
   all_goals go_wp2_with fail
   all_goals go_meet
   ·refine ⟨_,n6,A6,l6,c6,rfl,by omega,?_,?_,?_⟩
    ·exact (aaK.make H6.out).move Bel.go
    ·exact HB7.out.move Bel.go
    ·(repeat (first | exact HbF.out | refine Below.alloc ?_ (by first | (simp;done) | (simp;omega) | omega) _ | refine Below.setCell ?_ (by first | (simp;done) | (simp;omega) | omega) _))
   ·refine ⟨_,n6,A6,l6,c6,rfl,by omega,?_,?_,?_⟩
    ·have hx:=aaK.make (W:=w6.alloc (aap n7 A7 l7 c7)) (H6.out.below Bel.go)
     rw[World.size_alloc] at hx
     exact hx
    ·exact HB7.out.move Bel.go
    ·(repeat (first | exact HbF.out | refine Below.alloc ?_ (by first | (simp;done) | (simp;omega) | omega) _ | refine Below.setCell ?_ (by first | (simp;done) | (simp;omega) | omega) _))
   ·refine ⟨_,n6,A6,l6,c6,rfl,by omega,?_,?_,?_⟩
    ·exact (Y3.out.put H6.out).move Bel.go
    ·exact (HB7.out.far Y3.out (by omega) _ _).move Bel.go
    ·(repeat (first | exact HbF.out | refine Below.alloc ?_ (by first | (simp;done) | (simp;omega) | omega) _ | refine Below.setCell ?_ (by first | (simp;done) | (simp;omega) | omega) _))
   ·refine ⟨_,n6,A6,l6,c6,rfl,by omega,?_,?_,?_⟩
    ·exact (Y3.out.put H6.out).far (Y4.out.far Y3.out (by omega) _ _) (by omega) _ _
    ·exact (HB7.out.far Y3.out (by omega) _ _).far (Y4.out.far Y3.out (by omega) _ _) (by omega) _ _
    ·(repeat (first | exact HbF.out | refine Below.alloc ?_ (by first | (simp;done) | (simp;omega) | omega) _ | refine Below.setCell ?_ (by first | (simp;done) | (simp;omega) | omega) _))
   ·refine ⟨_,n6,A6,l6,c6,rfl,by omega,?_,?_,?_⟩
    ·have hx:=aaK.make (H6.out.ret (.bool n7) (.slice A7 l7 c7) Y3.out.c0 Y3.out.c1)
     rw[World.size_setCell,World.size_setCell] at hx
     exact hx
    ·exact (HB7.out.far Y3.out (by omega) _ _).move Bel.go
    ·(repeat (first | exact HbF.out | refine Below.alloc ?_ (by first | (simp;done) | (simp;omega) | omega) _ | refine Below.setCell ?_ (by first | (simp;done) | (simp;omega) | omega) _))
   ·refine ⟨_,n6,A6,l6,c6,rfl,by omega,?_,?_,?_⟩
    ·exact (Y4.out.put H6.out).far (Y3.out.far Y4.out (by omega) _ _) (by omega) _ _
    ·exact (HB7.out.far Y4.out (by omega) _ _).far (Y3.out.far Y4.out (by omega) _ _) (by omega) _ _
    ·(repeat (first | exact HbF.out | refine Below.alloc ?_ (by first | (simp;done) | (simp;omega) | omega) _ | refine Below.setCell ?_ (by first | (simp;done) | (simp;omega) | omega) _))
   ·refine ⟨_,n6,A6,l6,c6,rfl,by omega,?_,?_,?_⟩
    ·exact (Y1.out.put H6.out).move Bel.go
    ·exact (HB7.out.far Y1.out (by omega) _ _).move Bel.go
    ·(repeat (first | exact HbF.out | refine Below.alloc ?_ (by first | (simp;done) | (simp;omega) | omega) _ | refine Below.setCell ?_ (by first | (simp;done) | (simp;omega) | omega) _))
   ·refine ⟨_,n6,A6,l6,c6,rfl,by omega,?_,?_,?_⟩
    ·exact (Y1.out.put H6.out).far (Y3.out.far Y1.out (by omega) _ _) (by omega) _ _
    ·exact (HB7.out.far Y1.out (by omega) _ _).far (Y3.out.far Y1.out (by omega) _ _) (by omega) _ _
    ·(repeat (first | exact HbF.out | refine Below.alloc ?_ (by first | (simp;done) | (simp;omega) | omega) _ | refine Below.setCell ?_ (by first | (simp;done) | (simp;omega) | omega) _))
   ·refine ⟨_,n6,A6,l6,c6,rfl,by omega,?_,?_,?_⟩
    ·exact (Y1.out.put H6.out).far (Y2.out.far Y1.out (by omega) _ _) (by omega) _ _
    ·exact (HB7.out.far Y1.out (by omega) _ _).far (Y2.out.far Y1.out (by omega) _ _) (by omega) _ _
    ·(repeat (first | exact HbF.out | refine Below.alloc ?_ (by first | (simp;done) | (simp;omega) | omega) _ | refine Below.setCell ?_ (by first | (simp;done) | (simp;omega) | omega) _))
   ·refine ⟨_,n6,A6,l6,c6,rfl,by omega,?_,?_,?_⟩
    ·have hx:=aaK.make (H6.out.ret (.bool n7) (.slice A7 l7 c7) Y1.out.c0 Y1.out.c1)
     rw[World.size_setCell,World.size_setCell] at hx
     exact hx
    ·exact (HB7.out.far Y1.out (by omega) _ _).move Bel.go
    ·(repeat (first | exact HbF.out | refine Below.alloc ?_ (by first | (simp;done) | (simp;omega) | omega) _ | refine Below.setCell ?_ (by first | (simp;done) | (simp;omega) | omega) _))
   ·refine ⟨_,n6,A6,l6,c6,rfl,by omega,?_,?_,?_⟩
    ·exact (Y3.out.put H6.out).far (Y1.out.far Y3.out (by omega) _ _) (by omega) _ _
    ·exact (HB7.out.far Y3.out (by omega) _ _).far (Y1.out.far Y3.out (by omega) _ _) (by omega) _ _
    ·(repeat (first | exact HbF.out | refine Below.alloc ?_ (by first | (simp;done) | (simp;omega) | omega) _ | refine Below.setCell ?_ (by first | (simp;done) | (simp;omega) | omega) _))
   ·refine ⟨_,n6,A6,l6,c6,rfl,by omega,?_,?_,?_⟩
    ·exact (Y2.out.put H6.out).far (Y1.out.far Y2.out (by omega) _ _) (by omega) _ _
    ·exact (HB7.out.far Y2.out (by omega) _ _).far (Y1.out.far Y2.out (by omega) _ _) (by omega) _ _
    ·(repeat (first | exact HbF.out | refine Below.alloc ?_ (by first | (simp;done) | (simp;omega) | omega) _ | refine Below.setCell ?_ (by first | (simp;done) | (simp;omega) | omega) _))
  case rest =>
   clear HT HL HB Hb e30 e31 e40 e41 y2 v0 v1 v2 v12 hht hhn hll fok f0 f1 f2
   obtain ⟨g5,n6,A6,l6,c6,rfl,hg5,hbx,hb0,hbw⟩:=hcut
   have hne:w.heap.size≠g5:=by omega
   have HX:=Lh hbx
   have HB:=Lh hb0
   have Hbw:=Lh hbw
   have x0:=hbx.c0
   have x1:=hbx.c1
   have hsf:SmI (flq (-(hst (aaf p) (aad p-1):Nat)) ((aai (aaf p)).natAbs:Nat)):=hok2.out.fin.mono (Nat.le_add_right _ _)
   have auG:Sm ((1:Int).natAbs+(flq (-(hst (aaf p) (aad p-1):Nat)) ((aai (aaf p)).natAbs:Nat)).natAbs):=by
    have:=hok2.out.fin
    rw[Nat.add_comm] at this
    exact this
   have hs1:SmI 1:=SmI.aqe (by unfold I64;omega)
   clear hbx hb0 hbw
   go_wp2_with fail
   go_region_held3 (fun w'=>w'.cell? ⟨g5,0,none⟩=some (.bool n6)/\w'.cell? ⟨g5,1,none⟩=some (.slice A6 l6 c6)) (go_keep) (first
    | (go_at_call 31;go_must (refine (adB 1 _ (by unfold I64;omega)).mono ?_;rintro e w7 ⟨n8,A8,l8,c8,rfl,h8,hb8⟩;have HX8:=Lh (HX.out.move (Below.trans Bel.go (hb8.mono (by simp<;>omega))));have HB8:=Lh (HB.out.move (Below.trans Bel.go (hb8.mono (by simp<;>omega))));have Hb8:=Lh (Hbw.out.trans ((Below.trans Bel.go (hb8.mono (by simp<;>omega))).mono Hbw.out.size));have q0:=HX8.out.c0;have q1:=HX8.out.c1))
    | (go_at_call 45;go_must (refine (aeP _ _ _ _ _ _ _ _ _ _ _ ?_ ?_ hs1 hsf auG).mono ?_;(exact h8.at_.below Bel.go);(exact HX8.out.hz.at_.below Bel.go);rintro e w9 ⟨n9,A9,l9,c9,rfl,h9,hb9⟩;have HX9:=Lh (HX8.out.move (Below.trans Bel.go (hb9.mono (by simp<;>omega))));have HB9:=Lh (HB8.out.move (Below.trans Bel.go (hb9.mono (by simp<;>omega))));have Hb9:=Lh (Hb8.out.trans ((Below.trans Bel.go (hb9.mono (by simp<;>omega))).mono Hb8.out.size));have p0:=HX9.out.c0;have p1:=HX9.out.c1;have b0:=HB9.out.c0;have b1:=HB9.out.c1;have b2:=HB9.out.f0;have b3:=HB9.out.f1)))
   have HP:=Lh (HB9.out.put h9)
   have HbP:=Lh ((Hb9.out.setCell (p:=⟨w.heap.size,0,none⟩) (Nat.le_refl _) (.bool n9)).setCell (p:=⟨w.heap.size,1,none⟩) (Nat.le_refl _) (.slice A9 l9 c9))
   clear HX HB Hbw x0 x1 hsf auG hs1 HX8 HB8 Hb8 q0 q1 h8 hb8 HX9 HB9 Hb9 p0 p1 h9 hb9
   go_wp2
   refine bodyPost_ret (v:=.agg #[.bool n9,.slice A9 l9 c9]) (by simp[results,Tryz.results18,go_sem,b0,b1]) rfl ⟨_,_,_,_,rfl,by rw[E.out];exact HP.out.hz,HbP.out⟩
end Go.Proofs.YtkefcldcfeolbaaGreat
namespace Go.Proofs.YtkefcldcfeolbaaGreat
open Go.RowKit
theorem aiT {n:Nat} (h:n<=9223372036854775807):Sm n:=by
 have:=SmI.aqe (z:=(n:Int)) (by unfold I64;omega)
 unfold SmI at this
 rwa [Int.natAbs_natCast] at this
theorem aqj {n:Nat} (h0:n≠0) (h:n<BB):aa3 n=1:=by
 rw[aiI h0,Nat.div_eq_of_lt h,aa2]
theorem akR {p:List Int} (h1:hst (aaf p) (aad p-1)<=1000000000) (h2:(aai (aaf p)).natAbs<=1000000000) (h0:aai (aaf p)≠0):asx p:=by
 have hf:(flq (-(hst (aaf p) (aad p-1):Nat)) ((aai (aaf p)).natAbs:Nat)).natAbs<=1000000001:=by
  have:=Int.natAbs_tdiv (-((hst (aaf p) (aad p-1):Nat):Int)) ((aai (aaf p)).natAbs:Nat)
  rw[Int.natAbs_neg,Int.natAbs_natCast,Int.natAbs_natCast] at this
  have h3:=Nat.div_le_self (hst (aaf p) (aad p-1)) (aai (aaf p)).natAbs
  have h3:_<=_:=Nat.le_trans (Nat.le_of_eq this) h3
  unfold flq
  generalize (-((hst (aaf p) (aad p-1):Nat):Int)).tdiv ((aai (aaf p)).natAbs:Nat)=d at h3 ⊢
  split<;>omega
 exact ⟨.inr (aqj (by omega) (by rw[aan];omega)),aiT (by omega),aiT (by omega),aiT (by omega)⟩
end Go.Proofs.YtkefcldcfeolbaaGreat
namespace Go.Proofs.YtkefcldcfeolbaaGreat
open Go.RowKit
structure aoc (w:World) (A:Option Addr) (len cap:Nat) (p:List Int):Prop where
 length:p.length=len
 range:∀ c∈p,-32768<=c/\c<=32767
 cells:len=0∨∃ b off,A=some ⟨b,off,none⟩/\b<w.heap.size/\∀ j,j<len->w.cell? ⟨b,off+j,none⟩=some (.int .i16 (p.getD j 0))
theorem aoc.below {w w':World} {A:Option Addr} {len cap:Nat} {p:List Int} (h:aoc w A len cap p) (hb:Below w.heap.size w w'):aoc w' A len cap p:=by
 refine ⟨h.length,h.range,?_⟩
 rcases h.cells with h0 | ⟨b,off,hA,hlt,hc⟩
 ·exact .inl h0
 ·exact .inr ⟨b,off,hA,Nat.lt_of_lt_of_le hlt hb.size,fun j hj=>(hb.cell (p:=⟨b,off+j,none⟩) hlt).trans (hc j hj)⟩
theorem aoc.at_ {w:World} {A:Option Addr} {len cap:Nat} {p:List Int} (h:aoc w A len cap p) (hl:0<len) :
  ∃ b off,A=some ⟨b,off,none⟩/\b<w.heap.size/\∀ j,j<len->w.cell? ⟨b,off+j,none⟩=some (.int .i16 (p.getD j 0)):=by
 rcases h.cells with h0 | h1
 ·omega
 ·exact h1
end Go.Proofs.YtkefcldcfeolbaaGreat
namespace Go.Proofs.YtkefcldcfeolbaaGreat
open Go.RowKit
theorem aaj (p:List Int):∀ k,aad p<=k->p.getD k 0=0:=by
 induction p with
 | nil=>intro k _;simp
 | cons d ds ih =>
   intro k h
   by_cases h1:aad ds=0
   ·by_cases h2:d=0
    ·cases k with
     | zero=>simpa using h2
     | succ k=>rw[List.getD_cons_succ];exact ih k (by omega)
    ·rw[abe h1 h2] at h
     obtain ⟨j,rfl⟩:∃ j,k=j+1:=⟨k-1,by omega⟩
     rw[List.getD_cons_succ];exact ih j (by omega)
   ·rw[aaM h1] at h
    obtain ⟨j,rfl⟩:∃ j,k=j+1:=⟨k-1,by omega⟩
    rw[List.getD_cons_succ];exact ih j (by omega)
theorem ajT (p:List Int) {n k:Nat} (h:k<n):(p.take n).getD k 0=p.getD k 0:=by simp[List.getD_eq_getElem?_getD,h]
theorem Tiny.i64 {m:Nat} {p:List Int} (h:Tiny m p) (hm:m<=9223372036854775807):∀ c∈p,I64 c:=by
 intro c hc
 obtain ⟨k,hk⟩:=List.getElem?_of_mem hc
 have:=h k
 rw[List.getD_eq_getElem?_getD,hk] at this
 unfold I64
 simp at this
 omega
theorem Tiny.smp {m:Nat} {p:List Int} (h:Tiny m p) (hm:m<=9223372036854775807):SmP p:=fun c hc=>SmI.aqe (h.i64 hm c hc)
theorem Tiny.trim {m:Nat} {p:List Int} (h:Tiny m p):Tiny m (aaf p):=by
 intro k
 rcases Nat.lt_or_ge k (aad p) with h1 | h1
 ·rw[aaf,ajT p h1];exact h k
 ·have:=aae p
  rw[List.getD_eq_getElem?_getD,List.getElem?_eq_none (by omega)];simp
end Go.Proofs.YtkefcldcfeolbaaGreat
