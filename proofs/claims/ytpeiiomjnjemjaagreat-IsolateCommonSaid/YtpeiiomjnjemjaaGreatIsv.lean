/- What the intervals of isolate.Roots are: sizes, Valid, their number. Plain: no program. -/
import Derived.Test.YtpeiiomjnjemjaaGreatIsy
namespace Go.Proofs.YtpeiiomjnjemjaaGreat
open Go Go.RowKit
structure TBox (w:World) (g:Nat) (n:Bool) (A:Option Addr) (l c:Nat) (B:Option Addr) (m d:Nat) (z:Int) (q:Nat) (n':Bool) (A':Option Addr) (l' c':Nat) (B':Option Addr) (m' d':Nat) (z':Int) (q':Nat):Prop where
 r:RBox w g n A l c B m d z q
 c3:w.cell? ⟨g,3,none⟩=some (.bool n')
 c4:w.cell? ⟨g,4,none⟩=some (.slice A' l' c')
 c5:w.cell? ⟨g,5,none⟩=some (.slice B' m' d')
 hz:IntN w n' A' l' c' z'
 hq:NatN w B' m' d' q'
abbrev tbox (n:Bool) (A:Option Addr) (l c:Nat) (B:Option Addr) (m d:Nat) (n':Bool) (A':Option Addr) (l' c':Nat) (B':Option Addr) (m' d':Nat):Obj:=.cells #[.bool n,.slice A l c,.slice B m d,.bool n',.slice A' l' c',.slice B' m' d'] 42
section
variable {w w':World} {g:Nat} {n:Bool} {A:Option Addr} {l c:Nat} {B:Option Addr} {m d:Nat} {z:Int} {q:Nat} {n':Bool} {A':Option Addr} {l' c':Nat} {B':Option Addr} {m' d':Nat} {z':Int} {q':Nat}
theorem TBox.make (hz:IntN w n A l c z) (hq:NatN w B m d q) (hz':IntN w n' A' l' c' z') (hq':NatN w B' m' d' q'):TBox (w.alloc (tbox n A l c B m d n' A' l' c' B' m' d')) w.heap.size n A l c B m d z q n' A' l' c' B' m' d' z' q':=by
 have hb:Blk (w.alloc (tbox n A l c B m d n' A' l' c' B' m' d')) w.heap.size 42 #[.bool n,.slice A l c,.slice B m d,.bool n',.slice A' l' c',.slice B' m' d']:=Blk.new _ _ _
 have ho:=below_new w (tbox n A l c B m d n' A' l' c' B' m' d')
 exact ⟨⟨hb.cell 0,hb.cell 1,hb.cell 2,hb.frozen 0,hb.frozen 1,hb.frozen 2,by simp,hz.below ho,hq.below ho⟩,hb.cell 3,hb.cell 4,hb.cell 5,hz'.below ho,hq'.below ho⟩
theorem TBox.move (h:TBox w g n A l c B m d z q n' A' l' c' B' m' d' z' q') (hb:Below w.heap.size w w'):TBox w' g n A l c B m d z q n' A' l' c' B' m' d' z' q' :=
 ⟨h.r.move hb,(hb.cell (p:=⟨g,3,none⟩) h.r.lt).trans h.c3,(hb.cell (p:=⟨g,4,none⟩) h.r.lt).trans h.c4,(hb.cell (p:=⟨g,5,none⟩) h.r.lt).trans h.c5,h.hz.below hb,h.hq.below hb⟩
end
noncomputable def fcount (f:List Int) (a b:Fq):Int:=ncount f a.z a.q b.z b.q
noncomputable def vld (k:Nat) (f:List Int) (a b:Fq):Bool :=
 if plen f<k then false
 else if a.z*(b.q:Int)<b.z*(a.q:Int) then (if a.sgn f=0 then false else if b.sgn f=0 then false else fcount f a b == 1)
 else if b.z*(a.q:Int)<a.z*(b.q:Int) then false else a.sgn f == 0
set_option maxRecDepth 100000 in
set_option maxHeartbeats 4000000 in
theorem lawvalid_any {I:IntPred} (hI:IK I) (Af:Option Addr) (lf cf:Nat) (f:List Int) (a b:Fq) (n:Bool) (A:Option Addr) (l c:Nat) (B:Option Addr) (m d:Nat) (n':Bool) (A':Option Addr) (l' c':Nat) (B':Option Addr) (m' d':Nat) (w:World) (hf:PolyP I w Af lf cf f) (hl:f.length<=16) (h9:PQ f)
  (hz:IntN w n A l c a.z) (hq:NatN w B m d a.q) (hz':IntN w n' A' l' c' b.z) (hq':NatN w B' m' d' b.q) (ha:FqB a) (hb:FqB b) :
  Calls Tryz.prog 10 #[.slice Af lf cf,.agg #[.bool n,.slice A l c,.slice B m d,.bool n',.slice A' l' c',.slice B' m' d']] w fun e w'=>e=.returned (.bool (vld 1 f a b))/\Below w.heap.size w w':=by
 have o1:=below_new w (tbox n A l c B m d n' A' l' c' B' m' d')
 have T:=Lh (TBox.make hz hq hz' hq')
 have HF:=Lh (hf.below hI o1)
 have hlf:lf<=16:=by have:=hf.length;omega
 have Hb:=Lh o1
 have pa:=h9.at hl ha.z ha.q
 have pb:=h9.at hl hb.z hb.q
 have sf:=h9.fit.smp
 have pa0:=ha.p
 have pb0:=hb.p
 obtain ⟨S1,hS1⟩:∃ S,S=a.sgn f:=⟨_,rfl⟩
 obtain ⟨S2,hS2⟩:∃ S,S=b.sgn f:=⟨_,rfl⟩
 obtain ⟨NC,hNC⟩:∃ S,S=fcount f a b:=⟨_,rfl⟩
 obtain ⟨V,hV⟩:∃ V,V=vld 1 f a b:=⟨_,rfl⟩
 rw[<- hV]
 unfold vld at hV
 rw[<- hS1,<- hS2,<- hNC] at hV
 have HV:=Lh hV
 have HS1:=Lh hS1
 have HS2:=Lh hS2
 have HNC:=Lh hNC
 clear hz hq hz' hq' hf o1 hS1 hS2 hNC hV
 go_enter Tryz.func10,Tryz.ntmps10
 have x0:=T.out.r.c0;have x1:=T.out.r.c1;have x2:=T.out.r.c2;have x3:=T.out.c3;have x4:=T.out.c4;have x5:=T.out.c5
 go_wp2_with fail
 refine (rcmp_any _ _ _ _ _ _ _ _ _ _ _ _ _ _ _ _ _ _ _ T.out.r.hz.at_ T.out.r.hq.at_ T.out.hz.at_ T.out.hq.at_ (by omega) (by omega) ha.fz ha.fq hb.fz hb.fq).mono ?_
 rintro e w3 ⟨rfl,hb3⟩
 replace HF:=Lh (HF.out.below hI hb3);replace T:=Lh (T.out.move hb3);replace Hb:=Lh (Hb.out.trans ((hb3).mono Hb.out.size))
 clear hb3
 clear x0 x1 x2 x3 x4 x5
 obtain ⟨CM,hCM⟩:∃ C,C=cmpz (a.z*(b.q:Int)) (b.z*(a.q:Int)):=⟨_,rfl⟩
 rw[<- hCM]
 have HCM:=Lh hCM
 clear hCM
 go_wp2_with fail
 refine (degree_any _ _ _ _ _ (HF.out.at_ hI) sf (by omega)).mono ?_
 rintro e w2 ⟨rfl,hb2⟩
 replace HF:=Lh (HF.out.below hI hb2);replace T:=Lh (T.out.move hb2);replace Hb:=Lh (Hb.out.trans ((hb2).mono Hb.out.size))
 obtain ⟨D,hD⟩:∃ D,D=((plen f:Nat):Int)-1:=⟨_,rfl⟩
 rw[<- hD]
 have HD:=Lh hD
 clear hb2 hD
 by_cases hlt:plen f<1
 ·have b1:decide (D<0)=true:=decide_eq_true (by have:=HD.out;omega)
  have hv:V=false:=by rw[HV.out,if_pos hlt]
  have Hv:=Lh hv
  clear hv hlt
  go_wp2_with fail
  go_ret
  exact ⟨by first | (rw[Hv.out];rfl) | rw[Hv.out],Hb.out⟩
 have b1:decide (D<0)=false:=decide_eq_false (by have:=HD.out;omega)
 have hV:=HV.out
 rw[if_neg hlt] at hV
 replace HV:=Lh hV
 clear hlt HD hV
 by_cases hlt:a.z*(b.q:Int)<b.z*(a.q:Int)
 ·obtain rfl:CM=-1:=by rw[HCM.out];unfold cmpz;rw[if_pos hlt]
  have hV:=HV.out
  rw[if_pos hlt] at hV
  replace HV:=Lh hV
  clear hlt hV
  have x0:=T.out.r.c0;have x1:=T.out.r.c1;have x2:=T.out.r.c2;have x3:=T.out.c3;have x4:=T.out.c4;have x5:=T.out.c5
  go_wp2_with fail
  refine (signat_any hI _ _ _ f _ _ _ _ _ _ _ _ _ _ HF.out pa.fit (by omega) T.out.r.hz T.out.r.hq ha.at.u ha.at.v ha.at.pos pa.ok ha.at.fz ha.at.fq).mono ?_;rintro e w4 ⟨he,hb0⟩;have he2:e=.returned (.int .i64 S1):=by rw[HS1.out];exact he
  subst he2
  clear he
  clear x0 x1 x2 x3 x4 x5
  replace HF:=Lh (HF.out.below hI hb0);replace T:=Lh (T.out.move hb0);replace Hb:=Lh (Hb.out.trans ((hb0).mono Hb.out.size))
  clear hb0
  by_cases h1:S1=0
  ·have b2:(S1 != 0)=false:=by rw[h1];rfl
   have hv:V=false:=by rw[HV.out,if_pos h1]
   have Hv:=Lh hv
   clear hv h1
   have x0:=T.out.r.c0;have x1:=T.out.r.c1;have x2:=T.out.r.c2;have x3:=T.out.c3;have x4:=T.out.c4;have x5:=T.out.c5
   go_wp2_with fail
   go_ret
   exact ⟨by first | (rw[Hv.out];rfl) | rw[Hv.out],Hb.out⟩
  have b2:(S1 != 0)=true:=by rw[bne_iff_ne];exact h1
  have hV:=HV.out
  rw[if_neg h1] at hV
  replace HV:=Lh hV
  clear h1 hV
  have x0:=T.out.r.c0;have x1:=T.out.r.c1;have x2:=T.out.r.c2;have x3:=T.out.c3;have x4:=T.out.c4;have x5:=T.out.c5
  go_wp2_with fail
  refine (signat_any hI _ _ _ f _ _ _ _ _ _ _ _ _ _ HF.out pb.fit (by omega) T.out.hz T.out.hq hb.at.u hb.at.v hb.at.pos pb.ok hb.at.fz hb.at.fq).mono ?_;rintro e w5 ⟨he,hb0⟩;have he2:e=.returned (.int .i64 S2):=by rw[HS2.out];exact he
  subst he2
  clear he
  clear x0 x1 x2 x3 x4 x5
  replace HF:=Lh (HF.out.below hI hb0);replace T:=Lh (T.out.move hb0);replace Hb:=Lh (Hb.out.trans ((hb0).mono Hb.out.size))
  clear hb0
  by_cases h2:S2=0
  ·have b3:(S2 != 0)=false:=by rw[h2];rfl
   have hv:V=false:=by rw[HV.out,if_pos h2]
   have Hv:=Lh hv
   clear hv h2
   have x0:=T.out.r.c0;have x1:=T.out.r.c1;have x2:=T.out.r.c2;have x3:=T.out.c3;have x4:=T.out.c4;have x5:=T.out.c5
   go_wp2_with fail
   go_ret
   exact ⟨by first | (rw[Hv.out];rfl) | rw[Hv.out],Hb.out⟩
  have b3:(S2 != 0)=true:=by rw[bne_iff_ne];exact h2
  have hV:=HV.out
  rw[if_neg h2] at hV
  replace HV:=Lh hV
  clear h2 hV
  have x0:=T.out.r.c0;have x1:=T.out.r.c1;have x2:=T.out.r.c2;have x3:=T.out.c3;have x4:=T.out.c4;have x5:=T.out.c5
  go_wp2_with fail
  refine (count_q hI _ _ _ f _ _ _ _ _ _ _ _ _ _ _ _ _ _ _ _ _ _ _ HF.out (by omega) h9 T.out.r.hz T.out.r.hq T.out.hz T.out.hq ha.at hb.at ha.z ha.q hb.z hb.q).mono ?_;rintro e w6 ⟨he,hb0⟩;have he2:e=.returned (.int .i64 NC):=by rw[HNC.out];exact he
  subst he2
  clear he
  clear x0 x1 x2 x3 x4 x5
  replace HF:=Lh (HF.out.below hI hb0);replace T:=Lh (T.out.move hb0);replace Hb:=Lh (Hb.out.trans ((hb0).mono Hb.out.size))
  clear hb0
  go_wp2_with fail
  go_ret
  exact ⟨by first | (rw[HV.out];rfl) | rw[HV.out],Hb.out⟩
 by_cases hgt:b.z*(a.q:Int)<a.z*(b.q:Int)
 ·obtain rfl:CM=1:=by rw[HCM.out];unfold cmpz;rw[if_neg hlt,if_neg (by omega)]
  have hv:V=false:=by rw[HV.out,if_neg hlt,if_pos hgt]
  have Hv:=Lh hv
  clear hlt hgt hv
  go_wp2_with fail
  go_ret
  exact ⟨by first | (rw[Hv.out];rfl) | rw[Hv.out],Hb.out⟩
 ·obtain rfl:CM=0:=by rw[HCM.out];unfold cmpz;rw[if_neg hlt,if_pos (by omega)]
  have hV:=HV.out
  rw[if_neg hlt,if_neg hgt] at hV
  replace HV:=Lh hV
  clear hlt hgt hV
  have x0:=T.out.r.c0;have x1:=T.out.r.c1;have x2:=T.out.r.c2;have x3:=T.out.c3;have x4:=T.out.c4;have x5:=T.out.c5
  go_wp2_with fail
  refine (signat_any hI _ _ _ f _ _ _ _ _ _ _ _ _ _ HF.out pa.fit (by omega) T.out.r.hz T.out.r.hq ha.at.u ha.at.v ha.at.pos pa.ok ha.at.fz ha.at.fq).mono ?_;rintro e w4 ⟨he,hb0⟩;have he2:e=.returned (.int .i64 S1):=by rw[HS1.out];exact he
  subst he2
  clear he
  clear x0 x1 x2 x3 x4 x5
  replace HF:=Lh (HF.out.below hI hb0);replace T:=Lh (T.out.move hb0);replace Hb:=Lh (Hb.out.trans ((hb0).mono Hb.out.size))
  clear hb0
  go_wp2_with fail
  go_ret
  exact ⟨by first | (rw[HV.out];rfl) | rw[HV.out],Hb.out⟩
end Go.Proofs.YtpeiiomjnjemjaaGreat
namespace Go.Proofs.YtpeiiomjnjemjaaGreat
open Go.RowKit
theorem FqB.nf {a:Fq} (h:FqB a):FqB a.nf:=by
 have hn:=(Go.Proofs.YtpeiiomjnjemjaaGreat.nf_v (z:=a.z) h.p).2.1
 refine ⟨hn,?_,?_⟩
 ·show (rz a.z a.q).natAbs<=ZB
  unfold rz
  rw[Int.natAbs_tdiv]
  exact Nat.le_trans (Nat.div_le_self _ _) h.z
 ·show rq a.z a.q<=ZB
  unfold rq
  exact Nat.le_trans (Nat.div_le_self _ _) h.q
section
variable {f:List Int}
theorem proots_isl (h9:PQ f) (h0:plen f≠0) {xs:List Pt} (hx:Lst (fun x=>sgp f x=0) xs):∃ lo hi,Isl (qpart f) xs (proots f) lo hi:=by
 have hq:=q_facts h9.q h0
 have hx2:Lst (fun x=>sgp (qpart f) x=0) xs:=hx.congr fun x=>(hq.root x).symm
 unfold proots
 by_cases h:plen (qpart f)<2
 ·rw[if_pos h]
  have h1:plen (qpart f)=1:=by have:=hq.q0;omega
  have e:xs=[]:=by
   match xs,hx2 with
   | [],_=>rfl
   | x :: xs,hx2 =>
     have this:sgp (qpart f) x=0:=(hx2.2 x).1 (List.mem_cons_self ..)
     rw[sgp_one h1] at this
     exact absurd this (sg_ne (plead_ne (by omega)))
  rw[e]
  exact ⟨0,0,.nil _ _ Rat.le_refl⟩
 ·rw[if_neg h]
  exact ⟨_,_,roots_isl (SqF.of9 h9 h0) hx2⟩
theorem proots_len (h9:PQ f) (h0:plen f≠0):((proots f).length:Int)=nall f:=by
 obtain ⟨xs,hx⟩:=roots_lst h0 (fun _=>True)
 have hx1:Lst (fun x=>sgp f x=0) xs:=hx.congr fun x=>⟨fun h=>h.1,fun h=>⟨h,trivial⟩⟩
 obtain ⟨lo,hi,hi2⟩:=proots_isl h9 h0 hx1
 rw[hi2.length,nall_roots h9 h0 hx1]
theorem p9_w2:P9 w2:=by
 have e:∀ c∈w2,c.natAbs<=2:=by decide
 refine ⟨by decide,fun j=>?_⟩
 have h2:(w2.getD j 0).natAbs<=2:=by
  rw[List.getD_eq_getElem?_getD]
  cases h:w2[j]? with
  | none=>decide
  | some c=>exact e c (List.mem_of_getElem? h)
 refine Nat.le_trans h2 (Nat.le_trans ?_ (bbk_le (show 1<=10 by decide)))
 rw[Nat.pow_one,BB_eq]
 decide
theorem proots_w2:(proots w2).length=2:=by
 have h:=proots_len (f:=w2) p9_w2.pq (by decide)
 have e:nall w2=2:=by decide +kernel
 rw[e] at h
 omega
theorem no_roots (h1:plen f=1) (x:Pt):sgp f x≠0:=by
 rw[sgp_one h1]
 exact sg_ne (plead_ne (by omega))
theorem sgn_pt {a:Fq} (ha:0<a.q) (f:List Int):a.sgn f=sgp f a.p:=sat_eq ha f
theorem vld_one (h9:PQ f) {a b:Fq} (ha:0<a.q) (hb:0<b.q):vld 1 f a b=vld 2 f a b:=by
 unfold vld
 by_cases h0:plen f<1
 ·rw[if_pos h0,if_pos (by omega)]
 rw[if_neg h0]
 by_cases h2:plen f<2
 ·rw[if_pos h2]
  have h1:plen f=1:=by omega
  have ea:a.sgn f≠0:=by rw[sgn_pt ha];exact no_roots h1 _
  have eb:b.sgn f≠0:=by rw[sgn_pt hb];exact no_roots h1 _
  by_cases c:a.z*(b.q:Int)<b.z*(a.q:Int)
  ·rw[if_pos c,if_neg ea,if_neg eb]
   have e:fcount f a b=0:=by
    unfold fcount
    rw[ncount_half h9 (by omega) ha hb c (xs:=[]) ⟨List.Pairwise.nil,fun x=>⟨fun h=>by simp at h,fun h=>absurd h.1 (no_roots h1 x)⟩⟩]
    rfl
   rw[e];rfl
  ·rw[if_neg c]
   split
   ·rfl
   ·rw[beq_eq_false_iff_ne];exact ea
 ·rw[if_neg h2]
end
end Go.Proofs.YtpeiiomjnjemjaaGreat
