/- The walks of isolate.Complete and of the statements' Complete. -/
import Derived.Test.YtppggpfcdgilmaaGreatIvp
namespace Go.Proofs.YtppggpfcdgilmaaGreat
open Go Go.RowKit
/-- a truth value that says P -/
def BoolE (P:Prop) (e:Ending):Prop:=∃ v:Bool,e=.returned (.bool v)∧(v=true↔P)
theorem BoolE.yes {P:Prop} (h:P):BoolE P (.returned (.bool true)):=⟨true,rfl,⟨fun _=>h,fun _=>rfl⟩⟩
theorem BoolE.no {P:Prop} (h:¬ P):BoolE P (.returned (.bool false)):=⟨false,rfl,⟨fun h=>(by cases h),fun h2=>absurd h2 h⟩⟩
theorem Vals.get {w:World} {g o:Nat} {rs:List (Fq×Fq)} (h:Vals w g o rs) {k:Nat} (hk:k<rs.length) :
  ∃ n A l c B m d n' A' l' c' B' m' d',w.cell? ⟨g,o+k*6,none⟩=some (.bool n)∧w.cell? ⟨g,o+k*6+1,none⟩=some (.slice A l c)∧w.cell? ⟨g,o+k*6+2,none⟩=some (.slice B m d)∧w.cell? ⟨g,o+k*6+3,none⟩=some (.bool n')∧w.cell? ⟨g,o+k*6+4,none⟩=some (.slice A' l' c')∧w.cell? ⟨g,o+k*6+5,none⟩=some (.slice B' m' d') ∧
    IntN w n A l c (rs.getD k r00).1.z∧NatN w B m d (rs.getD k r00).1.q∧IntN w n' A' l' c' (rs.getD k r00).2.z∧NatN w B' m' d' (rs.getD k r00).2.q:=by
 have e:rs[k]?=some (rs.getD k r00):=by rw [List.getD_eq_getElem?_getD,List.getElem?_eq_getElem hk];rfl
 obtain ⟨vs,⟨n,A,l,c,B,m,d,n',A',l',c',B',m',d',hv,h1,h2,h3,h4⟩,hc⟩:=h k _ e
 subst hv
 exact ⟨n,A,l,c,B,m,d,n',A',l',c',B',m',d',hc 0 _ rfl,hc 1 _ rfl,hc 2 _ rfl,hc 3 _ rfl,hc 4 _ rfl,hc 5 _ rfl,h1,h2,h3,h4⟩
theorem getD_fqb {rs:List (Fq×Fq)} (h:∀ r∈rs,FqB r.1∧FqB r.2) {k:Nat} (hk:k<rs.length):FqB (rs.getD k r00).1∧FqB (rs.getD k r00).2:=by
 rw [List.getD_eq_getElem?_getD,List.getElem?_eq_getElem hk]
 exact h _ (List.getElem_mem hk)
set_option maxRecDepth 100000 in
set_option maxHeartbeats 8000000 in
theorem complete_any {I:IntPred} (hI:IK I) (Af:Option Addr) (lf cf:Nat) (f:List Int) (A:Option Addr) (la ca:Nat) (rs:List (Fq×Fq)) (w:World) (hf:PolyP I w Af lf cf f) (hl:f.length≤10) (h9:P9 f) (hr:RtsAt w A la ca rs) (hfq:∀ r∈rs,FqB r.1∧FqB r.2) (hla:la≤1000) :
  Calls Tryz.prog 25 #[.slice Af lf cf,.slice A la ca] w fun e w'=>BoolE (Cmpl f rs) e∧Below w.heap.size w w':=by
 have hlf:lf≤10:=by have:=hf.length;omega
 have hrl:=hr.length
 have HF:=Lib.hid hf
 have HRs:=Lib.hid hr
 have Hfq:=Lib.hid hfq
 clear hf hr hfq
 go_enter Tryz.func25,Tryz.ntmps25
 go_wp2_with fail
 refine (all_q hI _ _ _ f _ HF.out h9 (by omega)).mono ?_
 rintro e w1 ⟨rfl,hb1⟩
 obtain ⟨NA,hNA⟩:∃ N,N=nall f:=⟨_,rfl⟩
 rw [← hNA]
 have HNA:=Lib.hid hNA
 replace HF:=Lib.hid (HF.out.below hI hb1)
 replace HRs:=Lib.hid (HRs.out.below hb1)
 have Hb:=Lib.hid hb1
 clear hb1 hNA
 by_cases hn:(la:Int)=NA
 ·have b1:((la:Int) != NA)=false:=by rw [hn];simp
  have Hn:=Lib.hid hn
  have Hrl:=Lib.hid hrl
  clear hn hrl
  go_wp2_with fail
  obtain ⟨wo,hwo⟩:∃ wo,wo=w1:=⟨_,rfl⟩
  rw [← hwo] at HF HRs Hb ⊢
  clear hwo
  go_loopw [16] (fun s16 wr=>∃ k:Nat,k≤la∧s16=.int .i64 (k:Int)∧(∀ i,i<k→stOK f rs i)∧Below wo.heap.size wo wr) (fun s16 _=>la-(intOf s16).toNat)
  case atStart=>exact ⟨0,Nat.zero_le _,rfl,fun i hi=>absurd hi (Nat.not_lt_zero _),Bel.go⟩
  case round =>
   obtain ⟨k,hk,rfl,hst,hbw⟩:=hrel
   have Hst:=Lib.hid hst
   have HFr:=Lib.hid (HF.out.below hI hbw)
   have HRr:=Lib.hid (HRs.out.below hbw)
   have Hbw:=Lib.hid hbw
   clear hst
   by_cases hlt:k<la
   ·have Hkl:=Lib.hid hlt
    obtain ⟨b,o,rfl,hb0,hv⟩:∃ b o,A=some ⟨b,o,none⟩∧b<wr.heap.size∧Vals wr b o rs:=by
     rcases HRr.out.elems with ⟨h0,_⟩ | h
     ·omega
     ·exact h
    obtain ⟨n,A1,l1,c1,B1,m1,d1,n',A2,l2,c2,B2,m2,d2,e0,e1,e2,e3,e4,e5,z1,z2,z3,z4⟩:=hv.get (k:=k) (by rw [Hrl.out];exact hlt)
    obtain ⟨fa,fb⟩:=getD_fqb Hfq.out (k:=k) (by rw [Hrl.out];exact hlt)
    obtain ⟨r,hr⟩:∃ r,r=rs.getD k r00:=⟨_,rfl⟩
    rw [← hr] at z1 z2 z3 z4 fa fb
    have Hr:=Lib.hid hr
    have ka:(k:Int)<(la:Int):=by omega
    have p1:=fa.p
    have p2:=fb.p
    have T:=Lib.hid (TBox.make z1 z2 z3 z4)
    have jb:=below_new wr (tbox n A1 l1 c1 B1 m1 d1 n' A2 l2 c2 B2 m2 d2)
    replace HFr:=Lib.hid (HFr.out.below hI jb)
    have Hbx:=Lib.hid (Hbw.out.trans (jb.mono Hbw.out.size))
    have Hjb:=Lib.hid jb
    have x0:=T.out.r.c0
    have x1:=T.out.r.c1
    have x2:=T.out.r.c2
    have x3:=T.out.c3
    have x4:=T.out.c4
    have x5:=T.out.c5
    clear z1 z2 z3 z4 hv hr hk hlt
    go_wp2_with fail
    obtain ⟨V,hV⟩:∃ V,V=vld 2 f r.1 r.2:=⟨_,rfl⟩
    refine (valid_any hI _ _ _ f r.1 r.2 _ _ _ _ _ _ _ _ _ _ _ _ _ _ _ HFr.out hl h9 T.out.r.hz T.out.r.hq T.out.hz T.out.hq fa fb).mono ?_
    rintro e w3 ⟨he,hb3⟩
    have he2:e=.returned (.bool V):=by rw [hV];exact he
    subst he2
    have HV:=Lib.hid hV
    replace HFr:=Lib.hid (HFr.out.below hI hb3)
    replace HRr:=Lib.hid (HRr.out.below (jb.trans (hb3.mono jb.size)))
    replace T:=Lib.hid (T.out.move hb3)
    replace Hbx:=Lib.hid (Hbx.out.trans (hb3.mono Hbx.out.size))
    clear hb3 he hV x0 x1 x2 x3 x4 x5 jb e0 e1 e2 e3 e4 e5
    cases V with
    | false =>
      have FIN:=Lib.hid (show ¬ Cmpl f rs from fun h=>by
       have h1:=(h.2 k (by rw [Hrl.out];exact Hkl.out)).1
       rw [← Hr.out,← HV.out] at h1
       cases h1)
      go_wp2_with fail
      go_ret
      exact ⟨.no FIN.out,Hb.out.trans (Hbx.out.mono Hb.out.size)⟩
    | true =>
      by_cases hk0:k=0
      ·subst hk0
       have b2:((0:Int) == 0)=true:=rfl
       have ST:=Lib.hid (show stOK f rs 0 from ⟨by rw [← Hr.out];exact HV.out.symm,fun h=>absurd h (Nat.lt_irrefl _)⟩)
       go_wp2_with fail
       go_roundw
       case rel=>exact ⟨1,Hkl.out,rfl,fun i hi=>(by obtain rfl:i=0:=(by omega);exact ST.out),Hbx.out⟩
       case measure=>have:=Hkl.out;simp [intOf];omega
      ·obtain ⟨j,hj⟩:∃ j,k=j+1:=⟨k-1,by omega⟩
       have b2:((k:Int) == 0)=false:=by rw [beq_eq_false_iff_ne];omega
       have e1:(k:Int)-1=(j:Int):=by omega
       have i1:IntKind.i64.wrap (j:Int)=(j:Int):=IntWalk.i64_in _ (by have:=Hkl.out;omega)
       have w1:IntKind.i64.wrap ((k:Int)+1)=(k:Int)+1:=IntWalk.i64_in _ (by have:=Hkl.out;omega)
       have ja:(j:Int)<(la:Int):=by omega
       obtain ⟨hbl,hv3⟩:b<w3.heap.size∧Vals w3 b o rs:=by
        rcases HRr.out.elems with ⟨_,h0,_⟩ | ⟨b',o',h1,h2,h3⟩
        ·cases h0
        ·cases h1;exact ⟨h2,h3⟩
       have hjl:j<rs.length:=by rw [Hrl.out];have:=Hkl.out;omega
       obtain ⟨n3,A3,l3,c3,B3,m3,d3,n4,A4,l4,c4,B4,m4,d4,e0,e1',e2,e3,e4,e5,z1,z2,z3,z4⟩:=hv3.get hjl
       obtain ⟨fp1,fp2⟩:=getD_fqb Hfq.out hjl
       obtain ⟨p,hp⟩:∃ p,p=rs.getD j r00:=⟨_,rfl⟩
       rw [← hp] at z1 z2 z3 z4 fp1 fp2
       have ST:=Lib.hid (show prOK p r→stOK f rs k from fun h=>⟨by rw [← Hr.out];exact HV.out.symm,fun _=>by rw [show k-1=j by omega,← hp,← Hr.out];exact h⟩)
       have NO:=Lib.hid (show ¬ prOK p r→¬ Cmpl f rs from fun h h2=>h (by
        have h3:=(h2.2 k (by rw [Hrl.out];exact Hkl.out)).2 (by omega)
        rw [show k-1=j by omega,← hp,← Hr.out] at h3
        exact h3))
       have q1:=fp1.p
       have q2:=fp2.p
       have S:=Lib.hid (TBox.make z1 z2 z3 z4)
       have jb:=below_new w3 (tbox n3 A3 l3 c3 B3 m3 d3 n4 A4 l4 c4 B4 m4 d4)
       replace T:=Lib.hid (T.out.move jb)
       replace HFr:=Lib.hid (HFr.out.below hI jb)
       replace HRr:=Lib.hid (HRr.out.below jb)
       replace Hbx:=Lib.hid (Hbx.out.trans (jb.mono Hbx.out.size))
       have x0:=T.out.r.c0;have x1:=T.out.r.c1;have x2:=T.out.r.c2;have y3:=S.out.c3;have y4:=S.out.c4;have y5:=S.out.c5
       clear z1 z2 z3 z4 hv3 hp jb hj hk0 hbl hjl
       go_wp2_with fail
       refine (rcmp_any _ _ _ _ _ _ _ _ _ _ _ _ _ _ _ _ _ _ _ S.out.hz.at_ S.out.hq.at_ T.out.r.hz.at_ T.out.r.hq.at_ (by omega) (by omega) fp2.fz fp2.fq fa.fz fa.fq).mono ?_
       rintro e w5 ⟨rfl,hb5⟩
       obtain ⟨C1,hC1⟩:∃ C,C=cmpz (p.2.z*(r.1.q:Int)) (r.1.z*(p.2.q:Int)):=⟨_,rfl⟩
       rw [← hC1]
       have HC1:=Lib.hid (show C1=fcmp p.2 r.1 from hC1)
       replace T:=Lib.hid (T.out.move hb5)
       replace S:=Lib.hid (S.out.move hb5)
       replace HFr:=Lib.hid (HFr.out.below hI hb5)
       replace HRr:=Lib.hid (HRr.out.below hb5)
       replace Hbx:=Lib.hid (Hbx.out.trans (hb5.mono Hbx.out.size))
       clear hC1 hb5 x0 x1 x2 y3 y4 y5 e0 e1' e2 e3 e4 e5
       by_cases g1:0<C1
       ·have b3:decide (0<C1)=true:=decide_eq_true g1
        have FIN:=Lib.hid (NO.out fun h=>h.1 (by rw [← HC1.out];exact g1))
        clear g1
        go_wp2_with fail
        go_ret
        exact ⟨.no FIN.out,Hb.out.trans (Hbx.out.mono Hb.out.size)⟩
       have b3:decide (0<C1)=false:=decide_eq_false g1
       have G1:=Lib.hid g1
       clear g1
       by_cases g2:C1=0
       ·have b4:(C1 == 0)=true:=by rw [g2];rfl
        have G2:=Lib.hid g2
        clear g2
        have x0:=S.out.r.c0;have x1:=S.out.r.c1;have x2:=S.out.r.c2;have x3:=S.out.c3;have x4:=S.out.c4;have x5:=S.out.c5
        go_wp2_with fail
        refine (rcmp_any _ _ _ _ _ _ _ _ _ _ _ _ _ _ _ _ _ _ _ S.out.r.hz.at_ S.out.r.hq.at_ S.out.hz.at_ S.out.hq.at_ (by omega) (by omega) fp1.fz fp1.fq fp2.fz fp2.fq).mono ?_
        rintro e w6 ⟨rfl,hb5⟩
        obtain ⟨C2,hC2⟩:∃ C,C=cmpz (p.1.z*(p.2.q:Int)) (p.2.z*(p.1.q:Int)):=⟨_,rfl⟩
        rw [← hC2]
        have HC2:=Lib.hid (show C2=fcmp p.1 p.2 from hC2)
        replace T:=Lib.hid (T.out.move hb5)
        replace HFr:=Lib.hid (HFr.out.below hI hb5)
        replace HRr:=Lib.hid (HRr.out.below hb5)
        replace Hbx:=Lib.hid (Hbx.out.trans (hb5.mono Hbx.out.size))
        clear hC2 hb5 x0 x1 x2 x3 x4 x5 S
        by_cases g3:C2=0
        ·have b5:(C2 == 0)=true:=by rw [g3];rfl
         have G3:=Lib.hid g3
         clear g3
         have x0:=T.out.r.c0;have x1:=T.out.r.c1;have x2:=T.out.r.c2;have x3:=T.out.c3;have x4:=T.out.c4;have x5:=T.out.c5
         go_wp2_with fail
         refine (rcmp_any _ _ _ _ _ _ _ _ _ _ _ _ _ _ _ _ _ _ _ T.out.r.hz.at_ T.out.r.hq.at_ T.out.hz.at_ T.out.hq.at_ (by omega) (by omega) fa.fz fa.fq fb.fz fb.fq).mono ?_
         rintro e w7 ⟨rfl,hb5⟩
         obtain ⟨C3,hC3⟩:∃ C,C=cmpz (r.1.z*(r.2.q:Int)) (r.2.z*(r.1.q:Int)):=⟨_,rfl⟩
         rw [← hC3]
         have HC3:=Lib.hid (show C3=fcmp r.1 r.2 from hC3)
         replace Hbx:=Lib.hid (Hbx.out.trans (hb5.mono Hbx.out.size))
         clear hC3 hb5 x0 x1 x2 x3 x4 x5 T HFr HRr
         by_cases g4:C3=0
         ·have b6:(C3 == 0)=true:=by rw [g4];rfl
          have FIN:=Lib.hid (NO.out fun h=>h.2 ⟨by rw [← HC1.out];exact G2.out,by rw [← HC2.out];exact G3.out,by rw [← HC3.out];exact g4⟩)
          clear g4
          go_wp2_with fail
          go_ret
          exact ⟨.no FIN.out,Hb.out.trans (Hbx.out.mono Hb.out.size)⟩
         ·have b6:(C3 == 0)=false:=by rw [beq_eq_false_iff_ne];exact g4
          have FIN:=Lib.hid (ST.out ⟨by rw [← HC1.out];have:=G1.out;omega,fun h=>g4 (by rw [HC3.out];exact h.2.2)⟩)
          clear g4
          go_wp2_with fail
          go_roundw;(case rel=>exact ⟨k+1,Hkl.out,by go_num,fun i hi=>(by by_cases hi2:i<k;exact Hst.out i hi2;obtain rfl:i=k:=(by omega);exact FIN.out),Hbx.out⟩);(case measure=>have:=Hkl.out;simp [intOf];omega)
        ·have b5:(C2 == 0)=false:=by rw [beq_eq_false_iff_ne];exact g3
         have FIN:=Lib.hid (ST.out ⟨by rw [← HC1.out];have:=G1.out;omega,fun h=>g3 (by rw [HC2.out];exact h.2.1)⟩)
         clear g3
         go_wp2_with fail
         go_roundw;(case rel=>exact ⟨k+1,Hkl.out,by go_num,fun i hi=>(by by_cases hi2:i<k;exact Hst.out i hi2;obtain rfl:i=k:=(by omega);exact FIN.out),Hbx.out⟩);(case measure=>have:=Hkl.out;simp [intOf];omega)
       ·have b4:(C1 == 0)=false:=by rw [beq_eq_false_iff_ne];exact g2
        have FIN:=Lib.hid (ST.out ⟨by rw [← HC1.out];have:=G1.out;omega,fun h=>g2 (by rw [HC1.out];exact h.1)⟩)
        clear g2
        go_wp2_with fail
        go_roundw;(case rel=>exact ⟨k+1,Hkl.out,by go_num,fun i hi=>(by by_cases hi2:i<k;exact Hst.out i hi2;obtain rfl:i=k:=(by omega);exact FIN.out),Hbx.out⟩);(case measure=>have:=Hkl.out;simp [intOf];omega)
   ·have t1:¬ (k:Int)<(la:Int):=by omega
    have hk2:k=la:=by omega
    subst hk2
    have FIN:=Lib.hid (show Cmpl f rs from ⟨by rw [Hrl.out,Hn.out,HNA.out],fun i hi=>Hst.out i (by rw [← Hrl.out];exact hi)⟩)
    clear hlt
    go_wp2_with fail
    go_ret
    exact ⟨.yes FIN.out,Hb.out.trans (Hbw.out.mono Hb.out.size)⟩
 ·have b1:((la:Int) != NA)=true:=by simpa using hn
  have FIN:=Lib.hid (show ¬ Cmpl f rs from fun h=>hn (by rw [← hrl,HNA.out];exact h.1))
  clear hn hrl
  go_wp2_with fail
  go_ret
  exact ⟨.no FIN.out,Hb.out⟩
end Go.Proofs.YtppggpfcdgilmaaGreat
