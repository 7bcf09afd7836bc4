/- For any slice of int16s and any uint8 the law IsolateRejects returns true and its arguments read as before: isolate.Complete rejects a list with one interval missing, repeated, moved below all roots or exchanged with the next one. No condition. -/
import Derived.Test.YtppggpfcdgilmaaGreatRowP
import Derived.OpenShut
import Derived.Test.YtppggpfcdgilmaaGreatIvp
import Derived.Test.YtppggpfcdgilmaaGreatIsx
import Derived.Test.YtppggpfcdgilmaaGreatIsv
import Derived.Test.YtppggpfcdgilmaaGreatSqw
import Derived.Test.YtppggpfcdgilmaaGreatRed
import Derived.Test.YtppggpfcdgilmaaGreatIdP
import Derived.Test.YtppggpfcdgilmaaGreatLin
namespace Go.Proofs.YtppggpfcdgilmaaGreat
open Go.ChangeShapes Go.WideShapes Go.ChangeAt Go.RowKit
theorem u8_wf {n:Int} (h:(Lit.int .u8 n).wf=true):0≤n∧n≤255:=by
 have h1:IntKind.u8.min=0:=rfl
 have h2:IntKind.u8.max=255:=rfl
 simp only [Lit.wf,Bool.and_eq_true,decide_eq_true_eq] at h
 omega
set_option maxRecDepth 100000 in
theorem lifted_s16u8 (f:Nat) (fn:Func) (hp:fn.params=#[22,5]) (hr:fn.resultTypes=#[4]) {H:Type} (enc:TypeId×Value→H) (spec:ChangeSpec) (hsv:spec.vars=[]) (hsf:∀ d d',spec.fn H [d,d']={ results:=[.lit (.bool true)],args:=[d,d'] })
 (walk:∀ A len cap p n w,I16At w A len cap p→len≤9223372036854775807→(0≤n∧n≤255)→Calls Tryz.prog f #[.slice A len cap,.int .u8 n] w fun e w'=>e=.returned (.bool true)∧Below w.heap.size w w')
 (W:World) (args:Array Value) (ds gs:List (DataW H)) (before:List MemPlace)
 (hval:∀ (j:Nat) t v,fn.params[j]?=some t→args[j]?=some v→Value.okWide Tryz.prog W .any 0 t v)
 (hW:DataW.Whole enc Tryz.prog fn.params.toList spec.vars false W args.toList ds gs before) :
 Calls Tryz.prog f args W fun e W'=>∃ v,e=Ending.returned v∧spec.post enc Tryz.prog fn false true false false W args v W':=by
 have hW':=hW
 obtain ⟨p,q,hA0,hV,rfl,_,_⟩:=hW
 have hA:DataW.TrodAll enc Tryz.prog W 0 (fun _=>true) true fn.params.toList args.toList ds p:=hA0
 rw [hp] at hA hval
 obtain ⟨v0,v1,d0,d1,p0,p1,rfl,rfl,rfl,h0,h1⟩:=trodAll_two hA
 rw [hsv] at hV
 obtain ⟨rfl,rfl⟩:=trodVars_none hV
 obtain ⟨a0,len,cap,rfl⟩:=okWide_slice Tryz.underlying22 (hval 0 22 v0 rfl rfl)
 obtain ⟨n,rfl,rfl,rfl,wn⟩:=open_int Tryz.underlying5 (hval 1 5 v1 rfl rfl) h1
 simp only [List.append_nil] at hW'
 have hlt:∀ x∈p0,x.block<W.heap.size:=fun x hx=>by simpa using hW'.lt x hx
 obtain ⟨hlm,zs,hat⟩:=open_i16 h0 hlt
 refine (walk a0 len cap zs n W hat hlm (u8_wf wn)).mono fun e W' ⟨he,hb⟩=>?_
 subst he
 refine ⟨_,rfl,post_below (pa:=p0) (pv:=[]) hW' (fun _ _ _=>?_) (fun sp hs=>?_) (fun _ _=>?_) (by simp) hb ?_⟩
 ·rw [List.append_nil,hsf,hr]
  exact trodAll_mk1 (shut_bool Tryz.underlying4 _)
 ·rw [List.append_nil,hsf,hp]
  have h3:=trodAll_mk2 (Go.WideElems.Trod_stays Tryz.laidOut (by kernel_rfl) (of_decide_eq_true (by kernel_rfl)) h0 (fun x hx=>hb.same (hlt x hx)) hs) (shut_int (enc:=enc) (w:=W') (base:=0) (spare:=sp) (held:=true) Tryz.underlying5 wn)
  simpa using h3
 ·rw [hsv,List.append_nil,hsf]
  rfl
 ·exact ok_one hr rfl (okWide_bool_mk Tryz.underlying4 _)
end Go.Proofs.YtppggpfcdgilmaaGreat
namespace Go.Proofs.YtppggpfcdgilmaaGreat
open Go Go.RowKit
def BoolE (P:Prop) (e:Ending):Prop:=∃ v:Bool,e=.returned (.bool v)∧(v=true↔P)
theorem BoolE.yes {P:Prop} (h:P):BoolE P (.returned (.bool true)):=⟨true,rfl,⟨fun _=>h,fun _=>rfl⟩⟩
theorem BoolE.no {P:Prop} (h:¬ P):BoolE P (.returned (.bool false)):=⟨false,rfl,⟨fun h=>(by cases h),fun h2=>absurd h2 h⟩⟩
theorem BoolE.get {P:Prop} {e:Ending} (h:BoolE P e) (p:P):e=.returned (.bool true):=by
 obtain ⟨v,rfl,hv⟩:=h
 rw [hv.2 p]
theorem BoolE.not {P:Prop} {e:Ending} (h:BoolE P e) (p:¬ P):e=.returned (.bool false):=by
 obtain ⟨v,rfl,hv⟩:=h
 cases v with
 | false=>rfl
 | true=>exact absurd (hv.1 rfl) p
theorem Vals.get {w:World} {g o:Nat} {rs:List (Fq×Fq)} (h:Vals w g o rs) {k:Nat} (hk:k<rs.length) :
 ∃ n A l c B m d n' A' l' c' B' m' d',w.cell? ⟨g,o+k*6,none⟩=some (.bool n)∧w.cell? ⟨g,o+k*6+1,none⟩=some (.slice A l c)∧w.cell? ⟨g,o+k*6+2,none⟩=some (.slice B m d)∧w.cell? ⟨g,o+k*6+3,none⟩=some (.bool n')∧w.cell? ⟨g,o+k*6+4,none⟩=some (.slice A' l' c')∧w.cell? ⟨g,o+k*6+5,none⟩=some (.slice B' m' d') ∧
   IntN w n A l c (rs.getD k r00).1.z∧NatN w B m d (rs.getD k r00).1.q∧IntN w n' A' l' c' (rs.getD k r00).2.z∧NatN w B' m' d' (rs.getD k r00).2.q:=by
 have e:rs[k]?=some (rs.getD k r00):=by rw [List.getD_eq_getElem?_getD,List.getElem?_eq_getElem hk];rfl
 obtain ⟨vs,⟨n,A,l,c,B,m,d,n',A',l',c',B',m',d',hv,h1,h2,h3,h4⟩,hc⟩:=h k _ e
 subst hv
 exact ⟨n,A,l,c,B,m,d,n',A',l',c',B',m',d',hc 0 _ rfl,hc 1 _ rfl,hc 2 _ rfl,hc 3 _ rfl,hc 4 _ rfl,hc 5 _ rfl,h1,h2,h3,h4⟩
theorem getD_fqb {rs:List (Fq×Fq)} (h:∀ r∈rs,FqB r.1∧FqB r.2) {k:Nat} (hk:k<rs.length):FqB (rs.getD k r00).1∧FqB (rs.getD k r00).2:=by
 rw [List.getD_eq_getElem?_getD,List.getElem?_eq_getElem hk]
 exact h _ (List.getElem_mem hk)
set_option maxRecDepth 100000 in
set_option maxHeartbeats 8000000 in
theorem complete_any {I:IntPred} (hI:IK I) (Af:Option Addr) (lf cf:Nat) (f:List Int) (A:Option Addr) (la ca:Nat) (rs:List (Fq×Fq)) (w:World) (hf:PolyP I w Af lf cf f) (hl:f.length≤10) (h9:P9 f) (hr:RtsAt w A la ca rs) (hfq:∀ r∈rs,FqB r.1∧FqB r.2) (hla:la≤1000) :
 Calls Tryz.prog 25 #[.slice Af lf cf,.slice A la ca] w fun e w'=>BoolE (Cmpl f rs) e∧Below w.heap.size w w':=by
 have hlf:lf≤10:=by have:=hf.length;omega
 have hrl:=hr.length
 have HF:=Lib.hid hf
 have HRs:=Lib.hid hr
 have Hfq:=Lib.hid hfq
 clear hf hr hfq
 go_enter Tryz.func25,Tryz.ntmps25
 go_wp2_with fail
 refine (all_q hI _ _ _ f _ HF.out h9 (by omega)).mono ?_
 rintro e w1 ⟨rfl,hb1⟩
 obtain ⟨NA,hNA⟩:∃ N,N=nall f:=⟨_,rfl⟩
 rw [← hNA]
 have HNA:=Lib.hid hNA
 replace HF:=Lib.hid (HF.out.below hI hb1)
 replace HRs:=Lib.hid (HRs.out.below hb1)
 have Hb:=Lib.hid hb1
 clear hb1 hNA
 by_cases hn:(la:Int)=NA
 ·have b1:((la:Int) != NA)=false:=by rw [hn];simp
  have Hn:=Lib.hid hn
  have Hrl:=Lib.hid hrl
  clear hn hrl
  go_wp2_with fail
  obtain ⟨wo,hwo⟩:∃ wo,wo=w1:=⟨_,rfl⟩
  rw [← hwo] at HF HRs Hb ⊢
  clear hwo
  go_loopw [16] (fun s16 wr=>∃ k:Nat,k≤la∧s16=.int .i64 (k:Int)∧(∀ i,i<k→stOK f rs i)∧Below wo.heap.size wo wr) (fun s16 _=>la-(intOf s16).toNat)
  case atStart=>exact ⟨0,Nat.zero_le _,rfl,fun i hi=>absurd hi (Nat.not_lt_zero _),Bel.go⟩
  case round =>
   obtain ⟨k,hk,rfl,hst,hbw⟩:=hrel
   have Hst:=Lib.hid hst
   have HFr:=Lib.hid (HF.out.below hI hbw)
   have HRr:=Lib.hid (HRs.out.below hbw)
   have Hbw:=Lib.hid hbw
   clear hst
   by_cases hlt:k<la
   ·have Hkl:=Lib.hid hlt
    obtain ⟨b,o,rfl,hb0,hv⟩:∃ b o,A=some ⟨b,o,none⟩∧b<wr.heap.size∧Vals wr b o rs:=by
     rcases HRr.out.elems with ⟨h0,_⟩ | h
     ·omega
     ·exact h
    obtain ⟨n,A1,l1,c1,B1,m1,d1,n',A2,l2,c2,B2,m2,d2,e0,e1,e2,e3,e4,e5,z1,z2,z3,z4⟩:=hv.get (k:=k) (by rw [Hrl.out];exact hlt)
    obtain ⟨fa,fb⟩:=getD_fqb Hfq.out (k:=k) (by rw [Hrl.out];exact hlt)
    obtain ⟨r,hr⟩:∃ r,r=rs.getD k r00:=⟨_,rfl⟩
    rw [← hr] at z1 z2 z3 z4 fa fb
    have Hr:=Lib.hid hr
    have ka:(k:Int)<(la:Int):=by omega
    have p1:=fa.p
    have p2:=fb.p
    have T:=Lib.hid (TBox.make z1 z2 z3 z4)
    have jb:=below_new wr (tbox n A1 l1 c1 B1 m1 d1 n' A2 l2 c2 B2 m2 d2)
    replace HFr:=Lib.hid (HFr.out.below hI jb)
    have Hbx:=Lib.hid (Hbw.out.trans (jb.mono Hbw.out.size))
    have Hjb:=Lib.hid jb
    have x0:=T.out.r.c0
    have x1:=T.out.r.c1
    have x2:=T.out.r.c2
    have x3:=T.out.c3
    have x4:=T.out.c4
    have x5:=T.out.c5
    clear z1 z2 z3 z4 hv hr hk hlt
    go_wp2_with fail
    obtain ⟨V,hV⟩:∃ V,V=vld 2 f r.1 r.2:=⟨_,rfl⟩
    refine (valid_any hI _ _ _ f r.1 r.2 _ _ _ _ _ _ _ _ _ _ _ _ _ _ _ HFr.out hl h9 T.out.r.hz T.out.r.hq T.out.hz T.out.hq fa fb).mono ?_
    rintro e w3 ⟨he,hb3⟩
    have he2:e=.returned (.bool V):=by rw [hV];exact he
    subst he2
    have HV:=Lib.hid hV
    replace HFr:=Lib.hid (HFr.out.below hI hb3)
    replace HRr:=Lib.hid (HRr.out.below (jb.trans (hb3.mono jb.size)))
    replace T:=Lib.hid (T.out.move hb3)
    replace Hbx:=Lib.hid (Hbx.out.trans (hb3.mono Hbx.out.size))
    clear hb3 he hV x0 x1 x2 x3 x4 x5 jb e0 e1 e2 e3 e4 e5
    cases V with
    | false =>
      have FIN:=Lib.hid (show ¬ Cmpl f rs from fun h=>by
       have h1:=(h.2 k (by rw [Hrl.out];exact Hkl.out)).1
       rw [← Hr.out,← HV.out] at h1
       cases h1)
      go_wp2_with fail
      go_ret
      exact ⟨.no FIN.out,Hb.out.trans (Hbx.out.mono Hb.out.size)⟩
    | true =>
      by_cases hk0:k=0
      ·subst hk0
       have b2:((0:Int) == 0)=true:=rfl
       have ST:=Lib.hid (show stOK f rs 0 from ⟨by rw [← Hr.out];exact HV.out.symm,fun h=>absurd h (Nat.lt_irrefl _)⟩)
       go_wp2_with fail
       go_roundw
       case rel=>exact ⟨1,Hkl.out,rfl,fun i hi=>(by obtain rfl:i=0:=(by omega);exact ST.out),Hbx.out⟩
       case measure=>have:=Hkl.out;simp [intOf];omega
      ·obtain ⟨j,hj⟩:∃ j,k=j+1:=⟨k-1,by omega⟩
       have b2:((k:Int) == 0)=false:=by rw [beq_eq_false_iff_ne];omega
       have e1:(k:Int)-1=(j:Int):=by omega
       have i1:IntKind.i64.wrap (j:Int)=(j:Int):=IntWalk.i64_in _ (by have:=Hkl.out;omega)
       have w1:IntKind.i64.wrap ((k:Int)+1)=(k:Int)+1:=IntWalk.i64_in _ (by have:=Hkl.out;omega)
       have ja:(j:Int)<(la:Int):=by omega
       obtain ⟨hbl,hv3⟩:b<w3.heap.size∧Vals w3 b o rs:=by
        rcases HRr.out.elems with ⟨_,h0,_⟩ | ⟨b',o',h1,h2,h3⟩
        ·cases h0
        ·cases h1;exact ⟨h2,h3⟩
       have hjl:j<rs.length:=by rw [Hrl.out];have:=Hkl.out;omega
       obtain ⟨n3,A3,l3,c3,B3,m3,d3,n4,A4,l4,c4,B4,m4,d4,e0,e1',e2,e3,e4,e5,z1,z2,z3,z4⟩:=hv3.get hjl
       obtain ⟨fp1,fp2⟩:=getD_fqb Hfq.out hjl
       obtain ⟨p,hp⟩:∃ p,p=rs.getD j r00:=⟨_,rfl⟩
       rw [← hp] at z1 z2 z3 z4 fp1 fp2
       have ST:=Lib.hid (show prOK p r→stOK f rs k from fun h=>⟨by rw [← Hr.out];exact HV.out.symm,fun _=>by rw [show k-1=j by omega,← hp,← Hr.out];exact h⟩)
       have NO:=Lib.hid (show ¬ prOK p r→¬ Cmpl f rs from fun h h2=>h (by
        have h3:=(h2.2 k (by rw [Hrl.out];exact Hkl.out)).2 (by omega)
        rw [show k-1=j by omega,← hp,← Hr.out] at h3
        exact h3))
       have q1:=fp1.p
       have q2:=fp2.p
       have S:=Lib.hid (TBox.make z1 z2 z3 z4)
       have jb:=below_new w3 (tbox n3 A3 l3 c3 B3 m3 d3 n4 A4 l4 c4 B4 m4 d4)
       replace T:=Lib.hid (T.out.move jb)
       replace HFr:=Lib.hid (HFr.out.below hI jb)
       replace HRr:=Lib.hid (HRr.out.below jb)
       replace Hbx:=Lib.hid (Hbx.out.trans (jb.mono Hbx.out.size))
       have x0:=T.out.r.c0;have x1:=T.out.r.c1;have x2:=T.out.r.c2;have y3:=S.out.c3;have y4:=S.out.c4;have y5:=S.out.c5
       clear z1 z2 z3 z4 hv3 hp jb hj hk0 hbl hjl
       go_wp2_with fail
       refine (rcmp_any _ _ _ _ _ _ _ _ _ _ _ _ _ _ _ _ _ _ _ S.out.hz.at_ S.out.hq.at_ T.out.r.hz.at_ T.out.r.hq.at_ (by omega) (by omega) fp2.fz fp2.fq fa.fz fa.fq).mono ?_
       rintro e w5 ⟨rfl,hb5⟩
       obtain ⟨C1,hC1⟩:∃ C,C=cmpz (p.2.z*(r.1.q:Int)) (r.1.z*(p.2.q:Int)):=⟨_,rfl⟩
       rw [← hC1]
       have HC1:=Lib.hid (show C1=fcmp p.2 r.1 from hC1)
       replace T:=Lib.hid (T.out.move hb5)
       replace S:=Lib.hid (S.out.move hb5)
       replace HFr:=Lib.hid (HFr.out.below hI hb5)
       replace HRr:=Lib.hid (HRr.out.below hb5)
       replace Hbx:=Lib.hid (Hbx.out.trans (hb5.mono Hbx.out.size))
       clear hC1 hb5 x0 x1 x2 y3 y4 y5 e0 e1' e2 e3 e4 e5
       by_cases g1:0<C1
       ·have b3:decide (0<C1)=true:=decide_eq_true g1
        have FIN:=Lib.hid (NO.out fun h=>h.1 (by rw [← HC1.out];exact g1))
        clear g1
        go_wp2_with fail
        go_ret
        exact ⟨.no FIN.out,Hb.out.trans (Hbx.out.mono Hb.out.size)⟩
       have b3:decide (0<C1)=false:=decide_eq_false g1
       have G1:=Lib.hid g1
       clear g1
       by_cases g2:C1=0
       ·have b4:(C1 == 0)=true:=by rw [g2];rfl
        have G2:=Lib.hid g2
        clear g2
        have x0:=S.out.r.c0;have x1:=S.out.r.c1;have x2:=S.out.r.c2;have x3:=S.out.c3;have x4:=S.out.c4;have x5:=S.out.c5
        go_wp2_with fail
        refine (rcmp_any _ _ _ _ _ _ _ _ _ _ _ _ _ _ _ _ _ _ _ S.out.r.hz.at_ S.out.r.hq.at_ S.out.hz.at_ S.out.hq.at_ (by omega) (by omega) fp1.fz fp1.fq fp2.fz fp2.fq).mono ?_
        rintro e w6 ⟨rfl,hb5⟩
        obtain ⟨C2,hC2⟩:∃ C,C=cmpz (p.1.z*(p.2.q:Int)) (p.2.z*(p.1.q:Int)):=⟨_,rfl⟩
        rw [← hC2]
        have HC2:=Lib.hid (show C2=fcmp p.1 p.2 from hC2)
        replace T:=Lib.hid (T.out.move hb5)
        replace HFr:=Lib.hid (HFr.out.below hI hb5)
        replace HRr:=Lib.hid (HRr.out.below hb5)
        replace Hbx:=Lib.hid (Hbx.out.trans (hb5.mono Hbx.out.size))
        clear hC2 hb5 x0 x1 x2 x3 x4 x5 S
        by_cases g3:C2=0
        ·have b5:(C2 == 0)=true:=by rw [g3];rfl
         have G3:=Lib.hid g3
         clear g3
         have x0:=T.out.r.c0;have x1:=T.out.r.c1;have x2:=T.out.r.c2;have x3:=T.out.c3;have x4:=T.out.c4;have x5:=T.out.c5
         go_wp2_with fail
         refine (rcmp_any _ _ _ _ _ _ _ _ _ _ _ _ _ _ _ _ _ _ _ T.out.r.hz.at_ T.out.r.hq.at_ T.out.hz.at_ T.out.hq.at_ (by omega) (by omega) fa.fz fa.fq fb.fz fb.fq).mono ?_
         rintro e w7 ⟨rfl,hb5⟩
         obtain ⟨C3,hC3⟩:∃ C,C=cmpz (r.1.z*(r.2.q:Int)) (r.2.z*(r.1.q:Int)):=⟨_,rfl⟩
         rw [← hC3]
         have HC3:=Lib.hid (show C3=fcmp r.1 r.2 from hC3)
         replace Hbx:=Lib.hid (Hbx.out.trans (hb5.mono Hbx.out.size))
         clear hC3 hb5 x0 x1 x2 x3 x4 x5 T HFr HRr
         by_cases g4:C3=0
         ·have b6:(C3 == 0)=true:=by rw [g4];rfl
          have FIN:=Lib.hid (NO.out fun h=>h.2 ⟨by rw [← HC1.out];exact G2.out,by rw [← HC2.out];exact G3.out,by rw [← HC3.out];exact g4⟩)
          clear g4
          go_wp2_with fail
          go_ret
          exact ⟨.no FIN.out,Hb.out.trans (Hbx.out.mono Hb.out.size)⟩
         ·have b6:(C3 == 0)=false:=by rw [beq_eq_false_iff_ne];exact g4
          have FIN:=Lib.hid (ST.out ⟨by rw [← HC1.out];have:=G1.out;omega,fun h=>g4 (by rw [HC3.out];exact h.2.2)⟩)
          clear g4
          go_wp2_with fail
          go_roundw;(case rel=>exact ⟨k+1,Hkl.out,by go_num,fun i hi=>(by by_cases hi2:i<k;exact Hst.out i hi2;obtain rfl:i=k:=(by omega);exact FIN.out),Hbx.out⟩);(case measure=>have:=Hkl.out;simp [intOf];omega)
        ·have b5:(C2 == 0)=false:=by rw [beq_eq_false_iff_ne];exact g3
         have FIN:=Lib.hid (ST.out ⟨by rw [← HC1.out];have:=G1.out;omega,fun h=>g3 (by rw [HC2.out];exact h.2.1)⟩)
         clear g3
         go_wp2_with fail
         go_roundw;(case rel=>exact ⟨k+1,Hkl.out,by go_num,fun i hi=>(by by_cases hi2:i<k;exact Hst.out i hi2;obtain rfl:i=k:=(by omega);exact FIN.out),Hbx.out⟩);(case measure=>have:=Hkl.out;simp [intOf];omega)
       ·have b4:(C1 == 0)=false:=by rw [beq_eq_false_iff_ne];exact g2
        have FIN:=Lib.hid (ST.out ⟨by rw [← HC1.out];have:=G1.out;omega,fun h=>g2 (by rw [HC1.out];exact h.1)⟩)
        clear g2
        go_wp2_with fail
        go_roundw;(case rel=>exact ⟨k+1,Hkl.out,by go_num,fun i hi=>(by by_cases hi2:i<k;exact Hst.out i hi2;obtain rfl:i=k:=(by omega);exact FIN.out),Hbx.out⟩);(case measure=>have:=Hkl.out;simp [intOf];omega)
   ·have t1:¬ (k:Int)<(la:Int):=by omega
    have hk2:k=la:=by omega
    subst hk2
    have FIN:=Lib.hid (show Cmpl f rs from ⟨by rw [Hrl.out,Hn.out,HNA.out],fun i hi=>Hst.out i (by rw [← Hrl.out];exact hi)⟩)
    clear hlt
    go_wp2_with fail
    go_ret
    exact ⟨.yes FIN.out,Hb.out.trans (Hbw.out.mono Hb.out.size)⟩
 ·have b1:((la:Int) != NA)=true:=by simpa using hn
  have FIN:=Lib.hid (show ¬ Cmpl f rs from fun h=>hn (by rw [← hrl,HNA.out];exact h.1))
  clear hn hrl
  go_wp2_with fail
  go_ret
  exact ⟨.no FIN.out,Hb.out⟩
end Go.Proofs.YtppggpfcdgilmaaGreat
namespace Go.Proofs.YtppggpfcdgilmaaGreat
open Go Go.RowKit
def OwnE (C:Value→Prop) (E t base:Nat) (w:World) (v:Value) (us:List Value):Prop :=
 (us=[]∧v=.slice none 0 0)∨∃ g n cap cs,v=.slice (some ⟨g,0,none⟩) n cap∧base≤g∧us.length=n*E∧n≤cap∧(∀ (j:Nat) (u:Value),us[j]?=some u→w.cell? ⟨g,j,none⟩=some u)∧Blk w g t cs∧cs.size=cap*E∧∀ j,j<cap*E→∃ u,cs[j]?=some u∧C u
theorem OwnE.below {C:Value→Prop} {E t base:Nat} {w w':World} {v:Value} {us:List Value} (h:OwnE C E t base w v us) (hb:Below w.heap.size w w'):OwnE C E t base w' v us:=by
 rcases h with h | ⟨g,n,cap,cs,h1,h2,h3,h4,h5,h6,h7,h8⟩
 ·exact .inl h
 ·exact .inr ⟨g,n,cap,cs,h1,h2,h3,h4,fun j u hu=>(hb.cell (p:=⟨g,j,none⟩) h6.lt).trans (h5 j u hu),h6.below hb h6.lt,h7,h8⟩
theorem OwnE.nil (C:Value→Prop) (E t base:Nat) (w:World):OwnE C E t base w (.slice none 0 0) []:=.inl ⟨rfl,rfl⟩
def GrE (C:Value→Prop) (E t base:Nat) (w:World) (v:Value) (us vs:List Value) (v':Value) (w':World):Prop :=
 OwnE C E t base w' v' (us ++ vs)∧((∃ g n n' cap,v=.slice (some ⟨g,0,none⟩) n cap∧v'=.slice (some ⟨g,0,none⟩) n' cap∧base≤g∧g<w.heap.size∧(∀ o u,w.cell? ⟨g,o,none⟩=some u→C u)∧FrS g g w w')∨(Below w.heap.size w w'∧∃ n' cap,v'=.slice (some ⟨w.heap.size,0,none⟩) n' cap))
theorem GrE.below {C:Value→Prop} {E t base:Nat} {w w':World} {v v':Value} {us vs:List Value} (h:GrE C E t base w v us vs v' w') (hB:base≤w.heap.size):Below base w w':=by
 rcases h.2 with ⟨g,n,n',cap,_,_,h1,_,_,hf⟩ | ⟨hb,_⟩
 ·exact hf.mono (Below.refl _ _) h1 h1 hB
 ·exact hb.mono hB
theorem OwnE.frs {C:Value→Prop} {E t base:Nat} {w w':World} {v:Value} {us:List Value} {g:Nat} (h:OwnE C E t base w v us) (hf:FrS g g w w') (hg:∀ k n c,v=.slice (some ⟨k,0,none⟩) n c→k≠g):OwnE C E t base w' v us:=by
 rcases h with h | ⟨k,n,cap,cs,h1,h2,h3,h4,h5,h6,h7,h8⟩
 ·exact .inl h
 ·have hk:=hg k n cap h1
  exact .inr ⟨k,n,cap,cs,h1,h2,h3,h4,fun j u hu=>(hf.cell h6.lt hk hk j).trans (h5 j u hu),(hf.same k h6.lt hk hk).trans h6,h7,h8⟩
theorem OwnE.len {C:Value→Prop} {E t base:Nat} {w:World} {v:Value} {us:List Value} (h:OwnE C E t base w v us):∃ A n c,v=.slice A n c∧us.length=n*E∧n≤c:=by
 rcases h with ⟨h1,h2⟩ | ⟨g,n,cap,cs,h1,h2,h3,h4,h5⟩
 ·exact ⟨none,0,0,h2,by rw [h1];simp,Nat.le_refl _⟩
 ·exact ⟨_,n,cap,h1,h3,h4⟩
theorem blk_setCellsC {C:Value→Prop} {g t N:Nat}:∀ {cs:Array Value} (_:∀ j,j<N→∃ v,cs[j]?=some v∧C v) (_:cs.size=N) (vs:List Value) (_:∀ v∈vs,C v) (o:Nat) (_:o+vs.length≤N) {W:World} (_:Blk W g t cs),
 ∃ cs',Blk (W.setCells g o vs) g t cs'∧cs'.size=N∧(∀ j,j<N→∃ v,cs'[j]?=some v∧C v)∧(∀ (j:Nat) (v:Value),vs[j]?=some v→cs'[o+j]?=some v)∧∀ j,j<o→cs'[j]?=cs[j]?
 | cs,hc,hs,[],_,_,_,_,hk=>⟨cs,hk,hs,hc,fun j v hv=>by simp at hv,fun _ _=>rfl⟩
 | cs,hc,hs,v :: vs,hv,o,ho,W,hk=>by
   simp only [List.length_cons] at ho
   obtain ⟨cs',h1,h2,h3,h4,h5⟩:=blk_setCellsC (cs:=cs.setIfInBounds o v) (fun j hj=>by
    rcases Nat.decEq j o with hne | heq
    ·rw [Array.getElem?_setIfInBounds_ne (by omega)];exact hc j hj
    ·subst heq
     exact ⟨v,by rw [Array.getElem?_setIfInBounds_self_of_lt (by omega)],hv v (List.mem_cons_self ..)⟩) (by simpa using hs) vs (fun u hu=>hv u (List.mem_cons_of_mem _ hu)) (o+1) (by omega) (hk.set_ o v)
   refine ⟨cs',h1,h2,h3,fun j u hu=>?_,fun j hj=>?_⟩
   ·match j,hu with
    | 0,hu =>
      have e:v=u:=by simpa using hu
      rw [Nat.add_zero,h5 o (by omega),Array.getElem?_setIfInBounds_self_of_lt (by omega),e]
    | j+1,hu =>
      rw [show o+(j+1)=o+1+j by omega]
      exact h4 j u (by simpa using hu)
   ·rw [h5 j (by omega),Array.getElem?_setIfInBounds_ne (by omega)]
set_option maxHeartbeats 1000000 in
theorem oper_append_own {w:World} {o:Oper} {a:Act} {K:Act→World→Prop} {Q:Exit→Act→World→Prop} (s x:Operand) (t e:TypeId)
 (ho:o.op=.call { callee:=.builtin .append,args:=#[s,x],argTypes:=#[t,t] }) (E:Nat) (i0:TypeInfo) (z:Value) (ht:Tryz.prog.underlying t=some (.slice e)) (hi:Tryz.prog.info? e=some i0) (hz0:i0.zero=some z) (hz1:i0.size=E) (hz2:i0.bytes≤200) (hzs:z.cells.size=E) (C:Value→Prop) (hC:∀ u,C u→Nd u) (hzn:∀ j,j<E→C (z.cells[j]!)) (hE:0<E)
 (base:Nat) (v:Value) (us vs:List Value) (hs:a.eval s=v) (hown:OwnE C E e base w v us) (hB:base≤w.heap.size)
 (ax:Addr) (m c:Nat) (hx:a.eval x=.slice (some ax) m c) (hvl:vs.length=m*E) (hxc:∀ (j:Nat) (u:Value),vs[j]?=some u→w.cell? (ax.add j)=some u) (hvn:∀ u∈vs,C u) (hm:0<m∨v≠.slice none 0 0) (hn:us.length+vs.length≤100000000)
 (dd:Nat) (hdd:o.dst=some dd) (h:∀ v' w',GrE C E e base w v us vs v' w'→K (a.put (some dd) v') w') :
 Oper.wp Tryz.prog o a w K Q:=by
 rw [← hdd] at h
 have hone:∀ u∈vs,u.oneCell'=true:=fun u hu=>(hC u (hvn u hu)).2
 have hml:m≤100000000:=by
  have:m≤m*E:=Nat.le_mul_of_pos_right _ hE
  omega
 have hzc:∀ k j,j<k*E→∃ v,(Builtin.zeroCells z.cells k)[j]?=some v∧C v:=fun k j hj=>by
  unfold Builtin.zeroCells
  rw [Array.getElem?_map,Array.getElem?_range,hzs,if_pos hj]
  exact ⟨_,rfl,hzn _ (Nat.mod_lt _ hE)⟩
 have hzz:∀ k,(Builtin.zeroCells z.cells k).size=k*E:=fun k=>by rw [size_zeroCells,hzs]
 have hvj:∀ j,j<vs.length→∃ u,vs[j]?=some u∧C u:=fun j hj=>⟨vs[j]'hj,List.getElem?_eq_getElem hj,hvn _ (List.getElem_mem _)⟩
 have hnew:∀ (n cap':Nat) (olds:List Value),olds.length=n*E→(∀ u∈olds,C u)→(us=olds)→n+m≤cap' →
  GrE C E e base w v us vs (.slice (some ⟨w.heap.size,0,none⟩) (n+m) cap') (w.drew.alloc (.cells ((olds ++ vs).toArray ++ Builtin.zeroCells z.cells (cap'-(n+m))) e)):=fun n cap' olds hl hnd hu hc=>by
  have hbw:Below w.heap.size w (w.drew.alloc (.cells ((olds ++ vs).toArray ++ Builtin.zeroCells z.cells (cap'-(n+m))) e)):=((Below.refl _ _).drew).alloc (by simp) _
  have hk:Blk (w.drew.alloc (.cells ((olds ++ vs).toArray ++ Builtin.zeroCells z.cells (cap'-(n+m))) e)) w.heap.size e ((olds ++ vs).toArray ++ Builtin.zeroCells z.cells (cap'-(n+m))):=Blk.new w.drew _ _
  have hlen:(olds ++ vs).length=(n+m)*E:=by rw [List.length_append,hl,hvl,Nat.add_mul]
  refine ⟨.inr ⟨w.heap.size,n+m,cap',_,rfl,hB,by rw [hu,hlen],hc,fun j u hj=>?_,hk,?_,fun j hj=>?_⟩,.inr ⟨hbw,_,_,rfl⟩⟩
  ·rw [hu] at hj
   have hjl:=(List.getElem?_eq_some_iff.1 hj).1
   refine (hk.cell j).trans ?_
   rw [Array.getElem?_append_left (by simpa using hjl),List.getElem?_toArray,hj]
  ·rw [Array.size_append,List.size_toArray,hzz,hlen,← Nat.add_mul,Nat.add_sub_cancel' hc]
  ·rcases Nat.lt_or_ge j ((n+m)*E) with h1 | h1
   ·rw [Array.getElem?_append_left (by rw [List.size_toArray,hlen];exact h1),List.getElem?_toArray]
    refine ⟨(olds ++ vs)[j]'(by rw [hlen];exact h1),List.getElem?_eq_getElem _,?_⟩
    rcases List.mem_append.1 (List.getElem_mem (l:=olds ++ vs) (by rw [hlen];exact h1)) with h2 | h2
    ·exact hnd _ h2
    ·exact hvn _ h2
   ·rw [Array.getElem?_append_right (by rw [List.size_toArray,hlen];exact h1),List.size_toArray,hlen]
    refine hzc _ _ ?_
    rw [Nat.sub_mul]
    omega
 rcases hown with ⟨hn0,hF⟩ | ⟨g,n,cap,cs,hF,hBg,hul,hnc,huc,hk,hsz,hcs⟩
 ·subst hF
  have hm0:0<m:=hm.resolve_right fun h=>h rfl
  have hrun:=run_append_nil (P:=Tryz.prog) (w:=w) t o.type e i0 z ht hi hz0 ax m c vs (by rw [hz1,hvl]) hxc hm0 (by omega) (by
   have:=Nat.mul_le_mul hml hz2
   omega)
  have hge:m≤grownCap w m 0 e:=grownCap_ge w m 0 e
  generalize grownCap w m 0 e=cap' at hrun hge
  have hg:=hnew 0 cap' [] (by simp) (fun u hu=>by simp at hu) hn0 (by omega)
  rw [List.nil_append,Nat.zero_add] at hg
  unfold Oper.wp
  simp only [execOp,ho,resolve,invoke,builtin]
  simp [hs,hx,hrun,Result.andThen]
  exact h _ _ hg
 ·subst hF
  have hnl:n≤100000000:=by
   have:n≤n*E:=Nat.le_mul_of_pos_right _ hE
   omega
  by_cases hrm:n+m≤cap
  ·have hnm:n*E+m*E≤cap*E:=by rw [← Nat.add_mul];exact Nat.mul_le_mul_right _ hrm
   have hrun:=run_append_room_cells (P:=Tryz.prog) w t o.type e i0 ht hi g 0 n cap ax m c vs (by rw [hz1,hvl]) hxc hone hrm
    (fun j hj=>by
      obtain ⟨u,eu,_⟩:=hcs (n*E+j) (by rw [hvl] at hj;omega)
      rw [hz1,Nat.zero_add,hk.cell,eu];rfl)
    (fun j hj=>hk.frozen _)
   rw [hz1,Nat.zero_add] at hrun
   unfold Oper.wp
   simp only [execOp,ho,resolve,invoke,builtin]
   simp [hs,hx,hrun,Result.andThen]
   have hcc:∀ o u,w.cell? ⟨g,o,none⟩=some u→C u:=fun o u hu=>by
    rw [hk.cell] at hu
    have hj:o<cs.size:=(Array.getElem?_eq_some_iff.1 hu).1
    obtain ⟨u',e',hd⟩:=hcs o (by rw [← hsz];exact hj)
    rw [hu] at e'
    cases e'
    exact hd
   obtain ⟨cs',b1,b2,b3,b4,b5⟩:∃ cs',Blk (w.setCells g (n*E) vs) g e cs'∧cs'.size=cap*E∧(∀ j,j<cap*E→∃ v,cs'[j]?=some v∧C v)∧(∀ (j:Nat) (v:Value),vs[j]?=some v→cs'[n*E+j]?=some v)∧∀ j,j<n*E→cs'[j]?=cs[j]?:=blk_setCellsC hcs hsz vs hvn (n*E) (by rw [hvl];exact hnm) hk
   have hfr:FrS g g w (w.setCells g (n*E) vs):=frs_setCells vs (n*E) (FrS.refl _ _ _)
   refine h _ _ ⟨.inr ⟨g,n+m,cap,cs',rfl,hBg,by rw [List.length_append,hul,hvl,Nat.add_mul],hrm,fun j u hj=>?_,b1,b2,b3⟩,.inl ⟨g,n,n+m,cap,rfl,rfl,hBg,hk.lt,hcc,hfr⟩⟩
   refine (b1.cell j).trans ?_
   rcases Nat.lt_or_ge j us.length with h1 | h1
   ·rw [List.getElem?_append_left h1] at hj
    rw [b5 j (by rw [← hul];exact h1),← hk.cell j]
    exact huc j u hj
   ·rw [List.getElem?_append_right h1] at hj
    have:=b4 _ u hj
    rwa [← hul,Nat.add_sub_cancel' h1] at this
  ·have hol:∀ u∈us,C u:=fun u hu=>by
    obtain ⟨j,hj,hju⟩:=List.getElem_of_mem hu
    have hc:=huc j u (by rw [List.getElem?_eq_getElem hj,hju])
    rw [hk.cell j] at hc
    obtain ⟨u',e',hd⟩:=hcs j (by
     have:n*E≤cap*E:=Nat.mul_le_mul_right _ hnc
     omega)
    rw [hc] at e'
    cases e'
    exact hd
   have hnm:=Nat.mul_le_mul (show n+m≤200000000 by omega) hz2
   have hfit:=growslice_fits (need:=n+m) (old:=cap) (bytes:=i0.bytes) (by omega) (by omega)
   have hrun:=run_append_grow (P:=Tryz.prog) w t o.type e i0 z ht hi hz0 ⟨g,0,none⟩ n cap us (by rw [hz1,hul])
    (fun j u hj=>by rw [Addr.add_lit,Nat.zero_add];exact huc j u hj)
    ax m c vs (by rw [hz1,hvl]) hxc (by omega) (by omega) hfit
   have hge:=grownCap_ge w (n+m) cap e
   generalize grownCap w (n+m) cap e=cap' at hrun hge
   have hg:=hnew n cap' us hul hol rfl hge
   unfold Oper.wp
   simp only [execOp,ho,resolve,invoke,builtin]
   simp [hs,hx,hrun,Result.andThen]
   exact h _ _ (by simpa using hg)
def Lay {α:Type} (R:α→List Value→Prop):List α→List Value→Prop
 | [],us=>us=[]
 | x :: xs,us=>∃ vs us',R x vs∧us=vs ++ us'∧Lay R xs us'
section
variable {α:Type} {R R':α→List Value→Prop} {E:Nat}
theorem Lay.mono (hm:∀ x vs,R x vs→R' x vs):∀ {xs:List α} {us:List Value},Lay R xs us→Lay R' xs us
 | [],_,h=>h
 | _ :: _,_,⟨vs,us',h1,h2,h3⟩=>⟨vs,us',hm _ _ h1,h2,Lay.mono hm h3⟩
theorem Lay.len (hR:∀ x vs,R x vs→vs.length=E):∀ {xs:List α} {us:List Value},Lay R xs us→us.length=xs.length*E
 | [],us,h=>by rw [show us=[] from h];simp
 | x :: xs,us,⟨vs,us',h1,h2,h3⟩=>by rw [h2,List.length_append,hR _ _ h1,Lay.len hR h3,List.length_cons,Nat.add_mul,Nat.one_mul,Nat.add_comm]
theorem Lay.get (hR:∀ x vs,R x vs→vs.length=E):∀ {xs:List α} {us:List Value},Lay R xs us→∀ (i:Nat) (x:α),xs[i]?=some x→∃ vs,R x vs∧∀ (j:Nat) (v:Value),vs[j]?=some v→us[i*E+j]?=some v
 | [],_,_,i,x,hx=>by simp at hx
 | y :: xs,us,⟨vs,us',h1,h2,h3⟩,i,x,hx=>by
   match i,hx with
   | 0,hx =>
     have e:y=x:=by simpa using hx
     subst e
     refine ⟨vs,h1,fun j v hv=>?_⟩
     rw [h2,Nat.zero_mul,Nat.zero_add,List.getElem?_append_left (List.getElem?_eq_some_iff.1 hv).1]
     exact hv
   | i+1,hx =>
     obtain ⟨ws,g1,g2⟩:=Lay.get hR h3 i x (by simpa using hx)
     refine ⟨ws,g1,fun j v hv=>?_⟩
     have hl:=hR _ _ h1
     rw [h2,List.getElem?_append_right (by rw [hl,Nat.add_mul];omega),hl,show (i+1)*E+j-E=i*E+j by rw [Nat.add_mul];omega]
     exact g2 j v hv
end
structure SlE {α:Type} (E:Nat) (R:World→α→List Value→Prop) (w:World) (A:Option Addr) (l c:Nat) (xs:List α):Prop where
 length:xs.length=l
 cap:l≤c
 elems:(l=0∧A=none∧c=0)∨∃ b o,A=some ⟨b,o,none⟩∧b<w.heap.size∧∀ (i:Nat) (x:α),xs[i]?=some x→∃ vs,R w x vs∧∀ (j:Nat) (v:Value),vs[j]?=some v→w.cell? ⟨b,o+i*E+j,none⟩=some v
theorem SlE.below {α:Type} {E:Nat} {R:World→α→List Value→Prop} {w w':World} {A:Option Addr} {l c:Nat} {xs:List α} (h:SlE E R w A l c xs) (hb:Below w.heap.size w w') (hR:∀ x vs,R w x vs→R w' x vs):SlE E R w' A l c xs:=by
 refine ⟨h.length,h.cap,?_⟩
 rcases h.elems with h0 | ⟨b,o,hA,hlt,hv⟩
 ·exact .inl h0
 ·refine .inr ⟨b,o,hA,Nat.lt_of_lt_of_le hlt hb.size,fun i x hx=>?_⟩
  obtain ⟨vs,h1,h2⟩:=hv i x hx
  exact ⟨vs,hR _ _ h1,fun j v hj=>(hb.cell (p:=⟨b,o+i*E+j,none⟩) hlt).trans (h2 j v hj)⟩
theorem OwnE.sle {α:Type} {C:Value→Prop} {E t base:Nat} {R:World→α→List Value→Prop} {w:World} {v:Value} {us:List Value} {xs:List α} (hE:0<E) (h:OwnE C E t base w v us) (hl:Lay (R w) xs us) (hR:∀ x vs,R w x vs→vs.length=E):∃ A l c,v=.slice A l c∧SlE E R w A l c xs:=by
 have hlen:=hl.len hR
 rcases h with ⟨h1,h2⟩ | ⟨g,n,cap,cs,h1,h2,h3,h4,h5,h6,h7,h8⟩
 ·have:xs.length=0:=by
   rw [h1,List.length_nil] at hlen
   rcases Nat.mul_eq_zero.1 hlen.symm with h | h<;>omega
  exact ⟨_,_,_,h2,this,Nat.le_refl _,.inl ⟨rfl,rfl,rfl⟩⟩
 ·refine ⟨_,n,cap,h1,Nat.eq_of_mul_eq_mul_right hE (by rw [← hlen,h3]),h4,.inr ⟨g,0,rfl,h6.lt,fun i x hx=>?_⟩⟩
  obtain ⟨vs,g1,g2⟩:=hl.get hR i x hx
  exact ⟨vs,g1,fun j u hu=>by rw [Nat.zero_add];exact h5 _ u (g2 j u hu)⟩
def RatV (w:World) (a:Fq) (vs:List Value):Prop:=∃ n A l c B m d,vs=[.bool n,.slice A l c,.slice B m d]∧IntN w n A l c a.z∧NatN w B m d a.q
theorem RatV.below {w w':World} {a:Fq} {vs:List Value} (h:RatV w a vs) (hb:Below w.heap.size w w'):RatV w' a vs:=by
 obtain ⟨n,A,l,c,B,m,d,e,h1,h2⟩:=h
 exact ⟨n,A,l,c,B,m,d,e,h1.below hb,h2.below hb⟩
theorem RatV.frs {g g':Nat} {w w':World} {a:Fq} {vs:List Value} (h:RatV w a vs) (hf:FrS g g' w w') (k1:NdB w g) (k2:NdB w g'):RatV w' a vs:=by
 obtain ⟨n,A,l,c,B,m,d,e,h1,h2⟩:=h
 exact ⟨n,A,l,c,B,m,d,e,h1.frs hf k1 k2,h2.frs hf k1 k2⟩
theorem RatV.len {w:World} {a:Fq} {vs:List Value} (h:RatV w a vs):vs.length=3:=by
 obtain ⟨n,A,l,c,B,m,d,e,h1,h2⟩:=h
 rw [e];rfl
theorem RatV.nd {w:World} {a:Fq} {vs:List Value} (h:RatV w a vs):∀ v∈vs,Nd v:=by
 obtain ⟨n,A,l,c,B,m,d,e,h1,h2⟩:=h
 intro v hv
 rw [e] at hv
 simp only [List.mem_cons,List.not_mem_nil,or_false] at hv
 rcases hv with rfl | rfl | rfl
 ·exact nd_bool _
 ·exact nd_slice _ _ _
 ·exact nd_slice _ _ _
end Go.Proofs.YtppggpfcdgilmaaGreat
namespace Go.Proofs.YtppggpfcdgilmaaGreat
open Go.RowKit
section
variable {Q f:List Int} {a b m:Fq} {x y:Pt}
theorem IsoV.at_ (h:IsoV f x a b) (hlt:a.v<b.v) (ma:a.v<m.v) (mb:m.v<b.v) (hm:sgp f m.p=0):x=m.p:=by
 rcases h.2 with h2 | ⟨_,n1,n2,x1,x2,hu⟩
 ·grind
 ·exact (hu m.p hm (Pt.of_lt_of.2 ma) (Pt.of_lt_of.2 mb)).symm
def hlf (Q:List Int) (r:Fq×Fq):Fq×Fq :=
 if fcmp r.1 r.2=0 then r
 else if (r.1.mid r.2).sgn Q=0 then ((r.1.mid r.2).nf,(r.1.mid r.2).nf)
 else if (r.1.mid r.2).sgn Q=r.1.sgn Q then (r.1.mid r.2,r.2) else (r.1,r.1.mid r.2)
end
end Go.Proofs.YtppggpfcdgilmaaGreat
namespace Go.Proofs.YtppggpfcdgilmaaGreat
open Go.RowKit
section
variable {K i j:Nat} {a b:Fq} {r:Fq×Fq} {Q f:List Int}
theorem Dy.nf (h:Dy K i a):Dy K i a.nf:=by
 have hp:=(Go.Proofs.YtppggpfcdgilmaaGreat.nf_v (z:=a.z) h.p).2.1
 obtain ⟨g,hg⟩:∃ g,g=Nat.gcd a.z.natAbs a.q:=⟨_,rfl⟩
 have hg0:0<g:=by rw [hg];exact Nat.gcd_pos_of_pos_right _ h.p
 have d2:g∣a.q:=by rw [hg];exact Nat.gcd_dvd_right _ _
 have d1:g∣a.z.natAbs:=by rw [hg];exact Nat.gcd_dvd_left _ _
 have eq:a.nf.q=a.q / g:=by rw [hg];rfl
 have ez:a.nf.z.natAbs=a.z.natAbs / g:=by
  show (rz a.z a.q).natAbs=_
  unfold rz
  rw [Int.natAbs_tdiv,hg,Int.natAbs_natCast];rfl
 refine ⟨hp,?_,?_⟩
 ·rw [eq];exact Nat.dvd_trans (Nat.div_dvd_of_dvd d2) h.d
 ·rw [ez,eq,← Nat.mul_div_assoc _ d2]
  exact Nat.div_le_div_right h.z
def DyR (K i:Nat) (r:Fq×Fq):Prop:=Dy K i r.1∧Dy K i r.2
structure DyW (K:Nat) (W:Rat) (i:Nat) (r:Fq×Fq):Prop where
 d:DyR K i r
 w:r.1.v=r.2.v∨(r.2.v-r.1.v)*2^i=W
theorem pow2_succ (i:Nat):(2:Rat)^(i+1)=2^i*2:=by rw [Rat.pow_succ]
theorem isl_dw {PS:List (List Int)} {W:Rat}:∀ (n i:Nat) (a b:Fq),Dy K i a→Dy K i b→(b.v-a.v)*2^i=W→∀ r∈isl Q PS n a b,∃ j,i≤j∧j≤i+n∧DyW K W j r
 | 0,_,_,_,_,_,_,r,hr=>by simp [isl] at hr
 | n+1,i,a,b,ha,hb,hw,r,hr=>by
   have e:isl Q PS (n+1) a b=if icnt Q PS a b<1 then [] else if icnt Q PS a b=1∧a.sgn Q≠0∧b.sgn Q≠0 then [(a.nf,b.nf)] else isl Q PS n a (a.mid b) ++ (if (a.mid b).sgn Q=0 then [((a.mid b).nf,(a.mid b).nf)] else []) ++ isl Q PS n (a.mid b) b:=rfl
   rw [e] at hr
   have hm:=ha.mid hb
   have hv:=Fq.mid_v ha.p hb.p
   by_cases c1:icnt Q PS a b<1
   ·rw [if_pos c1] at hr;simp at hr
   rw [if_neg c1] at hr
   by_cases c2:icnt Q PS a b=1∧a.sgn Q≠0∧b.sgn Q≠0
   ·rw [if_pos c2,List.mem_singleton] at hr
    rw [hr]
    refine ⟨i,Nat.le_refl _,by omega,⟨ha.nf,hb.nf⟩,.inr ?_⟩
    show (b.nf.v-a.nf.v)*2^i=W
    rw [(Fq.nf_v ha.p).1,(Fq.nf_v hb.p).1]
    exact hw
   rw [if_neg c2] at hr
   rcases List.mem_append.1 hr with hr | hr
   ·rcases List.mem_append.1 hr with hr | hr
    ·obtain ⟨j,j1,j2,j3⟩:=isl_dw (W:=W) n (i+1) a (a.mid b) ha.up hm (by rw [hv.1,pow2_succ];grind) r hr
     exact ⟨j,by omega,by omega,j3⟩
    ·split at hr
     ·rw [List.mem_singleton] at hr
      rw [hr]
      exact ⟨i+1,by omega,by omega,⟨hm.nf,hm.nf⟩,.inl rfl⟩
     ·simp at hr
   ·obtain ⟨j,j1,j2,j3⟩:=isl_dw (W:=W) n (i+1) (a.mid b) b hm hb.up (by rw [hv.1,pow2_succ];grind) r hr
    exact ⟨j,by omega,by omega,j3⟩
theorem proots_dw (f:List Int):∀ r∈proots f,∃ j,j≤NN+1∧DyW (cbn (qpart f)) (2*(cbn (qpart f):Nat)) j r:=by
 unfold proots
 by_cases h:plen (qpart f)<2
 ·rw [if_pos h];intro r hr;simp at hr
 ·rw [if_neg h]
  have hv:=end_v (cbn (qpart f))
  intro r hr
  obtain ⟨j,_,j2,j3⟩:=isl_dw (K:=cbn (qpart f)) (W:=2*((cbn (qpart f):Nat):Rat)) (NN+1) 0 ⟨-((cbn (qpart f):Nat):Int),1⟩ ⟨((cbn (qpart f):Nat):Int),1⟩ ⟨Nat.one_pos,by simp,by simp⟩ ⟨Nat.one_pos,by simp,by simp⟩ (by rw [hv.1,hv.2,Rat.pow_zero];grind) r hr
  exact ⟨j,by omega,j3⟩
end
end Go.Proofs.YtppggpfcdgilmaaGreat
namespace Go.Proofs.YtppggpfcdgilmaaGreat
open Go.RowKit
def Fq.sub (a b:Fq):Fq:=⟨(a.z*(b.q:Int)-b.z*(a.q:Int)).tdiv (Nat.gcd (a.z*(b.q:Int)-b.z*(a.q:Int)).natAbs (a.q*b.q)),a.q*b.q / Nat.gcd (a.z*(b.q:Int)-b.z*(a.q:Int)).natAbs (a.q*b.q)⟩
def Fq.add (a b:Fq):Fq:=⟨(a.z*(b.q:Int)+b.z*(a.q:Int)).tdiv (Nat.gcd (a.z*(b.q:Int)+b.z*(a.q:Int)).natAbs (a.q*b.q)),a.q*b.q / Nat.gcd (a.z*(b.q:Int)+b.z*(a.q:Int)).natAbs (a.q*b.q)⟩
theorem fit_one:Fit 1:=zb_fit (z:=1) (Nat.le_trans (by decide) zb_128)
theorem fit_onen:Fit ((1:Nat):Int):=fit_one
structure Sz (k:Nat) (a:Fq):Prop where
 p:0<a.q
 z:a.z.natAbs≤BB^k
 q:a.q≤BB^k
section
variable {a b:Fq} {j k:Nat}
theorem Sz.fz (h:Sz k a) (hk:k<FW):Fit a.z:=Nat.lt_of_le_of_lt h.z (Nat.pow_lt_pow_right (by rw [BB_eq];decide) hk)
theorem Sz.fq (h:Sz k a) (hk:k<FW):Fit (a.q:Int):=by
 unfold Fit
 rw [Int.natAbs_natCast]
 exact Nat.lt_of_le_of_lt h.q (Nat.pow_lt_pow_right (by rw [BB_eq];decide) hk)
theorem sz_le {Z D j k:Nat} (h1:Z≤BB^j) (h2:D≤BB^k):Z*D≤BB^(j+k):=by
 rw [Nat.pow_add]
 exact Nat.mul_le_mul h1 h2
theorem Sz.red (z:Int) (q:Nat) (h0:0<q) (hz:z.natAbs≤BB^k) (hq:q≤BB^k):Sz k ⟨rz z q,rq z q⟩:=by
 refine ⟨(nf_v (z:=z) h0).2.1,?_,?_⟩
 ·show (rz z q).natAbs≤_
  unfold rz
  rw [Int.natAbs_tdiv]
  exact Nat.le_trans (Nat.div_le_self _ _) hz
 ·show rq z q≤_
  unfold rq
  exact Nat.le_trans (Nat.div_le_self _ _) hq
theorem Sz.two (ha:Sz j a) (hb:Sz k b):(a.z*(b.q:Int)).natAbs+(b.z*(a.q:Int)).natAbs≤BB^(j+k+1)∧a.q*b.q≤BB^(j+k+1):=by
 have h1:=sz_le ha.z hb.q
 have h2:=sz_le hb.z ha.q
 have h3:=sz_le ha.q hb.q
 rw [Nat.add_comm k j] at h2
 have h4:2*BB^(j+k)≤BB^(j+k+1):=by
  rw [Nat.pow_succ,Nat.mul_comm]
  exact Nat.mul_le_mul_left _ (by rw [BB_eq];decide)
 rw [Int.natAbs_mul,Int.natAbs_mul,Int.natAbs_natCast,Int.natAbs_natCast]
 omega
theorem Sz.sub (ha:Sz j a) (hb:Sz k b):Sz (j+k+1) (a.sub b):=by
 obtain ⟨h1,h2⟩:=ha.two hb
 exact Sz.red _ _ (Nat.mul_pos ha.p hb.p) (by omega) h2
theorem Sz.add (ha:Sz j a) (hb:Sz k b):Sz (j+k+1) (a.add b):=by
 obtain ⟨h1,h2⟩:=ha.two hb
 exact Sz.red _ _ (Nat.mul_pos ha.p hb.p) (by omega) h2
theorem Fq.sub_v (ha:0<a.q) (hb:0<b.q):(a.sub b).v=a.v-b.v:=by
 have hq:0<a.q*b.q:=Nat.mul_pos ha hb
 have h1:=(Go.Proofs.YtppggpfcdgilmaaGreat.nf_v (z:=a.z*(b.q:Int)-b.z*(a.q:Int)) hq).1
 refine Eq.trans (show _=((rz (a.z*(b.q:Int)-b.z*(a.q:Int)) (a.q*b.q):Int):Rat) / ((rq (a.z*(b.q:Int)-b.z*(a.q:Int)) (a.q*b.q):Nat):Rat) from rfl) ?_
 rw [h1]
 unfold Fq.v
 have x1:(0:Rat)<((a.q:Nat):Rat):=by exact_mod_cast ha
 have x2:(0:Rat)<((b.q:Nat):Rat):=by exact_mod_cast hb
 have x3:=Rat.mul_pos x1 x2
 rw [Rat.intCast_sub,Rat.intCast_mul,Rat.intCast_mul,Rat.natCast_mul,Rat.intCast_natCast,Rat.intCast_natCast,Rat.div_def,Rat.div_def,Rat.div_def]
 generalize ((a.q:Nat):Rat)=s at *
 generalize ((b.q:Nat):Rat)=t at *
 generalize ((a.z:Int):Rat)=u at *
 generalize ((b.z:Int):Rat)=v at *
 grind
end
end Go.Proofs.YtppggpfcdgilmaaGreat
namespace Go.Proofs.YtppggpfcdgilmaaGreat
open Go.RowKit
section
variable {f:List Int} {i:Nat} {a b:Fq}
theorem set_getD {l:List (Fq×Fq)} {v:Fq×Fq} (hi:i<l.length):(l.set i v).getD i r00=v:=by
 rw [List.getD_eq_getElem?_getD,List.getElem?_set_self hi]
 rfl
theorem set_getD_ne {l:List (Fq×Fq)} {v:Fq×Fq} {j:Nat} (h:i≠j):(l.set i v).getD j r00=l.getD j r00:=by
 rw [List.getD_eq_getElem?_getD,List.getElem?_set_ne h,← List.getD_eq_getElem?_getD]
theorem root_at {xs:List Pt} (hx:Lst (fun x=>sgp f x=0) xs) {y:Pt} (hy:sgp f y=0):∃ j,j<xs.length∧xs.getD j default=y:=by
 obtain ⟨j,hj,e⟩:=List.getElem_of_mem ((hx.2 y).2 hy)
 exact ⟨j,hj,by rw [List.getD_eq_getElem?_getD,List.getElem?_eq_getElem hj,e];rfl⟩
theorem moved_no (h9:P9 f) (hi:i<(proots f).length) (pa:0<a.q) (pb:0<b.q) (hb:b.v<((proots f).getD 0 r00).1.v):¬ Cmpl f ((proots f).set i (a,b)):=fun h=>by
 have h0:plen f≠0:=fun e=>by rw [proots_nil e] at hi;cases hi
 have h1:=(h.2 i (by rw [List.length_set];exact hi)).1
 rw [set_getD hi] at h1
 obtain ⟨x,hx⟩:=(vld_iff h9 h0 pa pb).1 h1
 obtain ⟨xs,hr⟩:=rf_ex h9 h0
 obtain ⟨j,hj,e⟩:=root_at hr.lst hx.1
 have hlen:0<xs.length:=by omega
 have h2:=(hr.iso 0 hlen).lo
 have h3:=hx.hi
 have h4:b.p<((proots f).getD 0 r00).1.p:=Pt.of_lt_of.2 hb
 have h5:x<((proots f).getD 0 r00).1.p:=by
  rcases Pt.tri x b.p with c | c | c
  ·exact Pt.lt_trans c h4
  ·rw [c];exact h4
  ·exact absurd c h3
 rcases Nat.eq_zero_or_pos j with c | c
 ·subst c
  rw [e] at h2
  exact h2 h5
 ·have h6:=asc_get hr.lst.1 c hj
  rw [e] at h6
  exact h2 (Pt.lt_trans h6 h5)
theorem turned_no (h9:P9 f) (hi:i+1<(proots f).length):¬ Cmpl f (((proots f).set i ((proots f).getD (i+1) r00)).set (i+1) ((proots f).getD i r00)):=fun h=>by
 have h0:plen f≠0:=fun e=>by rw [proots_nil e] at hi;cases hi
 obtain ⟨xs,hr⟩:=rf_ex h9 h0
 have hl:=hr.len
 have h1:=((h.2 (i+1) (by rw [List.length_set,List.length_set];exact hi)).2 (by omega)).1
 rw [set_getD (by rw [List.length_set];exact hi),show i+1-1=i by omega,set_getD_ne (by omega),set_getD (by omega)] at h1
 have k0:i<xs.length:=by omega
 have k1:i+1<xs.length:=by omega
 have f0:=hr.fa k0
 have f1:=hr.fa k1
 refine h1 ((fcmp_pos f1.2.p f0.1.p).2 ?_)
 have lt:=asc_get hr.lst.1 (Nat.lt_succ_self i) k1
 have l0:=(hr.iso i k0).lo
 have l1:=(hr.iso (i+1) k1).hi
 have h2:((proots f).getD i r00).1.p<((proots f).getD (i+1) r00).2.p:=by
  have h3:xs.getD i default<((proots f).getD (i+1) r00).2.p:=by
   rcases Pt.tri (xs.getD (i+1) default) ((proots f).getD (i+1) r00).2.p with c | c | c
   ·exact Pt.lt_trans lt c
   ·rw [← c];exact lt
   ·exact absurd c l1
  rcases Pt.tri (xs.getD i default) ((proots f).getD i r00).1.p with c | c | c
  ·exact absurd c l0
  ·rw [← c];exact h3
  ·exact Pt.lt_trans c h3
 exact Pt.of_lt_of.1 h2
def subn (a:Fq) (n:Nat):Fq:=a.sub ⟨(n:Int),1⟩
theorem subn_v (ha:0<a.q) (n:Nat):(subn a n).v=a.v-(n:Rat):=by
 unfold subn
 rw [Fq.sub_v ha (show 0<1 from Nat.one_pos)]
 congr 1
 unfold Fq.v
 show (((n:Int):Int):Rat) / ((1:Nat):Rat)=_
 rw [Rat.intCast_natCast]
 have e:(((1:Nat):Nat):Rat)=1:=rfl
 rw [e]
 grind
theorem subn_fq {n:Nat} (hn:n≤2) (h9:P9 f) (h0:plen f≠0) (hi:i<(proots f).length):FqB (subn ((proots f).getD i r00).1 n):=by
 obtain ⟨j,hj,hd⟩:=proots_dw f _ (getD_mem hi r00)
 have hs:=SqF.of9 h9 h0
 have hc:=cbn_le hs
 obtain ⟨k,hk⟩:∃ k:Nat,k=902:=⟨_,rfl⟩
 have h2:(2:Nat)^(NN+1)≤BB^(k-17):=by
  rw [bb_two]
  exact Nat.pow_le_pow_right (by decide) (by rw [NN_eq];omega)
 have hq:((proots f).getD i r00).1.q≤BB^(k-17):=Nat.le_trans (Nat.le_trans (Nat.le_of_dvd (Nat.pow_pos (by decide)) hd.d.1.d) (Nat.pow_le_pow_right (by decide) hj)) h2
 have hz:((proots f).getD i r00).1.z.natAbs≤BB^k:=by
  refine Nat.le_trans hd.d.1.z (Nat.le_trans (Nat.mul_le_mul hc hq) ?_)
  rw [← Nat.pow_add]
  exact bbk_le (by omega)
 have s1:Sz k ((proots f).getD i r00).1:=⟨hd.d.1.p,hz,Nat.le_trans hq (bbk_le (by omega))⟩
 have s2:Sz 1 (⟨(n:Int),1⟩:Fq):=⟨Nat.one_pos,by show ((n:Int)).natAbs≤_;rw [Int.natAbs_natCast,Nat.pow_one,BB_eq];omega,by show 1≤BB^1;rw [Nat.pow_one,BB_eq];decide⟩
 have s3:=s1.sub s2
 exact ⟨s3.p,Nat.le_trans s3.z (bbk_le (by rw [ZK_eq];omega)),Nat.le_trans s3.q (bbk_le (by rw [ZK_eq];omega))⟩
end
end Go.Proofs.YtppggpfcdgilmaaGreat
namespace Go.Proofs.YtppggpfcdgilmaaGreat
open Go Go.RowKit
section
variable {w w':World} {b o g l c:Nat} {A:Option Addr} {rs:List (Fq×Fq)} {k i:Nat}
theorem rtv_len {r:Fq×Fq} {vs:List Value} (h:RtV w r vs):vs.length=6:=by
 obtain ⟨n,A,l,c,B,m,d,n',A',l',c',B',m',d',e,_⟩:=h
 rw [e];rfl
theorem rtv_nd {r:Fq×Fq} {vs:List Value} (h:RtV w r vs):∀ u∈vs,Nd u:=by
 obtain ⟨n,A,l,c,B,m,d,n',A',l',c',B',m',d',e,_⟩:=h
 intro u hu
 rw [e] at hu
 simp at hu
 rcases hu with rfl | rfl | rfl | rfl | rfl | rfl
 ·exact nd_bool _
 ·exact nd_slice _ _ _
 ·exact nd_slice _ _ _
 ·exact nd_bool _
 ·exact nd_slice _ _ _
 ·exact nd_slice _ _ _
theorem Vals.take (h:Vals w b o rs) (k:Nat):Vals w b o (rs.take k):=fun i r hr=>by
 rw [List.getElem?_take] at hr
 split at hr
 ·exact h i r hr
 ·cases hr
theorem Vals.drop (h:Vals w b o rs) (k:Nat):Vals w b (o+k*6) (rs.drop k):=fun i r hr=>by
 rw [List.getElem?_drop] at hr
 obtain ⟨vs,h1,h2⟩:=h (k+i) r hr
 exact ⟨vs,h1,fun j v hv=>by rw [show o+k*6+i*6+j=o+(k+i)*6+j by rw [Nat.add_mul];omega];exact h2 j v hv⟩
theorem vals_lay:∀ (rs:List (Fq×Fq)) (o:Nat),Vals w b o rs→∃ vs,Lay (RtV w) rs vs∧∀ (j:Nat) (u:Value),vs[j]?=some u→w.cell? ⟨b,o+j,none⟩=some u
 | [],_,_=>⟨[],rfl,fun j u h=>by simp at h⟩
 | r :: rs,o,h=>by
   obtain ⟨vs,h1,h2⟩:=h 0 r rfl
   obtain ⟨ws,h3,h4⟩:=vals_lay rs (o+6) (fun i x hx=>by
    obtain ⟨us,g1,g2⟩:=h (i+1) x hx
    exact ⟨us,g1,fun j v hv=>by rw [show o+6+i*6+j=o+(i+1)*6+j by rw [Nat.add_mul];omega];exact g2 j v hv⟩)
   have hl:=rtv_len h1
   refine ⟨vs ++ ws,⟨vs,ws,h1,rfl,h3⟩,fun j u hj=>?_⟩
   rcases Nat.lt_or_ge j 6 with c | c
   ·rw [List.getElem?_append_left (by omega)] at hj
    have:=h2 j u hj
    rwa [Nat.zero_mul,Nat.add_zero] at this
   ·rw [List.getElem?_append_right (by omega),hl] at hj
    have:=h4 _ u hj
    rwa [show o+6+(j-6)=o+j by omega] at this
theorem lay_nd:∀ {rs:List (Fq×Fq)} {vs:List Value},Lay (RtV w) rs vs→∀ u∈vs,Nd u
 | [],vs,h,u,hu=>by rw [show vs=[] from h] at hu;cases hu
 | r :: rs,vs,⟨ws,us,h1,h2,h3⟩,u,hu=>by
   rw [h2] at hu
   rcases List.mem_append.1 hu with hu | hu
   ·exact rtv_nd h1 u hu
   ·exact lay_nd h3 u hu
theorem RtsAt.vals (h:RtsAt w A l c rs) (hl:0<l):∃ b o,A=some ⟨b,o,none⟩∧b<w.heap.size∧Vals w b o rs:=by
 rcases h.elems with ⟨h0,_⟩ | h
 ·omega
 ·exact h
structure RowR (base:Nat) (w:World) (g:Nat) (rs:List (Fq×Fq)):Prop where
 base:base≤g
 blk:∃ (t:TypeId) (cs:Array Value),Blk w g t cs
 nd:NdB w g
 vals:Vals w g 0 rs
theorem RowR.lt {base:Nat} (h:RowR base w g rs):g<w.heap.size:=by obtain ⟨_,_,hk⟩:=h.blk;exact hk.lt
theorem RowR.fr {base:Nat} (h:RowR base w g rs) (o:Nat):w.frozen? ⟨g,o,none⟩=false:=by obtain ⟨_,_,hk⟩:=h.blk;exact hk.frozen o
theorem own_row {t base:Nat} {A:Option Addr} {us:List Value} (h:OwnE Nd 6 t base w (.slice A l c) us) (hl:Lay (RtV w) rs us) (h0:0<rs.length):∃ g,A=some ⟨g,0,none⟩∧l=rs.length∧RowR base w g rs:=by
 obtain ⟨A',l',c',e,hs⟩:=h.sle (by decide) hl fun x vs hx=>rtv_len hx
 cases e
 rcases h with ⟨_,e⟩ | ⟨g,n,cap,cs,e,hb,hul,hnc,huc,hk,hsz,hcs⟩
 ·cases e
  have:=hs.length
  omega
 ·cases e
  refine ⟨g,rfl,hs.length.symm,hb,⟨_,_,hk⟩,fun o u hu=>?_,?_⟩
  ·rw [hk.cell] at hu
   have hj:o<cs.size:=(Array.getElem?_eq_some_iff.1 hu).1
   obtain ⟨u',e',hd⟩:=hcs o (by rw [← hsz];exact hj)
   rw [hu] at e'
   cases e'
   exact hd.1
  ·rcases hs.elems with ⟨e0,_⟩ | ⟨b,o,e,_,hv⟩
   ·have:=hs.length;omega
   ·cases e;exact hv
theorem RowR.below {base:Nat} (h:RowR base w g rs) (hb:Below w.heap.size w w'):RowR base w' g rs :=
 ⟨h.base,by obtain ⟨t,cs,hk⟩:=h.blk;exact ⟨t,cs,hk.below hb hk.lt⟩,fun o u hu=>h.nd o u ((hb.cell (p:=⟨g,o,none⟩) h.lt).symm.trans hu),h.vals.below h.lt hb⟩
theorem RowR.rts {base:Nat} (h:RowR base w g rs) (hc:rs.length≤c):RtsAt w (some ⟨g,0,none⟩) rs.length c rs:=⟨rfl,hc,.inr ⟨g,0,rfl,h.lt,h.vals⟩⟩
theorem RowR.turn {base:Nat} {r:Fq×Fq} {vs:List Value} (h:RowR base w g rs) (hf:FrS g g w w') (hi:i<rs.length) (hr:RtV w r vs) (hin:∀ (j:Nat) (v:Value),vs[j]?=some v→w'.cell? ⟨g,i*6+j,none⟩=some v) (hout:∀ o,(o<i*6∨i*6+6≤o)→w'.cell? ⟨g,o,none⟩=w.cell? ⟨g,o,none⟩) (hk:∃ (t:TypeId) (cs:Array Value),Blk w' g t cs):RowR base w' g (rs.set i r):=by
 have hl:=rtv_len hr
 have hnd:=rtv_nd hr
 refine ⟨h.base,hk,fun o u hu=>?_,fun k x hx=>?_⟩
 ·by_cases c:o<i*6∨i*6+6≤o
  ·rw [hout o c] at hu
   exact h.nd o u hu
  ·have hj:o-i*6<vs.length:=by omega
   have h1:=hin (o-i*6) _ (List.getElem?_eq_getElem hj)
   rw [show i*6+(o-i*6)=o by omega,hu] at h1
   cases h1
   exact (hnd _ (List.getElem_mem hj)).1
 ·by_cases e:i=k
  ·subst e
   rw [List.getElem?_set_self hi] at hx
   cases hx
   exact ⟨vs,hr.frs hf h.nd h.nd,fun j v hv=>by rw [Nat.zero_add];exact hin j v hv⟩
  ·rw [List.getElem?_set_ne e] at hx
   obtain ⟨ws,h1,h2⟩:=h.vals k x hx
   refine ⟨ws,h1.frs hf h.nd h.nd,fun j v hv=>(hout _ ?_).trans (h2 j v hv)⟩
   have hj:j<6:=by
    have:=(List.getElem?_eq_some_iff.1 hv).1
    have:=rtv_len h1
    omega
   rcases Nat.lt_or_gt_of_ne e with h3 | h3
   ·right
    have:(i+1)*6≤k*6:=Nat.mul_le_mul_right _ h3
    rw [Nat.add_mul] at this
    omega
   ·left
    have:(k+1)*6≤i*6:=Nat.mul_le_mul_right _ h3
    rw [Nat.add_mul] at this
    omega
def pu3 (w:World) (g q:Nat) (u0 u1 u2:Value):World:=((w.setCell ⟨g,q,none⟩ u0).setCell ⟨g,q+1,none⟩ u1).setCell ⟨g,q+2,none⟩ u2
theorem pu3_frs (w:World) (g q:Nat) (u0 u1 u2:Value):FrS g g w (pu3 w g q u0 u1 u2):=frs_set (frs_set (frs_set (FrS.refl g g w) q u0) (q+1) u1) (q+2) u2
theorem pu3_cells {t:TypeId} {cs:Array Value} {q:Nat} {u0 u1 u2:Value} (hk:Blk w g t cs) (hq:q+2<cs.size) :
  (∃ cs',Blk (pu3 w g q u0 u1 u2) g t cs'∧cs'.size=cs.size)∧(pu3 w g q u0 u1 u2).cell? ⟨g,q,none⟩=some u0∧(pu3 w g q u0 u1 u2).cell? ⟨g,q+1,none⟩=some u1∧(pu3 w g q u0 u1 u2).cell? ⟨g,q+2,none⟩=some u2∧∀ o,(o<q∨q+3≤o)→(pu3 w g q u0 u1 u2).cell? ⟨g,o,none⟩=w.cell? ⟨g,o,none⟩:=by
 have h1:Blk (pu3 w g q u0 u1 u2) g t (((cs.setIfInBounds q u0).setIfInBounds (q+1) u1).setIfInBounds (q+2) u2):=((hk.set_ q u0).set_ (q+1) u1).set_ (q+2) u2
 refine ⟨⟨_,h1,by simp⟩,?_,?_,?_,fun o ho=>?_⟩
 ·rw [h1.cell,Array.getElem?_setIfInBounds_ne (by omega),Array.getElem?_setIfInBounds_ne (by omega),Array.getElem?_setIfInBounds_self_of_lt (by omega)]
 ·rw [h1.cell,Array.getElem?_setIfInBounds_ne (by omega),Array.getElem?_setIfInBounds_self_of_lt (by simp;omega)]
 ·rw [h1.cell,Array.getElem?_setIfInBounds_self_of_lt (by simp;omega)]
 ·rw [h1.cell,hk.cell,Array.getElem?_setIfInBounds_ne (by omega),Array.getElem?_setIfInBounds_ne (by omega),Array.getElem?_setIfInBounds_ne (by omega)]
theorem RowR.size {base:Nat} (h:RowR base w g rs) (hi:i<rs.length):∃ (t:TypeId) (cs:Array Value),Blk w g t cs∧i*6+6≤cs.size:=by
 obtain ⟨t,cs,hk⟩:=h.blk
 obtain ⟨vs,h1,h2⟩:=h.vals i _ (List.getElem?_eq_getElem hi)
 have hl:=rtv_len h1
 have:=h2 5 _ (List.getElem?_eq_getElem (by omega))
 rw [hk.cell] at this
 have:=(Array.getElem?_eq_some_iff.1 this).1
 exact ⟨t,cs,hk,by omega⟩
theorem RowR.get {base:Nat} (h:RowR base w g rs) (hi:i<rs.length):∃ n A l c B m d n' A' l' c' B' m' d',w.cell? ⟨g,i*6,none⟩=some (.bool n)∧w.cell? ⟨g,i*6+1,none⟩=some (.slice A l c)∧w.cell? ⟨g,i*6+2,none⟩=some (.slice B m d)∧w.cell? ⟨g,i*6+3,none⟩=some (.bool n')∧w.cell? ⟨g,i*6+4,none⟩=some (.slice A' l' c')∧w.cell? ⟨g,i*6+5,none⟩=some (.slice B' m' d') ∧
   IntN w n A l c (rs.getD i r00).1.z∧NatN w B m d (rs.getD i r00).1.q∧IntN w n' A' l' c' (rs.getD i r00).2.z∧NatN w B' m' d' (rs.getD i r00).2.q:=by
 have e:rs[i]?=some (rs.getD i r00):=by rw [List.getD_eq_getElem?_getD,List.getElem?_eq_getElem hi];rfl
 obtain ⟨vs,⟨n,A,l,c,B,m,d,n',A',l',c',B',m',d',hv,h1,h2,h3,h4⟩,hc⟩:=h.vals i _ e
 subst hv
 have hz:∀ j v,_→w.cell? ⟨g,i*6+j,none⟩=some v:=fun j v hj=>by have:=hc j v hj;rwa [Nat.zero_add] at this
 exact ⟨n,A,l,c,B,m,d,n',A',l',c',B',m',d',hz 0 _ rfl,hz 1 _ rfl,hz 2 _ rfl,hz 3 _ rfl,hz 4 _ rfl,hz 5 _ rfl,h1,h2,h3,h4⟩
theorem RowR.lo {base:Nat} {a:Fq} {n:Bool} {A:Option Addr} {l c:Nat} {B:Option Addr} {m d:Nat} (h:RowR base w g rs) (hi:i<rs.length) (ha:IntN w n A l c a.z) (hq:NatN w B m d a.q):RowR base (pu3 w g (i*6) (.bool n) (.slice A l c) (.slice B m d)) g (rs.set i (a,(rs.getD i r00).2)):=by
 obtain ⟨t,cs,hk,hs⟩:=h.size hi
 obtain ⟨⟨cs',hk',_⟩,c0,c1,c2,co⟩:=pu3_cells (u0:=.bool n) (u1:=.slice A l c) (u2:=.slice B m d) hk (q:=i*6) (by omega)
 obtain ⟨n0,A0,l0,c0',B0,m0,d0,n',A',l',c',B',m',d',_,_,_,e3,e4,e5,_,_,z3,z4⟩:=h.get hi
 have hr:RtV w (a,(rs.getD i r00).2) [.bool n,.slice A l c,.slice B m d,.bool n',.slice A' l' c',.slice B' m' d']:=⟨n,A,l,c,B,m,d,n',A',l',c',B',m',d',rfl,ha,hq,z3,z4⟩
 refine h.turn (pu3_frs _ _ _ _ _ _) hi hr (fun j v hv=>?_) (fun o ho=>co o (by omega)) ⟨t,cs',hk'⟩
 match j,hv with
 | 0,hv=>cases hv;exact c0
 | 1,hv=>cases hv;exact c1
 | 2,hv=>cases hv;exact c2
 | 3,hv=>cases hv;rw [co _ (by omega)];exact e3
 | 4,hv=>cases hv;rw [co _ (by omega)];exact e4
 | 5,hv=>cases hv;rw [co _ (by omega)];exact e5
 | j+6,hv=>simp at hv
theorem RowR.hi {base:Nat} {a:Fq} {n':Bool} {A':Option Addr} {l' c':Nat} {B':Option Addr} {m' d':Nat} (h:RowR base w g rs) (hi:i<rs.length) (ha:IntN w n' A' l' c' a.z) (hq:NatN w B' m' d' a.q):RowR base (pu3 w g (i*6+3) (.bool n') (.slice A' l' c') (.slice B' m' d')) g (rs.set i ((rs.getD i r00).1,a)):=by
 obtain ⟨t,cs,hk,hs⟩:=h.size hi
 obtain ⟨⟨cs',hk',_⟩,c0,c1,c2,co⟩:=pu3_cells (u0:=.bool n') (u1:=.slice A' l' c') (u2:=.slice B' m' d') hk (q:=i*6+3) (by omega)
 obtain ⟨n,A,l,c,B,m,d,n0,A0,l0,c0',B0,m0,d0,e0,e1,e2,_,_,_,z1,z2,_,_⟩:=h.get hi
 have hr:RtV w ((rs.getD i r00).1,a) [.bool n,.slice A l c,.slice B m d,.bool n',.slice A' l' c',.slice B' m' d']:=⟨n,A,l,c,B,m,d,n',A',l',c',B',m',d',rfl,z1,z2,ha,hq⟩
 refine h.turn (pu3_frs _ _ _ _ _ _) hi hr (fun j v hv=>?_) (fun o ho=>co o (by omega)) ⟨t,cs',hk'⟩
 match j,hv with
 | 0,hv=>cases hv;rw [co _ (by omega)];exact e0
 | 1,hv=>cases hv;rw [co _ (by omega)];exact e1
 | 2,hv=>cases hv;rw [co _ (by omega)];exact e2
 | 3,hv=>cases hv;exact c0
 | 4,hv=>cases hv;exact c1
 | 5,hv=>cases hv;exact c2
 | j+6,hv=>simp at hv
theorem RowR.all {base:Nat} {r:Fq×Fq} {n:Bool} {A:Option Addr} {l c:Nat} {B:Option Addr} {m d:Nat} {n':Bool} {A':Option Addr} {l' c':Nat} {B':Option Addr} {m' d':Nat} (h:RowR base w g rs) (hi:i<rs.length) (z1:IntN w n A l c r.1.z) (z2:NatN w B m d r.1.q) (z3:IntN w n' A' l' c' r.2.z) (z4:NatN w B' m' d' r.2.q):RowR base (pu3 (pu3 w g (i*6) (.bool n) (.slice A l c) (.slice B m d)) g (i*6+3) (.bool n') (.slice A' l' c') (.slice B' m' d')) g (rs.set i r):=by
 have h1:=h.lo hi z1 z2
 have hf:=pu3_frs w g (i*6) (.bool n) (.slice A l c) (.slice B m d)
 have h2:=h1.hi (i:=i) (a:=r.2) (by rw [List.length_set];exact hi) (z3.frs hf h.nd h.nd) (z4.frs hf h.nd h.nd)
 rwa [set_getD hi,List.set_set] at h2
end
end Go.Proofs.YtppggpfcdgilmaaGreat
namespace Go.Proofs.YtppggpfcdgilmaaGreat
open Go Go.RowKit
set_option maxHeartbeats 1000000 in
theorem complete_len {I:IntPred} (hI:IK I) (Af:Option Addr) (lf cf:Nat) (f:List Int) (A:Option Addr) (la ca:Nat) (w:World) (hf:PolyP I w Af lf cf f) (hl:f.length≤10) (h9:P9 f) (hn:(la:Int)≠nall f) :
  Calls Tryz.prog 25 #[.slice Af lf cf,.slice A la ca] w fun e w'=>e=.returned (.bool false)∧Below w.heap.size w w':=by
 have hlf:lf≤10:=by have:=hf.length;omega
 have HF:=Lib.hid hf
 clear hf
 go_enter Tryz.func25,Tryz.ntmps25
 go_wp2_with fail
 refine (all_q hI _ _ _ f _ HF.out h9 (by omega)).mono ?_
 rintro e w1 ⟨rfl,hb1⟩
 obtain ⟨NA,hNA⟩:∃ N,N=nall f:=⟨_,rfl⟩
 rw [← hNA] at hn ⊢
 have b1:((la:Int) != NA)=true:=by rw [bne_iff_ne];exact hn
 have Hb:=Lib.hid hb1
 clear hb1 hNA hn HF
 go_wp2_with fail
 go_ret
 exact ⟨rfl,Hb.out⟩
end Go.Proofs.YtppggpfcdgilmaaGreat
namespace Go.Proofs.YtppggpfcdgilmaaGreat
open Go Go.RowKit
theorem w2_atI (w:World):I64At (w.alloc (.cells #[.int .i64 (-2),.int .i64 0,.int .i64 1] 2)) (some ⟨w.heap.size,0,none⟩) 3 3 w2:=by
 refine ⟨rfl,by omega,.inr ⟨w.heap.size,0,rfl,by simp,fun j hj=>?_⟩⟩
 match j,hj with
 | 0,_=>simp [w2]
 | 1,_=>simp [w2]
 | 2,_=>simp [w2]
theorem w2_trimI:ptrim w2=w2:=by decide
set_option maxHeartbeats 1000000 in
theorem awake16_any (w:World) :
 Calls Tryz.prog 10 #[] w fun e w'=>e=.returned (.bool true)∧Below w.heap.size w w':=by
 have jb:=below_new w (.cells #[.int .i64 (-2),.int .i64 0,.int .i64 1] 2)
 have hat:=w2_atI w
 have Hb:=Lib.hid jb
 clear jb
 go_enter Tryz.func10,Tryz.ntmps10
 go_wp2_with fail
 refine (pof_any _ _ _ _ _ hat (by intro c hc;simp [w2] at hc;rcases hc with rfl | rfl | rfl<;>(unfold I64;omega)) (by omega)).mono ?_
 rintro e w1 ⟨A1,l1,c1,rfl,h1,hb1⟩
 rw [show ptrim w2=w2 from w2_trimI] at h1
 have hl1:l1≤3:=by have:=h1.length;have e:w2.length=3:=rfl;omega
 replace Hb:=Lib.hid (Hb.out.trans (hb1.mono Hb.out.size))
 have h9:=p9_w2
 clear hb1 hat
 go_wp2_with fail
 refine (roots_any ikN _ _ _ w2 _ h1 h9.cp.fit.smp (fun _=>h9.q) (fun h=>SqF.of9 h9 h) (by omega)).mono ?_
 rintro e w2' ⟨⟨A2,l2,c2,rfl,h2⟩,hb2⟩
 obtain rfl:l2=2:=by rw [← h2.length];exact proots_w2
 replace Hb:=Lib.hid (Hb.out.trans (hb2.mono Hb.out.size))
 clear hb2 h1 h2
 go_wp2
 go_ret
 exact ⟨rfl,Hb.out⟩
structure Quad (W:World) (g:Nat) (x0 x1 x2 x3:Int):Prop where
 c0:W.cell? ⟨g,0,none⟩=some (.int .i8 x0)
 c1:W.cell? ⟨g,1,none⟩=some (.int .i8 x1)
 c2:W.cell? ⟨g,2,none⟩=some (.int .i8 x2)
 c3:W.cell? ⟨g,3,none⟩=some (.int .i8 x3)
 lt:g<W.heap.size
theorem Quad.move {W W':World} {g:Nat} {x0 x1 x2 x3:Int} (h:Quad W g x0 x1 x2 x3) (hb:Below W.heap.size W W'):Quad W' g x0 x1 x2 x3 :=
 ⟨(hb.cell (p:=⟨g,0,none⟩) h.lt).trans h.c0,(hb.cell (p:=⟨g,1,none⟩) h.lt).trans h.c1,(hb.cell (p:=⟨g,2,none⟩) h.lt).trans h.c2,(hb.cell (p:=⟨g,3,none⟩) h.lt).trans h.c3,Nat.lt_of_lt_of_le h.lt hb.size⟩
theorem Quad.make (W:World) (x0 x1 x2 x3:Int) (t:TypeId):Quad (W.alloc (.cells #[.int .i8 x0,.int .i8 x1,.int .i8 x2,.int .i8 x3] t)) W.heap.size x0 x1 x2 x3:=⟨by go_simp,by go_simp,by go_simp,by go_simp,by simp⟩
end Go.Proofs.YtppggpfcdgilmaaGreat
namespace Go.Proofs.YtppggpfcdgilmaaGreat
open Go.RowKit
theorem new_below (w:World) (o:Obj):Below w.heap.size w (w.alloc o):=(Below.refl _ _).alloc (Nat.le_refl _) _
theorem Fit.smnat {a:Nat} (h:Fit (a:Int)):Sm a:=by
 have:=h.sm
 unfold SmI at this
 rw [Int.natAbs_natCast] at this
 exact this
set_option maxRecDepth 100000 in
set_option maxHeartbeats 8000000 in
theorem rsub_any (n:Bool) (A:Option Addr) (l c:Nat) (B:Option Addr) (m d q:Nat) (z:Int) (n':Bool) (A':Option Addr) (l' c':Nat) (B':Option Addr) (m' d' q':Nat) (z':Int) (w:World) (hz:IntN w n A l c z) (hq:NatN w B m d q) (hz':IntN w n' A' l' c' z') (hq':NatN w B' m' d' q') (fz:Fit z) (fq:Fit (q:Int)) (h0:0<q) (fz':Fit z') (fq':Fit (q':Int)) (h0':0<q') :
 Calls Tryz.prog 28 #[.agg #[.bool n,.slice A l c,.slice B m d],.agg #[.bool n',.slice A' l' c',.slice B' m' d']] w fun e w'=>RatE ((z*(q':Int)-z'*(q:Int)).tdiv (Nat.gcd (z*(q':Int)-z'*(q:Int)).natAbs (q*q'))) (q*q' / Nat.gcd (z*(q':Int)-z'*(q:Int)).natAbs (q*q')) e w'∧Below w.heap.size w w':=by
 have sq:=fq.smnat
 have sq':=fq'.smnat
 obtain ⟨S1,hS1⟩:∃ S1,S1=z*(q':Int):=⟨_,rfl⟩
 obtain ⟨S2,hS2⟩:∃ S2,S2=z'*(q:Int):=⟨_,rfl⟩
 obtain ⟨DD,hDD⟩:∃ DD,DD=q*q':=⟨_,rfl⟩
 have ss1:SmI S1:=by rw [hS1];exact fz.sm2 fq'
 have ss2:SmI S2:=by rw [hS2];exact fz'.sm2 fq
 have ssum:Sm (S1.natAbs+S2.natAbs):=by
  have a1:=fz.mul fq'
  have a2:=fz'.mul fq
  rw [← hS1] at a1
  rw [← hS2] at a2
  refine sm_pow (k:=FW+FW+1) ?_ (by rw [FW_eq];decide)
  have a3:2*BB^(FW+FW)<BB^(FW+FW+1):=mulpow_lt (by omega)
  omega
 have sS:SmI (S1-S2):=Sm.mono ssum (by omega)
 have sqq:SmI ((q:Int)*(q':Int)):=fq.sm2 fq'
 have sD:SmI (DD:Int):=by rw [hDD,Int.natCast_mul];exact sqq
 have hD0:0<DD:=by rw [hDD];exact Nat.mul_pos h0 h0'
 rw [← hS1,← hS2,← hDD]
 have HS1:=Lib.hid hS1
 have HS2:=Lib.hid hS2
 have HDD:=Lib.hid hDD
 clear hS1 hS2 hDD
 have o1:=new_below w (rbox n A l c B m d)
 have o2:=new_below (w.alloc (rbox n A l c B m d)) (rbox n' A' l' c' B' m' d')
 have o3:=new_below ((w.alloc (rbox n A l c B m d)).alloc (rbox n' A' l' c' B' m' d')) (rbox false none 0 0 none 0 0)
 have b3:Below w.heap.size w (((w.alloc (rbox n A l c B m d)).alloc (rbox n' A' l' c' B' m' d')).alloc (rbox false none 0 0 none 0 0)):=(o1.alloc (by simp) _).alloc (by simp;omega) _
 have R1:=((RBox.make hz hq).move o2).move o3
 have R2:=(RBox.make (hz'.below o1) (hq'.below o1)).move o3
 have R4:=RBox.nil ((w.alloc (rbox n A l c B m d)).alloc (rbox n' A' l' c' B' m' d'))
 simp only [World.size_alloc] at R2 R4
 replace R1:=Lib.hid R1
 replace R2:=Lib.hid R2
 replace R4:=Lib.hid R4
 have Hb:=Lib.hid b3
 clear o1 o2 o3 b3 hz hq hz' hq'
 go_enter Tryz.func28,Tryz.ntmps28
 go_wp2_with fail
 refine (parts_any _ _ _ _ _ _ _ _ _ R1.out.hq.at_ sq (by omega)).mono ?_
 rintro e w1 ⟨rfl,hb1⟩
 replace R1:=Lib.hid (R1.out.move hb1)
 replace R2:=Lib.hid (R2.out.move hb1)
 replace R4:=Lib.hid (R4.out.move hb1)
 replace Hb:=Lib.hid (Hb.out.trans (hb1.mono Hb.out.size))
 have lt4:w.heap.size+1+1<w1.heap.size:=R4.out.lt
 have x0:=R2.out.c0
 have x1:=R2.out.c1
 have x2:=R2.out.c2
 have ltx:w.heap.size+1<w1.heap.size:=by omega
 have lty:w.heap.size+1<w1.heap.size+1:=by omega
 clear hb1
 go_wp2_with fail
 have k1:=new_below w1 (ibox n A l c)
 have k2:=new_below (w1.alloc (ibox n A l c)) (ibox false B m d)
 have kb:Below w1.heap.size w1 ((w1.alloc (ibox n A l c)).alloc (ibox false B m d)):=k1.alloc (by simp) _
 have i5:=(IBox.make R1.out.hz).move k2
 have hqP:IntN w1 false B m d (q:Int):=⟨by rw [Int.natAbs_natCast];exact R1.out.hq,by simp⟩
 have i6:=IBox.make (hqP.below k1)
 simp only [World.size_alloc] at i6
 replace R2:=Lib.hid (R2.out.move kb)
 replace R4:=Lib.hid (R4.out.move kb)
 replace Hb:=Lib.hid (Hb.out.trans (kb.mono Hb.out.size))
 have I5:=Lib.hid i5
 have I6:=Lib.hid i6
 clear k1 k2 kb i5 i6 hqP R1 x0 x1 x2
 refine (parts_any _ _ _ _ _ _ _ _ _ R2.out.hq.at_ sq' (by omega)).mono ?_
 rintro e w2 ⟨rfl,hb2⟩
 have hsz2:=hb2.size
 simp only [World.size_alloc] at hsz2
 replace I5:=Lib.hid (I5.out.move hb2)
 replace I6:=Lib.hid (I6.out.move hb2)
 replace R2:=Lib.hid (R2.out.move hb2)
 replace R4:=Lib.hid (R4.out.move hb2)
 replace Hb:=Lib.hid (Hb.out.trans (hb2.mono Hb.out.size))
 have k1:=new_below w2 (ibox n' A' l' c')
 have k2:=new_below (w2.alloc (ibox n' A' l' c')) (ibox false B' m' d')
 have kb:Below w2.heap.size w2 ((w2.alloc (ibox n' A' l' c')).alloc (ibox false B' m' d')):=k1.alloc (by simp) _
 have i7:=(IBox.make R2.out.hz).move k2
 have hqP:IntN w2 false B' m' d' (q':Int):=⟨by rw [Int.natAbs_natCast];exact R2.out.hq,by simp⟩
 have i8:=IBox.make (hqP.below k1)
 simp only [World.size_alloc] at i8
 replace I5:=Lib.hid (I5.out.move kb)
 replace I6:=Lib.hid (I6.out.move kb)
 replace R4:=Lib.hid (R4.out.move kb)
 replace Hb:=Lib.hid (Hb.out.trans (kb.mono Hb.out.size))
 have I7:=Lib.hid i7
 have I8:=Lib.hid i8
 clear k1 k2 kb i7 i8 hqP R2 hb2
 obtain ⟨wc,hwc⟩:∃ wc,wc=(w2.alloc (ibox n' A' l' c')).alloc (ibox false B' m' d'):=⟨_,rfl⟩
 have hszc:wc.heap.size=w2.heap.size+1+1:=by rw [hwc];simp
 go_wp2_with fail
 rw [← hwc] at I5 I6 I7 I8 R4 Hb ⊢
 clear hwc
 obtain ⟨g4,hg4⟩:∃ g,g=w.heap.size+1+1:=⟨_,rfl⟩
 obtain ⟨g5,hg5⟩:∃ g,g=w1.heap.size:=⟨_,rfl⟩
 obtain ⟨g6,hg6⟩:∃ g,g=w1.heap.size+1:=⟨_,rfl⟩
 obtain ⟨g7,hg7⟩:∃ g,g=w2.heap.size:=⟨_,rfl⟩
 obtain ⟨g8,hg8⟩:∃ g,g=w2.heap.size+1:=⟨_,rfl⟩
 rw [← hg4] at R4
 rw [← hg5] at I5
 rw [← hg6] at I6
 rw [← hg7] at I7
 rw [← hg8] at I8
 rw [← hg4,← hg6,← hg5,← hg8,← hg7]
 have l4:g4<wc.heap.size:=by omega
 have l4w:w.heap.size<g4:=by omega
 have l5:g5<wc.heap.size:=by omega
 have l6:g6<wc.heap.size:=by omega
 have l7:g7<wc.heap.size:=by omega
 have l8:g8<wc.heap.size:=by omega
 clear hg4 hg5 hg6 hg7 hg8 hszc hsz2 lt4 ltx lty
 have a0:=I5.out.c0
 have a1:=I5.out.c1
 have b0:=I6.out.c0
 have b1:=I6.out.c1
 have d0:=I7.out.c0
 have d1:=I7.out.c1
 have e0:=I8.out.c0
 have e1:=I8.out.c1
 refine wp_region_last (S:=fun w'=>w'.cell? ⟨g5,0,none⟩=some (.bool n)∧w'.cell? ⟨g5,1,none⟩=some (.slice A l c)∧w'.cell? ⟨g6,0,none⟩=some (.bool false)∧w'.cell? ⟨g6,1,none⟩=some (.slice B m d)∧w'.cell? ⟨g7,0,none⟩=some (.bool n')∧w'.cell? ⟨g7,1,none⟩=some (.slice A' l' c')∧w'.cell? ⟨g8,0,none⟩=some (.bool false)∧w'.cell? ⟨g8,1,none⟩=some (.slice B' m' d')) (by kernel_rfl) (by kernel_rfl) (by (try dsimp only);go_keep) (fun hHeld=>?_)
 simp only [List.pop_toArray,List.dropLast]
 (refine tk (i:=0) (v:=?_) rfl rfl (Or.inl ⟨by rfl,?_⟩) ?_;rotate_left;(focus (intro w hSw;(try dsimp only at hSw);go_simp;(try with_reducible rfl)));(simp only [put_lit,List.set]))
 (refine tk (i:=1) (v:=?_) rfl rfl (Or.inl ⟨by rfl,?_⟩) ?_;rotate_left;(focus (intro w hSw;(try dsimp only at hSw);go_simp;(try with_reducible rfl)));(simp only [put_lit,List.set]))
 (refine tk (i:=3) (v:=?_) rfl rfl (Or.inl ⟨by rfl,?_⟩) ?_;rotate_left;(focus (intro w hSw;(try dsimp only at hSw);go_simp;(try with_reducible rfl)));(simp only [put_lit,List.set]))
 (refine tk (i:=4) (v:=?_) rfl rfl (Or.inl ⟨by rfl,?_⟩) ?_;rotate_left;(focus (intro w hSw;(try dsimp only at hSw);go_simp;(try with_reducible rfl)));(simp only [put_lit,List.set]))
 (refine tk (i:=7) (v:=?_) rfl rfl (Or.inl ⟨by rfl,?_⟩) ?_;rotate_left;(focus (intro w hSw;(try dsimp only at hSw);go_simp;(try with_reducible rfl)));(simp only [put_lit,List.set]))
 (refine tk (i:=8) (v:=?_) rfl rfl (Or.inl ⟨by rfl,?_⟩) ?_;rotate_left;(focus (intro w hSw;(try dsimp only at hSw);go_simp;(try with_reducible rfl)));(simp only [put_lit,List.set]))
 refine wpAnyH_ready (rs:=[2]) (by kernel_rfl) (by simp) ?_
 refine AllReadyH.cons rfl (fun K hK=>?_) AllReadyH.nil;go_simp
 refine (imul_any _ _ _ _ _ _ _ _ _ _ _ ?_ ?_ fz.sm fq'.sm (fz.mulok _)).mono ?_
 ·exact I5.out.hz.at_.below Bel.go
 ·exact I8.out.hz.at_.below Bel.go
 rintro e w10 ⟨n10,A10,l10,c10,rfl,h10,hb10⟩
 rw [← HS1.out] at h10
 obtain ⟨hcx,hfx⟩:=bcellS hb10
 replace I6:=Lib.hid (I6.out.move (Below.trans Bel.go (hb10.mono (by simp<;>omega))))
 replace I7:=Lib.hid (I7.out.move (Below.trans Bel.go (hb10.mono (by simp<;>omega))))
 replace I8:=Lib.hid (I8.out.move (Below.trans Bel.go (hb10.mono (by simp<;>omega))))
 replace R4:=Lib.hid (R4.out.move (Below.trans Bel.go (hb10.mono (by simp<;>omega))))
 replace Hb:=Lib.hid (Hb.out.trans ((Below.trans Bel.go (hb10.mono (by simp<;>omega))).mono Hb.out.size))
 have H10:=Lib.hid h10
 refine hK.out _ _ ?_ (fun _=>?_)
 ·((try dsimp only);repeat' apply And.intro)<;>(rw [hcx _ (by go_simp)];go_simp)
 clear hHeld hK K hcx hfx;rename_i hHeld
 clear h10 hb10
 refine wpAnyH_ready (rs:=[5]) (by kernel_rfl) (by simp) ?_
 refine AllReadyH.cons rfl (fun K hK=>?_) AllReadyH.nil;go_simp
 refine (imul_any _ _ _ _ _ _ _ _ _ _ _ ?_ ?_ fz'.sm fq.sm (fz'.mulok _)).mono ?_
 ·exact I7.out.hz.at_.below Bel.go
 ·exact I6.out.hz.at_.below Bel.go
 rintro e w11 ⟨n11,A11,l11,c11,rfl,h11,hb11⟩
 rw [← HS2.out] at h11
 obtain ⟨hcx,hfx⟩:=bcellS hb11
 replace I6:=Lib.hid (I6.out.move (Below.trans Bel.go (hb11.mono (by simp<;>omega))))
 replace I8:=Lib.hid (I8.out.move (Below.trans Bel.go (hb11.mono (by simp<;>omega))))
 replace R4:=Lib.hid (R4.out.move (Below.trans Bel.go (hb11.mono (by simp<;>omega))))
 replace Hb:=Lib.hid (Hb.out.trans ((Below.trans Bel.go (hb11.mono (by simp<;>omega))).mono Hb.out.size))
 replace H10:=Lib.hid (H10.out.below (Below.trans Bel.go (hb11.mono (by simp<;>omega))))
 have H11:=Lib.hid h11
 refine hK.out _ _ ?_ (fun _=>?_)
 ·((try dsimp only);repeat' apply And.intro)<;>(rw [hcx _ (by go_simp)];go_simp)
 clear hHeld hK K hcx hfx;rename_i hHeld
 clear h11 hb11
 refine wpAnyH_ready (rs:=[6]) (by kernel_rfl) (by simp) ?_
 refine AllReadyH.cons rfl (fun K hK=>?_) AllReadyH.nil;go_simp
 refine (isub_any _ _ _ _ S1 _ _ _ _ S2 _ (H10.out.at_.below Bel.go) (H11.out.at_.below Bel.go) ss1 ss2 ssum).mono ?_
 rintro e w12 ⟨n12,A12,l12,c12,rfl,h12,hb12⟩
 obtain ⟨hcx,hfx⟩:=bcellS hb12
 replace I6:=Lib.hid (I6.out.move (Below.trans Bel.go (hb12.mono (by simp<;>omega))))
 replace I8:=Lib.hid (I8.out.move (Below.trans Bel.go (hb12.mono (by simp<;>omega))))
 replace R4:=Lib.hid (R4.out.move (Below.trans Bel.go (hb12.mono (by simp<;>omega))))
 replace Hb:=Lib.hid (Hb.out.trans ((Below.trans Bel.go (hb12.mono (by simp<;>omega))).mono Hb.out.size))
 have H12:=Lib.hid h12
 refine hK.out _ _ ?_ (fun _=>?_)
 ·((try dsimp only);repeat' apply And.intro)<;>(rw [hcx _ (by go_simp)];go_simp)
 clear hHeld hK K hcx hfx;rename_i hHeld
 clear h12 hb12 H10 H11
 refine wpAnyH_ready (rs:=[9]) (by kernel_rfl) (by simp) ?_
 refine AllReadyH.cons rfl (fun K hK=>?_) AllReadyH.nil;go_simp
 refine (imul_any _ _ _ _ _ _ _ _ _ _ _ ?_ ?_ fq.sm fq'.sm (fq.mulok _)).mono ?_
 ·exact I6.out.hz.at_.below Bel.go
 ·exact I8.out.hz.at_.below Bel.go
 rintro e w13 ⟨n13,A13,l13,c13,rfl,h13,hb13⟩
 have e13:(q:Int)*(q':Int)=(DD:Int):=by rw [HDD.out,Int.natCast_mul]
 rw [e13] at h13
 obtain ⟨hcx,hfx⟩:=bcellS hb13
 replace R4:=Lib.hid (R4.out.move (Below.trans Bel.go (hb13.mono (by simp<;>omega))))
 replace Hb:=Lib.hid (Hb.out.trans ((Below.trans Bel.go (hb13.mono (by simp<;>omega))).mono Hb.out.size))
 replace H12:=Lib.hid (H12.out.below (Below.trans Bel.go (hb13.mono (by simp<;>omega))))
 have H13:=Lib.hid h13
 refine hK.out _ _ ?_ (fun _=>?_)
 ·((try dsimp only);repeat' apply And.intro)<;>(rw [hcx _ (by go_simp)];go_simp)
 clear hHeld hK K hcx hfx;rename_i hHeld
 clear h13 hb13 e13
 refine wpAnyH_ready (rs:=[10]) (by kernel_rfl) (by simp) ?_
 refine AllReadyH.cons rfl (fun K hK=>?_) AllReadyH.nil;go_simp
 refine (reduce_all _ _ _ _ (S1-S2) _ _ _ _ DD _ (H12.out.below Bel.go) (H13.out.below Bel.go) sS sD hD0).mono ?_
 rintro e w14 ⟨⟨n14,A14,l14,c14,B14,m14,d14,rfl,h14,k14⟩,hb14⟩
 obtain ⟨hcx,hfx⟩:=bcellS hb14
 have j4:=R4.out.move (Below.trans Bel.go (hb14.mono (by simp<;>omega)))
 have Jb2:=Lib.hid (Hb.out.trans ((Below.trans Bel.go (hb14.mono (by simp<;>omega))).mono Hb.out.size))
 refine hK.out _ _ ?_ (fun _=>?_)
 ·((try dsimp only);repeat' apply And.intro)<;>(rw [hcx _ (by go_simp)];go_simp)
 clear hHeld hK K hcx hfx;rename_i hHeld
 refine wpAnyH_done (by kernel_rfl) (lastQ_list rfl ?_) _
 have HP:=Lib.hid (j4.put h14 k14)
 have r0:=j4.c0
 have r1:=j4.c1
 have r2:=j4.c2
 have r3:=j4.f0
 have r4:=j4.f1
 have r5:=j4.f2
 clear hHeld j4 h14 k14 hb14 a0 a1 b0 b1 d0 d1 e0 e1
 go_wp2
 refine bodyPost_ret (v:=.agg #[.bool n14,.slice A14 l14 c14,.slice B14 m14 d14]) (by simp [results,Tryz.results28,go_sem,r0,r1,r2]) rfl ⟨⟨_,_,_,_,_,_,_,rfl,HP.out.hz,HP.out.hq⟩,?_⟩
 exact ((Jb2.out.setCell (p:=⟨g4,0,none⟩) (by simp;omega) _).setCell (p:=⟨g4,1,none⟩) (by simp;omega) _).setCell (p:=⟨g4,2,none⟩) (by simp;omega) _
end Go.Proofs.YtppggpfcdgilmaaGreat
namespace Go.Proofs.YtppggpfcdgilmaaGreat
open Go Go.RowKit
theorem own_empty (t:TypeId) (w:World):OwnE Nd 6 t w.heap.size (w.alloc (.cells #[] t)) (.slice (some ⟨w.heap.size,0,none⟩) 0 0) [] :=
 .inr ⟨w.heap.size,0,0,#[],rfl,Nat.le_refl _,rfl,Nat.le_refl _,fun j u hu=>by simp at hu,Blk.new w t _,rfl,fun j hj=>by omega⟩
theorem root_ndz:∀ j,j<6→Nd (rootZero.cells[j]!):=fun j hj=>by
 match j,hj with
 | 0,_=>exact nd_bool _
 | 1,_=>exact nd_slice _ _ _
 | 2,_=>exact nd_slice _ _ _
 | 3,_=>exact nd_bool _
 | 4,_=>exact nd_slice _ _ _
 | 5,_=>exact nd_slice _ _ _
theorem lay_two {α:Type} {R:α→List Value→Prop}:∀ {xs ys:List α} {us vs:List Value},Lay R xs us→Lay R ys vs→Lay R (xs ++ ys) (us ++ vs)
 | [],ys,us,vs,h,hy=>by rw [show us=[] from h];exact hy
 | x :: xs,ys,us,vs,⟨ws,us',h1,h2,h3⟩,hy=>⟨ws,us' ++ vs,h1,by rw [h2,List.append_assoc],lay_two h3 hy⟩
theorem own_lay {B:Nat} {t:TypeId} {w w':World} {v v':Value} {us vs:List Value} {xs ys:List (Fq×Fq)} (h:GrE Nd 6 t B w v us vs v' w') (hl:Lay (RtV w) xs us) (hy:Lay (RtV w) ys vs):Lay (RtV w') (xs ++ ys) (us ++ vs):=by
 have hm:∀ x vs,RtV w x vs→RtV w' x vs:=by
  rcases h.2 with ⟨g,n,n',cap,_,_,_,_,hc,hf⟩ | ⟨hb,_⟩
  ·exact fun x vs hx=>hx.frs hf (fun o u hu=>(hc o u hu).1) (fun o u hu=>(hc o u hu).1)
  ·exact fun x vs hx=>hx.below hb
 exact lay_two (hl.mono hm) (hy.mono hm)
theorem rts_nine {f:List Int} (h9:P9 f):(proots f).length≤9:=by
 by_cases h0:plen f=0
 ·rw [proots_nil h0];exact Nat.zero_le _
 ·obtain ⟨xs,h⟩:=rf_ex h9 h0
  have hp:plen f=(plen f-1)+1:=by omega
  have:=rts_le (plen f-1) f hp xs h.lst.1 (fun x hx=>(h.lst.2 x).1 hx)
  have:=h9.len
  rw [h.len]
  omega
theorem wpList_app_root {w:World} {ops:Array Oper} {rest:List Oper} {o:Oper} {a:Act} {Q:Exit→Act→World→Prop} (hgd:o.guard=none) (s x:Operand)
  (ho:o.op=.call { callee:=.builtin .append,args:=#[s,x],argTypes:=#[48,48] })
  (base:Nat) (v:Value) (us vs:List Value) (hs:a.eval s=v) (hown:OwnE Nd 6 38 base w v us) (hB:base≤w.heap.size)
  (ax:Addr) (m c:Nat) (hx:a.eval x=.slice (some ax) m c) (hvl:vs.length=m*6) (hxc:∀ (j:Nat) (u:Value),vs[j]?=some u→w.cell? (ax.add j)=some u) (hvn:∀ u∈vs,Nd u) (hm:0<m∨v≠.slice none 0 0) (hn:us.length+vs.length≤100000000)
  (dd:Nat) (hdd:o.dst=some dd) (h:∀ v' w',GrE Nd 6 38 base w v us vs v' w'→wpList Tryz.prog ops Q rest (a.put (some dd) v') w') :
  wpList Tryz.prog ops Q (o :: rest) a w:=by
 obtain ⟨i0,hi,hz0,hz1,hz2⟩:=info_parts info_root
 exact wpList_plain hgd fun _ hK'=>oper_append_own s x 48 38 ho 6 i0 rootZero Tryz.underlying48 hi hz0 hz1 (by rw [hz2];omega) rfl Nd (fun _ h=>h) root_ndz (by decide) base v us vs hs hown hB ax m c hx hvl hxc hvn hm hn dd hdd fun v' w' hg=>hK' _ _ (h v' w' hg)
theorem gre_some {B:Nat} {t:TypeId} {w w':World} {v v':Value} {us vs:List Value} (h:GrE Nd 6 t B w v us vs v' w'):v'≠.slice none 0 0:=by
 rcases h.2 with ⟨_,_,_,_,_,e,_⟩ | ⟨_,_,_,e⟩<;>rw [e]<;>intro h<;>cases h
structure Srx (w:World) (b off:Nat) (xs:List (Fq×Fq)) (vs:List Value):Prop where
 lay:Lay (RtV w) xs vs
 cells:∀ (j:Nat) (u:Value),vs[j]?=some u→w.cell? ⟨b,off+j,none⟩=some u
 lt:b<w.heap.size
theorem Srx.below {w w':World} {b off:Nat} {xs:List (Fq×Fq)} {vs:List Value} (h:Srx w b off xs vs) (hb:Below w.heap.size w w'):Srx w' b off xs vs :=
 ⟨h.lay.mono fun _ _ hx=>hx.below hb,fun j u hu=>(hb.cell (p:=⟨b,off+j,none⟩) h.lt).trans (h.cells j u hu),Nat.lt_of_lt_of_le h.lt hb.size⟩
theorem Srx.len {w:World} {b off:Nat} {xs:List (Fq×Fq)} {vs:List Value} (h:Srx w b off xs vs):vs.length=xs.length*6:=h.lay.len fun _ _ hx=>rtv_len hx
theorem srx_ex {w:World} {b off:Nat} {xs:List (Fq×Fq)} (hv:Vals w b off xs) (hb:b<w.heap.size):∃ vs,Srx w b off xs vs:=by
 obtain ⟨vs,h1,h2⟩:=vals_lay xs off hv
 exact ⟨vs,h1,h2,hb⟩
theorem addr_at {w:World} {b o:Nat} {vs:List Value} (h:∀ (j:Nat) (u:Value),vs[j]?=some u→w.cell? ⟨b,o+j,none⟩=some u):∀ (j:Nat) (u:Value),vs[j]?=some u→w.cell? ((⟨b,o,none⟩:Addr).add j)=some u:=fun j u hu=>by
 rw [Addr.add_lit];exact h j u hu
theorem gr_row {B t l:Nat} {w w':World} {v v':Value} {ve:List Value} {RS:List (Fq×Fq)} (hgr:GrE Nd 6 t B w v [] ve v' w') (hl:Lay (RtV w) RS ve) (hn:RS.length=l) (h0:l≠0):∃ g c,v'=.slice (some ⟨g,0,none⟩) l c∧l≤c∧RowR B w' g RS:=by
 subst hn
 have hl':Lay (RtV w') RS ([] ++ ve):=own_lay hgr (xs:=[]) rfl hl
 obtain ⟨A,n,c,e,h1,h2⟩:=hgr.1.len
 subst e
 obtain ⟨g,rfl,rfl,hr⟩:=own_row hgr.1 hl' (Nat.pos_of_ne_zero h0)
 exact ⟨g,c,rfl,h2,hr⟩
theorem fit_two:Fit ((2:Nat):Int):=zb_fit (z:=2) (Nat.le_trans (by decide) zb_128)
theorem moved_eq {RS:List (Fq×Fq)} {j:Nat} {a b q:Fq} (hj:j<RS.length):(RS.set j (a,q)).set j (((RS.set j (a,q)).getD j r00).1,b)=RS.set j (a,b):=by
 rw [set_getD hj,List.set_set]
theorem fq_set {RS:List (Fq×Fq)} {j:Nat} {a b:Fq} (h:∀ r∈RS,FqB r.1∧FqB r.2) (ha:FqB a) (hb:FqB b):∀ r∈RS.set j (a,b),FqB r.1∧FqB r.2:=fun r hr=>by
 rcases List.mem_or_eq_of_mem_set hr with h1 | h1
 ·exact h r h1
 ·rw [h1];exact ⟨ha,hb⟩
theorem sub_one_lt (q:Rat):q-((1:Nat):Rat)<q:=by grind
theorem fq_turn {RS:List (Fq×Fq)} {j k:Nat} (h:∀ r∈RS,FqB r.1∧FqB r.2) (hj:j<RS.length) (hk:k<RS.length):∀ r∈(RS.set j (RS.getD k r00)).set k (RS.getD j r00),FqB r.1∧FqB r.2:=fun r hr=>by
 rcases List.mem_or_eq_of_mem_set hr with h1 | h1
 ·rcases List.mem_or_eq_of_mem_set h1 with h2 | h2
  ·exact h r h2
  ·rw [h2];exact getD_fqb h hk
 ·rw [h1];exact getD_fqb h hj
theorem own_len {t B n:Nat} {w:World} {v:Value} {us:List Value} (h:OwnE Nd 6 t B w v us) (hl:us.length=n*6):∃ A c,v=.slice A n c:=by
 obtain ⟨A,m,c,e,h1,_⟩:=h.len
 exact ⟨A,c,by rw [e,show m=n by omega]⟩
theorem addr_or {w:World} {b o o8:Nat} {p:Prop} {vs:List Value} (q:o8=o∨p) (h:∀ (j:Nat) (u:Value),vs[j]?=some u→w.cell? ⟨b,o+j,none⟩=some u) (hp:p→vs.length=0):∀ (j:Nat) (u:Value),vs[j]?=some u→w.cell? ((⟨b,o8,none⟩:Addr).add j)=some u:=by
 rcases q with rfl | q
 ·exact addr_at h
 ·intro j u hu
  rw [List.length_eq_zero_iff.1 (hp q)] at hu
  simp at hu
set_option maxRecDepth 100000 in
set_option maxHeartbeats 16000000 in
theorem law_rejects (A:Option Addr) (la ca:Nat) (cs:List Int) (k:Nat) (w:World) (h:I16At w A la ca cs) (hlm:la≤9223372036854775807) (hk:k≤255) :
  Calls Tryz.prog 8 #[.slice A la ca,.int .u8 (k:Int)] w fun e w'=>e=.returned (.bool true)∧Below w.heap.size w w':=by
 obtain ⟨i0,hi,hz0,hz1,hz2⟩:=info_parts info_root
 have Hi:=Lib.hid h
 have F9:P9 (ptrim (cs.take 8)):=short_p9 h (by omega)
 obtain ⟨_,lF,tF,_⟩:=short_bd h 8
 obtain ⟨F,hF⟩:∃ F,F=ptrim (cs.take 8):=⟨_,rfl⟩
 rw [← hF] at F9 lF tF
 have HFe:=Lib.hid hF.symm
 have iw:IntKind.i64.wrap (k:Int)=(k:Int):=IntWalk.i64_in _ (by omega)
 clear h hF
 go_enter Tryz.func8,Tryz.ntmps8
 go_wp2_with fail
 refine (awake16_any _).mono ?_
 rintro e w1 ⟨rfl,hb1⟩
 replace Hi:=Lib.hid (Hi.out.below hb1)
 have Hb:=Lib.hid hb1
 clear hb1
 go_wp2_with fail
 refine (short_any _ _ _ 8 _ _ Hi.out (by omega) hlm).mono ?_
 rintro e w2 ⟨Af,lf,cf,rfl,h2f,hb2⟩
 rw [HFe.out] at h2f
 have hlf:lf≤8:=by have:=h2f.length;omega
 have HP:=Lib.hid h2f
 replace Hb:=Lib.hid (Hb.out.trans (hb2.mono Hb.out.size))
 clear hb2 h2f Hi
 go_wp2_with fail
 refine (roots_any ikN _ _ _ F _ HP.out F9.cp.fit.smp (fun _=>F9.q) (fun h=>SqF.of9 F9 h) (by omega)).mono ?_
 rintro e w3 ⟨⟨A3,l3,c3,rfl,h3⟩,hb3⟩
 have hn9:=rts_nine F9
 have hna:=(cmpl_roots F9).1
 have hfq:=proots_fqb F9
 obtain ⟨RS,hRS⟩:∃ R,R=proots F:=⟨_,rfl⟩
 rw [← hRS] at h3 hn9 hna hfq
 have HRS:=Lib.hid hRS
 have HNA:=Lib.hid hna
 have Hfq:=Lib.hid hfq
 have hrl:=h3.length
 have hcp:=h3.cap
 have hl9:l3≤9:=by omega
 have HR:=Lib.hid h3
 replace HP:=Lib.hid (HP.out.below ikN hb3)
 replace Hb:=Lib.hid (Hb.out.trans (hb3.mono Hb.out.size))
 clear h3 hb3 hRS hna hfq
 by_cases h0:l3=0
 ·subst h0
  have hn0:nall F=0:=by have:=HNA.out;omega
  go_wp2_with fail
  refine (complete_any ikN _ _ _ F none 0 0 [] _ HP.out (by omega) F9 ⟨rfl,Nat.le_refl _,.inl ⟨rfl,rfl,rfl⟩⟩ (fun r hr=>by cases hr) (by omega)).mono ?_
  rintro e w4 ⟨he,hb4⟩
  have he2:=he.get (show Cmpl F [] from ⟨by rw [hn0];rfl,fun k hk=>absurd hk (Nat.not_lt_zero _)⟩)
  subst he2
  replace HP:=Lib.hid (HP.out.below ikN hb4)
  replace Hb:=Lib.hid (Hb.out.trans (hb4.mono Hb.out.size))
  clear he hb4 HR
  have hn2:((2:Nat):Int)≠nall F:=by rw [hn0];decide
  have Hn2:=Lib.hid hn2
  clear hn2 hn0
  go_wp2_with fail
  refine (complete_len ikN _ _ _ F _ _ _ _ (HP.out.below ikN (below_new _ _)) (by omega) F9 Hn2.out).mono ?_
  rintro e w5 ⟨rfl,hb5⟩
  replace Hb:=Lib.hid (Hb.out.trans (((below_new _ _).trans (hb5.mono (by simp))).mono Hb.out.size))
  clear hb5
  go_wp2
  go_ret
  exact ⟨rfl,Hb.out⟩
 ·have Hp0:=Lib.hid (show plen F≠0 from fun e=>h0 (by rw [← hrl,HRS.out,proots_nil e];rfl))
  have g1:((l3:Int) == 0)=false:=by rw [beq_eq_false_iff_ne];omega
  have g2:(l3:Int)≠0:=by omega
  have hlt:k % RS.length<RS.length:=Nat.mod_lt _ (by omega)
  obtain ⟨j,hj⟩:∃ j,j=k % RS.length:=⟨_,rfl⟩
  have hjl:j<l3:=by rw [hj,← hrl];exact hlt
  have em:Int.tmod (k:Int) (l3:Int)=(j:Int):=by rw [hj,hrl];exact Int.ofNat_tmod _ _
  have i2:IntKind.i64.wrap (j:Int)=(j:Int):=IntWalk.i64_in _ (by omega)
  have i3:IntKind.i64.wrap ((j:Int)+1)=(j:Int)+1:=IntWalk.i64_in _ (by omega)
  have ja:(j:Int)<(l3:Int):=by omega
  have jb:(j:Int)+1≤(l3:Int):=by omega
  have hno1:((l3-1:Nat):Int)≠nall F:=by have:=HNA.out;omega
  have hno2:((l3+1:Nat):Int)≠nall F:=by have:=HNA.out;omega
  obtain ⟨b,o,rfl,hb0,hv⟩:=HR.out.vals (by omega)
  obtain ⟨va,sa⟩:=srx_ex (hv.take j) hb0
  obtain ⟨vb,sb⟩:=srx_ex (hv.drop (j+1)) hb0
  obtain ⟨vc,sc⟩:=srx_ex (hv.take (j+1)) hb0
  obtain ⟨vd,sd⟩:=srx_ex (hv.drop j) hb0
  obtain ⟨ve,se⟩:=srx_ex hv hb0
  have ea:va.length=j*6:=by rw [sa.len,List.length_take];omega
  have eb:vb.length=(l3-(j+1))*6:=by rw [sb.len,List.length_drop];omega
  have ec:vc.length=(j+1)*6:=by rw [sc.len,List.length_take];omega
  have ed:vd.length=(l3-j)*6:=by rw [sd.len,List.length_drop];omega
  have ee:ve.length=l3*6:=by rw [se.len];omega
  have SA:=Lib.hid sa;have SB:=Lib.hid sb;have SC:=Lib.hid sc;have SD:=Lib.hid sd;have SE:=Lib.hid se
  have EL:=Lib.hid (And.intro (And.intro ea eb) (And.intro (And.intro ec ed) ee))
  obtain ⟨n0,e0'⟩:∃ n0,w3.cell? ⟨b,o,none⟩=some (.bool n0):=by
   obtain ⟨n0,_,_,_,_,_,_,_,_,_,_,_,_,_,e0,_⟩:=hv.get (k:=0) (by omega)
   exact ⟨n0,by rwa [Nat.zero_mul,Nat.add_zero] at e0⟩
  have HV:=Lib.hid hv
  obtain ⟨wk,hwk⟩:∃ wk,wk=w3:=⟨_,rfl⟩
  rw [← hwk] at HP HR Hb SA SB SC SD SE HV hb0 e0' ⊢
  have hbB:=hb0
  clear sa sb sc sd se ea eb ec ed ee hv hwk hlt hj hb0
  have jc:j≤c3:=by omega
  have jd:j+1≤l3:=by omega
  have je:j+1≤c3:=by omega
  have jf:¬ c3=j:=by omega
  have ji:j≤l3:=by omega
  have jp:0<l3:=by omega
  have jg:(0:Int)≤(j:Int)+1:=by omega
  have jh:(j:Int)+1≤(c3:Int):=by omega
  go_upto_region 8 with (fail)
  go_cut [8] (fun s8 wx=>(∃ A c,s8=.slice A (l3-1) c)∧Below wk.heap.size wk wx)
  case first =>
   refine wp_region_held_drew (S:=fun w'=>w'.cell? ⟨b,o,none⟩=some (.bool n0)) (by kernel_rfl) (by (try dsimp only);go_keep) (fun hHeld=>?_)
   (refine tk (i:=1) (v:=?_) rfl rfl (Or.inl ⟨by rfl,?_⟩) ?_;rotate_left;(focus (intro w hSw;(try dsimp only at hSw);go_simp;(try with_reducible rfl)));(simp only [put_lit,List.set]))
   (refine tk (i:=2) (v:=?_) rfl rfl (Or.inl ⟨by rfl,?_⟩) ?_;rotate_left;(focus (intro w hSw;(try dsimp only at hSw);go_simp;(try with_reducible rfl)));(simp only [put_lit,List.set]))
   (refine tk (i:=3) (v:=?_) rfl rfl (Or.inl ⟨by rfl,?_⟩) ?_;rotate_left;(focus (intro w hSw;(try dsimp only at hSw);go_simp;(try with_reducible rfl)));(simp only [put_lit,List.set]))
   (refine tk (i:=5) (v:=?_) rfl rfl (Or.inl ⟨by rfl,?_⟩) ?_;rotate_left;(focus (intro w hSw;(try dsimp only at hSw);go_simp;(try with_reducible rfl)));(simp only [put_lit,List.set]))
   (refine tk (i:=6) (v:=?_) rfl rfl (Or.inl ⟨by rfl,?_⟩) ?_;rotate_left;(focus (intro w hSw;(try dsimp only at hSw);go_simp;(try with_reducible rfl)));(simp only [put_lit,List.set]))
   (refine tk (i:=7) (v:=?_) rfl rfl (Or.inl ⟨by rfl,?_⟩) ?_;rotate_left;(focus (intro w hSw;(try dsimp only at hSw);go_simp;(try with_reducible rfl)));(simp only [put_lit,List.set]))
   obtain ⟨o8,e8,q8⟩:∃ o8,(if c3=j+1 then (some ⟨b,o,none⟩:Option Addr) else some ⟨b,o+(j+1)*6,none⟩)=some ⟨b,o8,none⟩∧(o8=o+(j+1)*6∨l3=j+1):=by
    by_cases c:c3=j+1
    ·exact ⟨o,by rw [if_pos c],.inr (by omega)⟩
    ·exact ⟨_,by rw [if_neg c],.inl rfl⟩
   refine tk (i:=8) (v:=.slice (some ⟨b,o8,none⟩) (l3-(j+1)) (c3-(j+1))) rfl rfl (Or.inl ⟨by rfl,?_⟩) ?_
   ·intro w hSw
    (try dsimp only at hSw)
    go_simp
   (simp only [put_lit,List.set])
   refine wpAnyH_ready (rs:=[0]) (by kernel_rfl) (by simp) ?_;refine AllReadyH.cons rfl (fun K hK=>?_) AllReadyH.nil;go_simp;refine hK.out _ _ ?_ (fun _=>?_);(focus ((try dsimp only);go_keep));clear hHeld hK K;rename_i hHeld;(try (simp only [put_lit,List.set]))
   have o1:=(below_new wk (.cells #[] 38)).drew
   refine wpAnyH_ready (rs:=[4]) (by kernel_rfl) (by simp) ?_;refine AllReadyH.cons rfl (fun K hK=>?_) AllReadyH.nil;rw [if_pos (by rfl)];refine oper_append_own (.tmp 36) (.tmp 39) 48 38 rfl 6 i0 rootZero Tryz.underlying48 hi hz0 hz1 (by rw [hz2];omega) rfl Nd (fun _ h=>h) root_ndz (by decide) wk.heap.size _ [] va rfl (own_empty _ _) (by simp) ⟨b,o,none⟩ _ _ rfl (EL.out.1.1) (addr_at (SA.out.below o1).cells) (lay_nd SA.out.lay) (.inr (fun e=>by cases e)) (by rw [EL.out.1.1];simp;omega) 40 rfl ?_;intro v2 w9 hgr
   have hb9:=hgr.below (by simp);refine hK.out _ _ ?_ (fun _=>?_);(focus (((try dsimp only);repeat' apply And.intro)<;>(rw [hb9.cell hbB];go_simp)));clear hHeld hK K;rename_i hHeld;(try (simp only [put_lit,List.set]))
   have G9:=Lib.hid (o1.trans (hb9.mono (Nat.le_refl _)))
   have O9:=Lib.hid (And.intro hgr.1 (gre_some hgr))
   clear hgr hb9 o1
   refine wpAnyH_ready (rs:=[9]) (by kernel_rfl) (by simp) ?_;refine AllReadyH.cons rfl (fun K hK=>?_) AllReadyH.nil;rw [if_pos (by rfl)];refine oper_append_own (.tmp 40) (.tmp 44) 48 38 rfl 6 i0 rootZero Tryz.underlying48 hi hz0 hz1 (by rw [hz2];omega) rfl Nd (fun _ h=>h) root_ndz (by decide) wk.heap.size _ ([] ++ va) vb rfl (O9.out.1) (G9.out.size) ⟨b,o8,none⟩ _ _ rfl (EL.out.1.2) (addr_or q8 (SB.out.below G9.out).cells (by have:=EL.out.1.2;intro h;rw [h] at this;simpa using this)) (lay_nd SB.out.lay) (.inr O9.out.2) (by rw [List.nil_append,EL.out.1.1,EL.out.1.2];omega) 45 rfl ?_;intro v3 w10 hgr
   have hb10:=hgr.below G9.out.size;refine hK.out _ _ ?_ (fun _=>?_);(focus (((try dsimp only);repeat' apply And.intro)<;>(rw [hb10.cell hbB];go_simp)));clear hHeld hK K;rename_i hHeld;(try (simp only [put_lit,List.set]))
   obtain ⟨A8,c8,rfl⟩:=own_len (n:=l3-1) hgr.1 (by rw [List.nil_append,List.length_append,EL.out.1.1,EL.out.1.2];omega)
   have G10:=Lib.hid (G9.out.trans hb10)
   clear hgr hb10 O9 G9
   (refine tk (i:=10) (v:=?_) rfl rfl (Or.inl ⟨by rfl,?_⟩) ?_;rotate_left;(focus (intro w hSw;(try dsimp only at hSw);go_simp;(try with_reducible rfl)));(simp only [put_lit,List.set]))
   refine wpAnyH_done (by kernel_rfl) ?_ _
   go_wp2_with fail
   go_meet
   exact ⟨⟨A8,c8,rfl⟩,G10.out⟩
  case rest =>
   obtain ⟨⟨A8,c8,rfl⟩,hb8⟩:=hcut
   obtain ⟨wl,rfl⟩:∃ x,x=wc:=⟨_,rfl⟩
   have e1:wl.cell? ⟨b,o,none⟩=some (.bool n0):=(hb8.cell (p:=⟨b,o,none⟩) hbB).trans e0'
   have hbC:b<wl.heap.size:=Nat.lt_of_lt_of_le hbB hb8.size
   replace HP:=Lib.hid (HP.out.below ikN hb8)
   replace Hb:=Lib.hid (Hb.out.trans (hb8.mono Hb.out.size))
   replace SC:=Lib.hid (SC.out.below hb8)
   replace SD:=Lib.hid (SD.out.below hb8)
   replace SE:=Lib.hid (SE.out.below hb8)
   replace HV:=Lib.hid (HV.out.below hbB hb8)
   clear hb8 e0' SA SB HR hbB
   go_upto_region 9 with (fail)
   go_cut [9] (fun s9 wx=>(∃ A c,s9=.slice A (l3+1) c)∧Below wl.heap.size wl wx)
   case first =>
    refine wp_region_held_drew (S:=fun w'=>w'.cell? ⟨b,o,none⟩=some (.bool n0)) (by kernel_rfl) (by (try dsimp only);go_keep) (fun hHeld=>?_)
    (refine tk (i:=1) (v:=?_) rfl rfl (Or.inl ⟨by rfl,?_⟩) ?_;rotate_left;(focus (intro w hSw;(try dsimp only at hSw);go_simp;(try with_reducible rfl)));(simp only [put_lit,List.set]))
    (refine tk (i:=2) (v:=?_) rfl rfl (Or.inl ⟨by rfl,?_⟩) ?_;rotate_left;(focus (intro w hSw;(try dsimp only at hSw);go_simp;(try with_reducible rfl)));(simp only [put_lit,List.set]))
    (refine tk (i:=3) (v:=?_) rfl rfl (Or.inl ⟨by rfl,?_⟩) ?_;rotate_left;(focus (intro w hSw;(try dsimp only at hSw);go_simp;(try with_reducible rfl)));(simp only [put_lit,List.set]))
    (refine tk (i:=4) (v:=?_) rfl rfl (Or.inl ⟨by rfl,?_⟩) ?_;rotate_left;(focus (intro w hSw;(try dsimp only at hSw);go_simp;(try with_reducible rfl)));(simp only [put_lit,List.set]))
    (refine tk (i:=6) (v:=?_) rfl rfl (Or.inl ⟨by rfl,?_⟩) ?_;rotate_left;(focus (intro w hSw;(try dsimp only at hSw);go_simp;(try with_reducible rfl)));(simp only [put_lit,List.set]))
    (refine tk (i:=7) (v:=?_) rfl rfl (Or.inl ⟨by rfl,?_⟩) ?_;rotate_left;(focus (intro w hSw;(try dsimp only at hSw);go_simp;(try with_reducible rfl)));(simp only [put_lit,List.set]))
    (refine tk (i:=8) (v:=?_) rfl rfl (Or.inl ⟨by rfl,?_⟩) ?_;rotate_left;(focus (intro w hSw;(try dsimp only at hSw);go_simp;(try with_reducible rfl)));(simp only [put_lit,List.set]))
    refine wpAnyH_ready (rs:=[0]) (by kernel_rfl) (by simp) ?_;refine AllReadyH.cons rfl (fun K hK=>?_) AllReadyH.nil;go_simp;refine hK.out _ _ ?_ (fun _=>?_);(focus ((try dsimp only);go_keep));clear hHeld hK K;rename_i hHeld;(try (simp only [put_lit,List.set]))
    have o1:=(below_new wl (.cells #[] 38)).drew
    refine wpAnyH_ready (rs:=[5]) (by kernel_rfl) (by simp) ?_;refine AllReadyH.cons rfl (fun K hK=>?_) AllReadyH.nil;rw [if_pos (by rfl)];refine oper_append_own (.tmp 46) (.tmp 50) 48 38 rfl 6 i0 rootZero Tryz.underlying48 hi hz0 hz1 (by rw [hz2];omega) rfl Nd (fun _ h=>h) root_ndz (by decide) wl.heap.size _ [] vc rfl (own_empty _ _) (by simp) ⟨b,o,none⟩ _ _ rfl (EL.out.2.1.1) (addr_at (SC.out.below o1).cells) (lay_nd SC.out.lay) (.inr (fun e=>by cases e)) (by rw [EL.out.2.1.1];simp;omega) 51 rfl ?_;intro v2 w9 hgr
    have hb9:=hgr.below (by simp);refine hK.out _ _ ?_ (fun _=>?_);(focus (((try dsimp only);repeat' apply And.intro)<;>(rw [hb9.cell hbC];go_simp)));clear hHeld hK K;rename_i hHeld;(try (simp only [put_lit,List.set]))
    have G9:=Lib.hid (o1.trans (hb9.mono (Nat.le_refl _)))
    have O9:=Lib.hid (And.intro hgr.1 (gre_some hgr))
    clear hgr hb9 o1
    refine wpAnyH_ready (rs:=[9]) (by kernel_rfl) (by simp) ?_;refine AllReadyH.cons rfl (fun K hK=>?_) AllReadyH.nil;rw [if_pos (by rfl)];refine oper_append_own (.tmp 51) (.tmp 54) 48 38 rfl 6 i0 rootZero Tryz.underlying48 hi hz0 hz1 (by rw [hz2];omega) rfl Nd (fun _ h=>h) root_ndz (by decide) wl.heap.size _ ([] ++ vc) vd rfl (O9.out.1) (G9.out.size) ⟨b,o+j*6,none⟩ _ _ rfl (EL.out.2.1.2) (addr_at (SD.out.below G9.out).cells) (lay_nd SD.out.lay) (.inr O9.out.2) (by rw [List.nil_append,EL.out.2.1.1,EL.out.2.1.2];omega) 55 rfl ?_;intro v3 w10 hgr
    have hb10:=hgr.below G9.out.size;refine hK.out _ _ ?_ (fun _=>?_);(focus (((try dsimp only);repeat' apply And.intro)<;>(rw [hb10.cell hbC];go_simp)));clear hHeld hK K;rename_i hHeld;(try (simp only [put_lit,List.set]))
    obtain ⟨A9,c9,rfl⟩:=own_len (n:=l3+1) hgr.1 (by rw [List.nil_append,List.length_append,EL.out.2.1.1,EL.out.2.1.2];omega)
    have G10:=Lib.hid (G9.out.trans hb10)
    clear hgr hb10 O9 G9
    (refine tk (i:=10) (v:=?_) rfl rfl (Or.inl ⟨by rfl,?_⟩) ?_;rotate_left;(focus (intro w hSw;(try dsimp only at hSw);go_simp;(try with_reducible rfl)));(simp only [put_lit,List.set]))
    refine wpAnyH_done (by kernel_rfl) ?_ _
    go_wp2_with fail
    go_meet
    exact ⟨⟨A9,c9,rfl⟩,G10.out⟩
   case rest =>
    obtain ⟨⟨A9,c9,rfl⟩,hb9⟩:=hcut
    obtain ⟨wm,rfl⟩:∃ x,x=wc:=⟨_,rfl⟩
    have hbM:b<wm.heap.size:=Nat.lt_of_lt_of_le hbC hb9.size
    replace HP:=Lib.hid (HP.out.below ikN hb9)
    replace Hb:=Lib.hid (Hb.out.trans (hb9.mono Hb.out.size))
    replace SE:=Lib.hid (SE.out.below hb9)
    replace HV:=Lib.hid (HV.out.below hbC hb9)
    clear hb9 e1 SC SD hbC
    have o1:=below_new wm (.cells #[] 38)
    have O1:=Lib.hid o1
    have S1:=Lib.hid (SE.out.below o1)
    clear o1
    go_wp2_with (at_builtin;refine wpList_app_root rfl (.tmp 56) (.tmp 57) rfl wm.heap.size _ [] ve rfl (own_empty _ _) (by simp) ⟨b,o,none⟩ _ _ rfl EL.out.2.2 (addr_at S1.out.cells) (lay_nd S1.out.lay) (.inr (fun e=>by cases e)) (by rw [EL.out.2.2];simp;omega) 58 rfl ?_)
    intro v' W011 hgr
    obtain ⟨gm,cm,rfl,hcm,hrm⟩:=gr_row hgr S1.out.lay hrl h0
    have f0:FqB (RS.getD 0 r00).1:=by
     rw [List.getD_eq_getElem?_getD,List.getElem?_eq_getElem (show 0<RS.length by omega)]
     exact (Hfq.out _ (List.getElem_mem _)).1
    have RW:=Lib.hid hrm
    have GW:=Lib.hid (O1.out.trans (hgr.below (by simp)))
    clear hgr hrm O1 S1
    go_upto_region 11 with (fail)
    obtain ⟨wn,hwn⟩:∃ x,x=W011:=⟨_,rfl⟩
    rw [← hwn] at RW GW ⊢
    clear hwn
    obtain ⟨n0,A0,l0,c0,B0,m0,d0,_,_,_,_,_,_,_,x0,x1,x2,_,_,_,z0,q0,_,_⟩:=(HV.out.below hbM GW.out).get (k:=0) (by omega)
    rw [Nat.zero_mul,Nat.add_zero] at x0 x1 x2
    have Z0:=Lib.hid (And.intro z0 q0)
    clear z0 q0
    have lB:b<wn.heap.size:=Nat.lt_of_lt_of_le hbM GW.out.size
    go_cut [] (fun wx=>RowR wm.heap.size wx gm (RS.set j (subn (RS.getD 0 r00).1 2,(RS.getD j r00).2))∧Below wm.heap.size wm wx)
    case first =>
     refine wp_region_lastT (S:=fun w'=>w'.cell? ⟨b,o,none⟩=some (.bool n0)∧w'.cell? ⟨b,o+1,none⟩=some (.slice A0 l0 c0)∧w'.cell? ⟨b,o+2,none⟩=some (.slice B0 m0 d0)) (by kernel_rfl) (by kernel_rfl) (by (try dsimp only);go_keep) (fun hHeld=>?_)
     simp only [List.pop_toArray,List.dropLast]
     (refine tk (i:=0) (v:=?_) rfl rfl (Or.inl ⟨by rfl,?_⟩) ?_;rotate_left;(focus (intro w hSw;(try dsimp only at hSw);go_simp;(try with_reducible rfl)));(simp only [put_lit,List.set]))
     (refine tk (i:=1) (v:=?_) rfl rfl (Or.inl ⟨by rfl,?_⟩) ?_;rotate_left;(focus (intro w hSw;(try dsimp only at hSw);go_simp;(try with_reducible rfl)));(simp only [put_lit,List.set]))
     (refine tk (i:=2) (v:=?_) rfl rfl (Or.inl ⟨by rfl,?_⟩) ?_;rotate_left;(focus (intro w hSw;(try dsimp only at hSw);go_simp;(try with_reducible rfl)));(simp only [put_lit,List.set]))
     (refine tk (i:=3) (v:=?_) rfl rfl (Or.inl ⟨by rfl,?_⟩) ?_;rotate_left;(focus (intro w hSw;(try dsimp only at hSw);go_simp;(try with_reducible rfl)));(simp only [put_lit,List.set]))
     (refine tk (i:=4) (v:=?_) rfl rfl (Or.inl ⟨by rfl,?_⟩) ?_;rotate_left;(focus (intro w hSw;(try dsimp only at hSw);go_simp;(try with_reducible rfl)));(simp only [put_lit,List.set]))
     (refine tk (i:=5) (v:=?_) rfl rfl (Or.inl ⟨by rfl,?_⟩) ?_;rotate_left;(focus (intro w hSw;(try dsimp only at hSw);go_simp;(try with_reducible rfl)));(simp only [put_lit,List.set]))
     (refine wpAnyH_ready (rs:=[6]) (by kernel_rfl) (by simp) ?_;refine AllReadyH.cons rfl (fun K hK=>?_) AllReadyH.nil;go_simp)
     refine (rof_any 2 _ (by unfold I64;omega)).mono ?_
     rintro e w5 ⟨⟨n5,A5,l5,c5,B5,m5,d5,rfl,h5,k5⟩,hb5⟩
     have hbz:Below wn.heap.size wn w5:=(Below.trans Bel.go (hb5.mono (by simp<;>omega)))
     replace RW:=Lib.hid (RW.out.below hbz)
     replace GW:=Lib.hid (GW.out.trans (hbz.mono GW.out.size))
     replace Z0:=Lib.hid (And.intro (Z0.out.1.below hbz) (Z0.out.2.below hbz))
     have H5:=Lib.hid (And.intro h5 k5)
     clear hbz h5 k5
     obtain ⟨hcx,hfx⟩:=bcellS hb5;refine hK.out _ _ ?_ (fun _=>?_);(focus (((try dsimp only);repeat' apply And.intro)<;>(rw [hcx _ (by go_simp)];go_simp)));clear hHeld hK K hcx hfx;rename_i hHeld;clear hb5
     (refine wpAnyH_ready (rs:=[7]) (by kernel_rfl) (by simp) ?_;refine AllReadyH.cons rfl (fun K hK=>?_) AllReadyH.nil;go_simp)
     refine (rsub_any _ _ _ _ _ _ _ _ _ _ _ _ _ _ _ _ _ _ _ (Z0.out.1.below Bel.go) (Z0.out.2.below Bel.go) (H5.out.1.below Bel.go) (H5.out.2.below Bel.go) f0.fz f0.fq f0.p fit_two fit_onen Nat.one_pos).mono ?_
     rintro e w6 ⟨⟨n6,A6,l6,c6,B6,m6,d6,rfl,h6,k6⟩,hb6⟩
     have hbz:Below w5.heap.size w5 w6:=(Below.trans Bel.go (hb6.mono (by simp<;>omega)))
     replace RW:=Lib.hid (RW.out.below hbz)
     replace GW:=Lib.hid (GW.out.trans (hbz.mono GW.out.size))
     have H6:=Lib.hid (And.intro h6 k6)
     clear hbz h6 k6 Z0 H5
     obtain ⟨hcx,hfx⟩:=bcellS hb6;refine hK.out _ _ ?_ (fun _=>?_);(focus (((try dsimp only);repeat' apply And.intro)<;>(rw [hcx _ (by go_simp)];go_simp)));clear hHeld hK K hcx hfx;rename_i hHeld;clear hb6
     (refine tk (i:=8) (v:=?_) rfl rfl (Or.inl ⟨by rfl,?_⟩) ?_;rotate_left;(focus (intro w hSw;(try dsimp only at hSw);go_simp;(try with_reducible rfl)));(simp only [put_lit,List.set]))
     (refine tk (i:=9) (v:=?_) rfl rfl (Or.inl ⟨by rfl,?_⟩) ?_;rotate_left;(focus (intro w hSw;(try dsimp only at hSw);go_simp;(try with_reducible rfl)));(simp only [put_lit,List.set]))
     refine wpAnyH_done (by kernel_rfl) (lastQ_list rfl ?_) _
     clear hHeld x0 x1 x2
     obtain ⟨n1,A1,l1,c1,B1,m1,d1,n2,A2,l2,c2,B2,m2,d2,y0,y1,y2,y3,y4,y5,_⟩:=RW.out.get (i:=j) (by omega)
     have r0:=RW.out.fr (j*6);have r1:=RW.out.fr (j*6+1);have r2:=RW.out.fr (j*6+2);have r3:=RW.out.fr (j*6+3);have r4:=RW.out.fr (j*6+4);have r5:=RW.out.fr (j*6+5)
     go_wp2_with fail
     go_meet
     exact ⟨RW.out.lo (by omega) H6.out.1 H6.out.2,(pu3_frs w6 gm (j*6) _ _ _).mono GW.out RW.out.base RW.out.base GW.out.size⟩
    case rest =>
     obtain ⟨hr11,hb11⟩:=hcut
     obtain ⟨W012,rfl⟩:∃ x,x=wc:=⟨_,rfl⟩
     clear RW GW lB x0 x1 x2 Z0
     have RW:=Lib.hid hr11
     have GW:=Lib.hid hb11
     clear hr11 hb11
     go_upto_region 12 with (fail)
     obtain ⟨wn,hwn⟩:∃ x,x=W012:=⟨_,rfl⟩
     rw [← hwn] at RW GW ⊢
     clear hwn
     obtain ⟨n0,A0,l0,c0,B0,m0,d0,_,_,_,_,_,_,_,x0,x1,x2,_,_,_,z0,q0,_,_⟩:=(HV.out.below hbM GW.out).get (k:=0) (by omega)
     rw [Nat.zero_mul,Nat.add_zero] at x0 x1 x2
     have Z0:=Lib.hid (And.intro z0 q0)
     clear z0 q0
     have lB:b<wn.heap.size:=Nat.lt_of_lt_of_le hbM GW.out.size
     go_cut [] (fun wx=>RowR wm.heap.size wx gm ((RS.set j (subn (RS.getD 0 r00).1 2,(RS.getD j r00).2)).set j (((RS.set j (subn (RS.getD 0 r00).1 2,(RS.getD j r00).2)).getD j r00).1,subn (RS.getD 0 r00).1 1))∧Below wm.heap.size wm wx)
     case first =>
      refine wp_region_lastT (S:=fun w'=>w'.cell? ⟨b,o,none⟩=some (.bool n0)∧w'.cell? ⟨b,o+1,none⟩=some (.slice A0 l0 c0)∧w'.cell? ⟨b,o+2,none⟩=some (.slice B0 m0 d0)) (by kernel_rfl) (by kernel_rfl) (by (try dsimp only);go_keep) (fun hHeld=>?_)
      simp only [List.pop_toArray,List.dropLast]
      (refine tk (i:=0) (v:=?_) rfl rfl (Or.inl ⟨by rfl,?_⟩) ?_;rotate_left;(focus (intro w hSw;(try dsimp only at hSw);go_simp;(try with_reducible rfl)));(simp only [put_lit,List.set]))
      (refine tk (i:=1) (v:=?_) rfl rfl (Or.inl ⟨by rfl,?_⟩) ?_;rotate_left;(focus (intro w hSw;(try dsimp only at hSw);go_simp;(try with_reducible rfl)));(simp only [put_lit,List.set]))
      (refine tk (i:=2) (v:=?_) rfl rfl (Or.inl ⟨by rfl,?_⟩) ?_;rotate_left;(focus (intro w hSw;(try dsimp only at hSw);go_simp;(try with_reducible rfl)));(simp only [put_lit,List.set]))
      (refine tk (i:=3) (v:=?_) rfl rfl (Or.inl ⟨by rfl,?_⟩) ?_;rotate_left;(focus (intro w hSw;(try dsimp only at hSw);go_simp;(try with_reducible rfl)));(simp only [put_lit,List.set]))
      (refine tk (i:=4) (v:=?_) rfl rfl (Or.inl ⟨by rfl,?_⟩) ?_;rotate_left;(focus (intro w hSw;(try dsimp only at hSw);go_simp;(try with_reducible rfl)));(simp only [put_lit,List.set]))
      (refine tk (i:=5) (v:=?_) rfl rfl (Or.inl ⟨by rfl,?_⟩) ?_;rotate_left;(focus (intro w hSw;(try dsimp only at hSw);go_simp;(try with_reducible rfl)));(simp only [put_lit,List.set]))
      (refine wpAnyH_ready (rs:=[6]) (by kernel_rfl) (by simp) ?_;refine AllReadyH.cons rfl (fun K hK=>?_) AllReadyH.nil;go_simp)
      refine (rof_any 1 _ (by unfold I64;omega)).mono ?_
      rintro e w5 ⟨⟨n5,A5,l5,c5,B5,m5,d5,rfl,h5,k5⟩,hb5⟩
      have hbz:Below wn.heap.size wn w5:=(Below.trans Bel.go (hb5.mono (by simp<;>omega)))
      replace RW:=Lib.hid (RW.out.below hbz)
      replace GW:=Lib.hid (GW.out.trans (hbz.mono GW.out.size))
      replace Z0:=Lib.hid (And.intro (Z0.out.1.below hbz) (Z0.out.2.below hbz))
      have H5:=Lib.hid (And.intro h5 k5)
      clear hbz h5 k5
      obtain ⟨hcx,hfx⟩:=bcellS hb5;refine hK.out _ _ ?_ (fun _=>?_);(focus (((try dsimp only);repeat' apply And.intro)<;>(rw [hcx _ (by go_simp)];go_simp)));clear hHeld hK K hcx hfx;rename_i hHeld;clear hb5
      (refine wpAnyH_ready (rs:=[7]) (by kernel_rfl) (by simp) ?_;refine AllReadyH.cons rfl (fun K hK=>?_) AllReadyH.nil;go_simp)
      refine (rsub_any _ _ _ _ _ _ _ _ _ _ _ _ _ _ _ _ _ _ _ (Z0.out.1.below Bel.go) (Z0.out.2.below Bel.go) (H5.out.1.below Bel.go) (H5.out.2.below Bel.go) f0.fz f0.fq f0.p fit_one fit_onen Nat.one_pos).mono ?_
      rintro e w6 ⟨⟨n6,A6,l6,c6,B6,m6,d6,rfl,h6,k6⟩,hb6⟩
      have hbz:Below w5.heap.size w5 w6:=(Below.trans Bel.go (hb6.mono (by simp<;>omega)))
      replace RW:=Lib.hid (RW.out.below hbz)
      replace GW:=Lib.hid (GW.out.trans (hbz.mono GW.out.size))
      have H6:=Lib.hid (And.intro h6 k6)
      clear hbz h6 k6 Z0 H5
      obtain ⟨hcx,hfx⟩:=bcellS hb6;refine hK.out _ _ ?_ (fun _=>?_);(focus (((try dsimp only);repeat' apply And.intro)<;>(rw [hcx _ (by go_simp)];go_simp)));clear hHeld hK K hcx hfx;rename_i hHeld;clear hb6
      (refine tk (i:=8) (v:=?_) rfl rfl (Or.inl ⟨by rfl,?_⟩) ?_;rotate_left;(focus (intro w hSw;(try dsimp only at hSw);go_simp;(try with_reducible rfl)));(simp only [put_lit,List.set]))
      (refine tk (i:=9) (v:=?_) rfl rfl (Or.inl ⟨by rfl,?_⟩) ?_;rotate_left;(focus (intro w hSw;(try dsimp only at hSw);go_simp;(try with_reducible rfl)));(simp only [put_lit,List.set]))
      refine wpAnyH_done (by kernel_rfl) (lastQ_list rfl ?_) _
      clear hHeld x0 x1 x2
      obtain ⟨n1,A1,l1,c1,B1,m1,d1,n2,A2,l2,c2,B2,m2,d2,y0,y1,y2,y3,y4,y5,_⟩:=RW.out.get (i:=j) (by rw [List.length_set];omega)
      have r0:=RW.out.fr (j*6);have r1:=RW.out.fr (j*6+1);have r2:=RW.out.fr (j*6+2);have r3:=RW.out.fr (j*6+3);have r4:=RW.out.fr (j*6+4);have r5:=RW.out.fr (j*6+5)
      go_wp2_with fail
      go_meet
      exact ⟨RW.out.hi (by rw [List.length_set];omega) H6.out.1 H6.out.2,(pu3_frs w6 gm (j*6+3) _ _ _).mono GW.out RW.out.base RW.out.base GW.out.size⟩
     case rest =>
      obtain ⟨hr12,hb12⟩:=hcut
      obtain ⟨W013,rfl⟩:∃ x,x=wc:=⟨_,rfl⟩
      clear RW GW lB x0 x1 x2 Z0
      rw [moved_eq (show j<RS.length by omega)] at hr12
      have hls:(RS.set j (subn (RS.getD 0 r00).1 2,subn (RS.getD 0 r00).1 1)).length=l3:=by rw [List.length_set];exact hrl
      have hrt:=hr12.rts (c:=cm) (by omega)
      rw [hls] at hrt
      have HT:=Lib.hid hrt
      replace HP:=Lib.hid (HP.out.below ikN hb12)
      replace Hb:=Lib.hid (Hb.out.trans (hb12.mono Hb.out.size))
      replace SE:=Lib.hid (SE.out.below hb12)
      replace HV:=Lib.hid (HV.out.below hbM hb12)
      have hbN:b<W013.heap.size:=Nat.lt_of_lt_of_le hbM hb12.size
      clear hr12 hb12 hrt hls hbM hcm
      have Hno:=Lib.hid (And.intro hno1 hno2)
      clear hno1 hno2
      go_upto_region 13 with (fail)
      obtain ⟨wn,hwn⟩:∃ x,x=W013:=⟨_,rfl⟩
      rw [← hwn] at HP Hb SE HV hbN HT ⊢
      clear hwn
      go_wp2_with fail
      refine (complete_len ikN _ _ _ F _ _ _ _ HP.out (by omega) F9 Hno.out.1).mono ?_
      rintro e w5 ⟨rfl,hbz⟩
      replace HP:=Lib.hid (HP.out.below ikN hbz);replace Hb:=Lib.hid (Hb.out.trans (hbz.mono Hb.out.size));replace SE:=Lib.hid (SE.out.below hbz);replace HV:=Lib.hid (HV.out.below hbN hbz);replace HT:=Lib.hid (HT.out.below hbz);replace hbN:=Nat.lt_of_lt_of_le hbN hbz.size;clear hbz
      go_wp2_with fail
      refine (complete_len ikN _ _ _ F _ _ _ _ HP.out (by omega) F9 Hno.out.2).mono ?_
      rintro e w6 ⟨rfl,hbz⟩
      replace HP:=Lib.hid (HP.out.below ikN hbz);replace Hb:=Lib.hid (Hb.out.trans (hbz.mono Hb.out.size));replace SE:=Lib.hid (SE.out.below hbz);replace HV:=Lib.hid (HV.out.below hbN hbz);replace HT:=Lib.hid (HT.out.below hbz);replace hbN:=Nat.lt_of_lt_of_le hbN hbz.size;clear hbz
      go_wp2_with fail
      refine (complete_any ikN _ _ _ F _ _ _ _ _ HP.out (by omega) F9 HT.out (fq_set Hfq.out (HRS.out ▸ subn_fq (by omega) F9 Hp0.out (HRS.out ▸ (show 0<RS.length by omega))) (HRS.out ▸ subn_fq (by omega) F9 Hp0.out (HRS.out ▸ (show 0<RS.length by omega)))) (by omega)).mono ?_
      rintro e w7 ⟨he,hbz⟩
      have he2:=he.not (by
       rw [HRS.out]
       have f1:FqB ((proots F).getD 0 r00).1:=HRS.out ▸ f0
       exact moved_no F9 (HRS.out ▸ (show j<RS.length by omega)) (subn_fq (n:=2) (by omega) F9 Hp0.out (HRS.out ▸ (show 0<RS.length by omega))).p (subn_fq (n:=1) (by omega) F9 Hp0.out (HRS.out ▸ (show 0<RS.length by omega))).p (by rw [subn_v f1.p];exact sub_one_lt _))
      subst he2
      clear he
      replace HP:=Lib.hid (HP.out.below ikN hbz);replace Hb:=Lib.hid (Hb.out.trans (hbz.mono Hb.out.size));replace SE:=Lib.hid (SE.out.below hbz);replace HV:=Lib.hid (HV.out.below hbN hbz);replace HT:=Lib.hid (HT.out.below hbz);replace hbN:=Nat.lt_of_lt_of_le hbN hbz.size;clear hbz
      clear HT Hno
      by_cases hl:j+1<l3
      ·have hli:(j:Int)+1<(l3:Int):=by omega
       have O1:=Lib.hid (below_new w7 (.cells #[] 38))
       have S1:=Lib.hid (SE.out.below O1.out)
       go_wp2_with (at_builtin;refine wpList_app_root rfl (.tmp 97) (.tmp 98) rfl w7.heap.size _ [] ve rfl (own_empty _ _) (by simp) ⟨b,o,none⟩ _ _ rfl EL.out.2.2 (addr_at S1.out.cells) (lay_nd S1.out.lay) (.inr (fun e=>by cases e)) (by rw [EL.out.2.2];simp;omega) 99 rfl ?_)
       intro v' W017 hgr
       obtain ⟨g2,c2,rfl,hc2,hr2⟩:=gr_row hgr S1.out.lay hrl h0
       have RW:=Lib.hid hr2
       have GW:=Lib.hid (O1.out.trans (hgr.below (by simp)))
       clear hgr hr2 O1 S1
       go_upto_region 17 with (fail)
       obtain ⟨n3,A3,l3',c3',B3,m3,d3,n4,A4,l4,c4,B4,m4,d4,x0,x1,x2,x3,x4,x5,z1,z2,z3,z4⟩:=(HV.out.below hbN GW.out).get (k:=j+1) (by omega)
       obtain ⟨n1,A1,l1,c1,B1,m1,d1,n2,A2,l2,c2',B2,m2,d2,y0,y1,y2,y3,y4,y5,_⟩:=RW.out.get (i:=j) (by omega)
       have r0:=RW.out.fr (j*6);have r1:=RW.out.fr (j*6+1);have r2:=RW.out.fr (j*6+2);have r3:=RW.out.fr (j*6+3);have r4:=RW.out.fr (j*6+4);have r5:=RW.out.fr (j*6+5)
       have HZ:=Lib.hid (And.intro (And.intro z1 z2) (And.intro z3 z4))
       clear z1 z2 z3 z4
       go_cut [] (fun wx=>RowR w7.heap.size wx g2 (RS.set j (RS.getD (j+1) r00))∧Below w7.heap.size w7 wx)
       case first =>
        go_wp2_with fail
        go_meet
        exact ⟨RW.out.all (by omega) HZ.out.1.1 HZ.out.1.2 HZ.out.2.1 HZ.out.2.2,(pu3_frs _ g2 (j*6+3) _ _ _).mono ((pu3_frs _ g2 (j*6) _ _ _).mono GW.out RW.out.base RW.out.base GW.out.size) RW.out.base RW.out.base (Nat.le_trans GW.out.size (pu3_frs _ _ _ _ _ _).size)⟩
       case rest =>
        obtain ⟨hr17,hb17⟩:=hcut
        obtain ⟨W018,rfl⟩:∃ x,x=wc:=⟨_,rfl⟩
        clear RW GW x0 x1 x2 x3 x4 x5 y0 y1 y2 y3 y4 y5 r0 r1 r2 r3 r4 r5 HZ
        have RW:=Lib.hid hr17
        have GW:=Lib.hid hb17
        clear hr17 hb17
        go_upto_region 18 with (fail)
        obtain ⟨n3,A3,l3',c3',B3,m3,d3,n4,A4,l4,c4,B4,m4,d4,x0,x1,x2,x3,x4,x5,z1,z2,z3,z4⟩:=(HV.out.below hbN GW.out).get (k:=j) (by omega)
        obtain ⟨n1,A1,l1,c1,B1,m1,d1,n2,A2,l2,c2',B2,m2,d2,y0,y1,y2,y3,y4,y5,_⟩:=RW.out.get (i:=j+1) (by rw [List.length_set];omega)
        have r0:=RW.out.fr ((j+1)*6);have r1:=RW.out.fr ((j+1)*6+1);have r2:=RW.out.fr ((j+1)*6+2);have r3:=RW.out.fr ((j+1)*6+3);have r4:=RW.out.fr ((j+1)*6+4);have r5:=RW.out.fr ((j+1)*6+5)
        have HZ:=Lib.hid (And.intro (And.intro z1 z2) (And.intro z3 z4))
        clear z1 z2 z3 z4
        go_cut [] (fun wx=>RowR w7.heap.size wx g2 ((RS.set j (RS.getD (j+1) r00)).set (j+1) (RS.getD j r00))∧Below w7.heap.size w7 wx)
        case first =>
         go_wp2_with fail
         go_meet
         exact ⟨RW.out.all (by rw [List.length_set];omega) HZ.out.1.1 HZ.out.1.2 HZ.out.2.1 HZ.out.2.2,(pu3_frs _ g2 ((j+1)*6+3) _ _ _).mono ((pu3_frs _ g2 ((j+1)*6) _ _ _).mono GW.out RW.out.base RW.out.base GW.out.size) RW.out.base RW.out.base (Nat.le_trans GW.out.size (pu3_frs _ _ _ _ _ _).size)⟩
        case rest =>
         obtain ⟨hr18,hb18⟩:=hcut
         obtain ⟨W019,rfl⟩:∃ x,x=wc:=⟨_,rfl⟩
         clear RW GW x0 x1 x2 x3 x4 x5 y0 y1 y2 y3 y4 y5 r0 r1 r2 r3 r4 r5 HZ
         have RW:=Lib.hid hr18
         have GW:=Lib.hid hb18
         clear hr18 hb18
         have hls:((RS.set j (RS.getD (j+1) r00)).set (j+1) (RS.getD j r00)).length=l3:=by rw [List.length_set,List.length_set];exact hrl
         have hrt:=RW.out.rts (c:=c2) (by omega)
         rw [hls] at hrt
         have HT:=Lib.hid hrt
         replace HP:=Lib.hid (HP.out.below ikN GW.out)
         replace Hb:=Lib.hid (Hb.out.trans (GW.out.mono Hb.out.size))
         clear hrt hls RW GW HV SE hc2
         go_wp2_with fail
         refine (complete_any ikN _ _ _ F _ _ _ _ _ HP.out (by omega) F9 HT.out (fq_turn Hfq.out (by omega) (by omega)) (by omega)).mono ?_
         rintro e w9 ⟨he,hb9⟩
         have he2:=he.not (by rw [HRS.out];exact turned_no F9 (HRS.out ▸ (show j+1<RS.length by omega)))
         subst he2
         clear he HT
         replace Hb:=Lib.hid (Hb.out.trans (hb9.mono Hb.out.size))
         clear hb9
         go_wp2
         go_ret
         exact ⟨rfl,Hb.out⟩
      ·have hli:¬ (j:Int)+1<(l3:Int):=by omega
       go_wp2
       go_ret
       exact ⟨rfl,Hb.out⟩
end Go.Proofs.YtppggpfcdgilmaaGreat
namespace Go.Proofs.YtppggpfcdgilmaaGreat
open Go.ChangeShapes Go.WideShapes Go.ChangeAt Go.RowKit
set_option maxRecDepth 100000 in
theorem rejects_lifted (os:Os) (started:os.Started) (H:Type) (enc:TypeId×Value→H) :
  ReturnsInHanded {} Tryz.checked os 8 .any (Rows.isolateRejectsSpec.pre6 enc Tryz.prog Tryz.f8 Rows.isolateRejectsRow.domain false) (Rows.isolateRejectsSpec.post enc Tryz.prog Tryz.f8 false true false false):=by
 refine returnsInHanded_of_change (C:=Tryz.checked) (show ownKnob Tryz.prog.godebug=none by kernel_rfl) started (by kernel_rfl) Tryz.func8
  (ChangeSpec.witness6 (enc:=enc) (C:=Tryz.checked) false ⟨#[],#[.slice none 0 0,.int .u8 0],[]⟩ 8 (by kernel_rfl) (by kernel_rfl) (by kernel_rfl) (by kernel_rfl)) ?_
 intro W base args ds gs before hval0 hW hcnd _
 exact lifted_s16u8 _ Tryz.f8 Tryz.params8 rfl enc _ rfl (fun _ _=>rfl) (fun A la ca p n w h1 hl hn=>by obtain ⟨k,rfl⟩:=Int.eq_ofNat_of_zero_le hn.1;exact law_rejects A la ca p k w h1 hl (by omega)) W args ds gs before hval0 hW
theorem isolateRejects_holds:Rows.IsolateRejectsSaid :=
 OpenClaim.holds_of_wide 8 Tryz.f8 rfl rfl rfl rfl rfl rfl rfl ⟨rfl,rfl,rfl,rfl,rfl⟩ rfl rfl rfl rfl rfl (by kernel_rfl) Tryz.func8 (by kernel_rfl)
  (of_decide_eq_true (by kernel_rfl)) (by unfold Func.isWrapper;first | (rw [if_pos (by decide +kernel)];kernel_rfl) | (rw [if_neg (by decide +kernel)];exact ⟨rfl,rfl⟩))
  (fun os started H enc _=>rejects_lifted os started H enc)
#print axioms isolateRejects_holds
end Go.Proofs.YtppggpfcdgilmaaGreat
