/- The reference cylinderref11: Factors. -/
import Derived.Test.YtipocabbjinbhaaFcc
namespace Go.Proofs.Ytipocabbjinbhaa
open Go Go.RowKit
theorem spl_len2 (q:List Int):(spl q).length≤2:=by
 unfold spl
 split
 ·simp
 ·split
  ·simp
  ·split<;>simp
theorem addf_len:∀ (ps:List (List Int)) (l:List (List Int×Nat)),(addf l ps).length≤l.length+ps.length
 | [],_=>Nat.le_refl _
 | p :: ps,l=>by
   have h1:=withf_len p l
   have h2:=addf_len ps (withf l p)
   show (addf (withf l p) ps).length≤l.length+(ps.length+1)
   omega
theorem facs_len:∀ (qs:List (List Int)) (l:List (List Int×Nat)),(facs l qs).length≤l.length+2*qs.length
 | [],_=>Nat.le_refl _
 | q :: qs,l=>by
   have h1:=addf_len (spl q) l
   have h2:=facs_len qs (addf l (spl q))
   have h3:=spl_len2 q
   show (facs (addf l (spl q)) qs).length≤l.length+2*(qs.length+1)
   omega
theorem addf_pow:∀ {ps:List (List Int)} {l:List (List Int×Nat)} {N:Nat},(∀ x∈l,x.2≤N)→∀ x∈addf l ps,x.2≤N+ps.length
 | [],_,_,h=>h
 | p :: ps,l,N,h=>fun x hx=>by
   have:=addf_pow (ps:=ps) (l:=withf l p) (N:=N+1) (withf_pow h) x hx
   simp only [List.length_cons]
   omega
theorem facs_pow:∀ {qs:List (List Int)} {l:List (List Int×Nat)} {N:Nat},(∀ x∈l,x.2≤N)→∀ x∈facs l qs,x.2≤N+2*qs.length
 | [],_,_,h=>h
 | q :: qs,l,N,h=>fun x hx=>by
   have:=facs_pow (qs:=qs) (l:=addf l (spl q)) (N:=N+2) (fun y hy=>by
    have h1:=addf_pow h y hy
    have h2:=spl_len2 q
    omega) x hx
   simp only [List.length_cons]
   omega
theorem addf_app (l:List (List Int×Nat)):∀ (ps:List (List Int)) (p:List Int),addf l (ps ++ [p])=withf (addf l ps) p:=fun ps p=>by
 induction ps generalizing l with
 | nil=>rfl
 | cons r rs ih=>exact ih _
theorem facs_app (l:List (List Int×Nat)):∀ (qs:List (List Int)) (q:List Int),facs l (qs ++ [q])=addf (facs l qs) (spl q):=fun qs q=>by
 induction qs generalizing l with
 | nil=>rfl
 | cons r rs ih=>exact ih _
structure Fsm (p:List Int):Prop where
 tr:ptrim p=p
 len:p.length≤3
 bd:∀ j,(p.getD j 0).natAbs≤29
theorem fsm_nrm {q:List Int} (h3:plen q≤3) (h0:plen q≠0) (hb:∀ j,(q.getD j 0).natAbs≤29):Fsm (nrm q):=⟨by
 have h1:=nrm_plen h0
 unfold ptrim
 rw [h1,← nrm_len,List.take_length],by rw [nrm_len];exact h3,nrm_le hb⟩
theorem spl_fsm {q:List Int} (hl:q.length=3) (hs:Sma q):∀ p∈spl q,Fsm p:=fun p hp=>by
 have h9:=sma_abs hl hs
 have hp3:plen q≤3:=by have:=plen_le q;omega
 unfold spl at hp
 split at hp
 ·cases hp
 ·split at hp
  ·rw [List.mem_singleton.1 hp];exact fsm_nrm hp3 (by omega) fun j=>by have:=h9 j;omega
  ·have h0:plen q≠0:=by omega
   have hld:=nrm_lead h0
   rw [show plen q=3 by omega] at hld
   have n9:=nrm_le h9
   split at hp
   ·rename_i s hsq
    have hss:(s:Int)*(s:Int)=dsc (nrm q):=by
     unfold sqd at hsq
     split at hsq
     ·rename_i he
      cases hsq
      exact he.choose_spec
     ·cases hsq
    have hs20:s≤20:=by
     refine Nat.le_of_not_lt fun hlt=>?_
     have h1:21*21≤s*s:=Nat.mul_le_mul hlt hlt
     have h2:((s*s:Nat):Int)=dsc (nrm q):=by rw [Int.natCast_mul];exact hss
     have m1:((nrm q).getD 1 0*(nrm q).getD 1 0).natAbs≤9*9:=by rw [Int.natAbs_mul];exact Nat.mul_le_mul (n9 1) (n9 1)
     have m2:(4*(nrm q).getD 2 0*(nrm q).getD 0 0).natAbs≤36*9:=by rw [Int.natAbs_mul];exact Nat.mul_le_mul (by have:=n9 2;omega) (n9 0)
     unfold dsc at h2
     omega
    have key:∀ z:Int,z.natAbs≤20→Fsm (lin1 (nrm q) z):=fun z hz=>by
     have hp2:plen [(nrm q).getD 1 0+z,2*(nrm q).getD 2 0]=2:=by rw [plen_cons_succ (by rw [plen_cons_one rfl (by have:0<(nrm q).getD 2 0:=hld;omega)];omega),plen_cons_one rfl (by have:0<(nrm q).getD 2 0:=hld;omega)]
     exact fsm_nrm (by omega) (by omega) fun j=>gd2 (by have:=n9 1;omega) (by have:=n9 2;omega) j
    rcases List.mem_cons.1 hp with e | e
    ·rw [e];exact key _ (by omega)
    ·rw [List.mem_singleton.1 e];exact key _ (by omega)
   ·rw [List.mem_singleton.1 hp];exact fsm_nrm hp3 h0 fun j=>by have:=h9 j;omega
theorem facs_fsm {qs:List (List Int)} (ht:Tri qs):∀ x∈facs [] qs,Fsm x.1:=facs_mem (fun q h=>spl_fsm (ht q h).1 (ht q h).2) (fun x hx=>by cases hx)
theorem tri_take {qs:List (List Int)} (h:Tri qs) (i:Nat):Tri (qs.take i):=fun q hq=>h q (List.mem_of_mem_take hq)
theorem facs_ok {qs:List (List Int)} (ht:Tri qs) (h5:qs.length≤5) {q:List Int} (hq:q.length=3) (hs:Sma q) (k:Nat):∀ x∈addf (facs [] qs) ((spl q).take k),ptrim x.1=x.1∧x.1.length≤1000∧x.2≤100:=fun x hx=>by
 have h1:=addf_mem (P:=Fsm) (fun p hp=>spl_fsm hq hs p (List.mem_of_mem_take hp)) (facs_fsm ht) x hx
 have h2:=addf_pow (facs_pow (qs:=qs) (l:=[]) (N:=0) (fun x hx=>by cases hx)) x hx
 have h3:=spl_len2 q
 have h4:((spl q).take k).length≤(spl q).length:=by rw [List.length_take];omega
 exact ⟨h1.tr,by have:=h1.len;omega,by omega⟩
theorem facs_ln {qs:List (List Int)} (h5:qs.length≤5) (q:List Int) (k:Nat):(addf (facs [] qs) ((spl q).take k)).length≤12:=by
 have h1:=addf_len ((spl q).take k) (facs [] qs)
 have h2:=facs_len qs []
 have h3:=spl_len2 q
 have h4:((spl q).take k).length≤(spl q).length:=by rw [List.length_take];omega
 simp only [List.length_nil] at h2
 omega
theorem tr_load {w:World} {b o i la:Nat} {qs:List (List Int)} (hc:∀ i,i<la→∀ k,k<3→w.cell? ⟨b,o+i*3+k,none⟩=some (.int .i8 ((qs.getD i []).getD k 0))) (hi:i<la) :
  w.cell? ⟨b,o+i*3,none⟩=some (.int .i8 ((qs.getD i []).getD 0 0))∧w.cell? ⟨b,o+i*3+1,none⟩=some (.int .i8 ((qs.getD i []).getD 1 0))∧w.cell? ⟨b,o+i*3+2,none⟩=some (.int .i8 ((qs.getD i []).getD 2 0)):=by
 have e0:=hc i hi 0 (by omega)
 rw [Nat.add_zero] at e0
 exact ⟨e0,hc i hi 1 (by omega),hc i hi 2 (by omega)⟩
theorem ps_at {w:World} {A:Option Addr} {l c:Nat} {ps:List (List Int)} (h:PsAt w A l c ps) {k:Nat} (hk:k<l):∃ b o A1 l1 c1,A=some ⟨b,o,none⟩∧w.cell? ⟨b,o+k,none⟩=some (.slice A1 l1 c1)∧I64At w A1 l1 c1 (ps.getD k []):=by
 rcases h.elems with ⟨h0,_⟩ | ⟨b,o,e,hb,hv⟩
 ·omega
 ·have hkl:k<ps.length:=by rw [h.length];exact hk
  have eg:ps[k]?=some (ps.getD k []):=by rw [List.getD_eq_getElem?_getD,List.getElem?_eq_getElem hkl];rfl
  obtain ⟨vs,⟨A1,l1,c1,ev,h1⟩,hc⟩:=hv k _ eg
  subst ev
  have:=hc 0 _ rfl
  rw [Nat.mul_one,Nat.add_zero] at this
  exact ⟨b,o,A1,l1,c1,e,this,h1⟩
def Zer (qs:List (List Int)):Prop:=∃ q∈qs,plen q=0
def FacR (qs:List (List Int)) (e:Ending) (w':World):Prop:=∃ u A' l' c' fs,e=.returned (.tuple #[.int .i64 u,.slice A' l' c'])∧(u=0↔Zer qs)∧FsAt w' A' l' c' fs∧(u=0→fs=[])∧(u≠0→fs=facs [] qs)
theorem take_snoc {α:Type} {l:List α} {i:Nat} (h:i<l.length) (d:α):l.take (i+1)=l.take i ++ [l.getD i d]:=by
 rw [List.take_add_one,List.getElem?_eq_getElem h,Option.toList_some,List.getD_eq_getElem?_getD,List.getElem?_eq_getElem h]
 rfl
set_option maxRecDepth 100000 in
set_option maxHeartbeats 8000000 in
theorem factors_any {w:World} {A:Option Addr} {la ca:Nat} {qs:List (List Int)} (h:TrAt w A la ca qs) (hl:la≤5) (ht:Tri qs) :
  Calls Try.prog 7 #[.slice A la ca] w fun e w'=>FacR qs e w'∧Below w.heap.size w w':=by
 have H:=Lib.hid h
 have Hl:=Lib.hid h.length
 have HT:=Lib.hid ht
 clear h ht
 go_enter Try.func7,Try.ntmps7
 go_wp2
 go_loopw [4,5,6] (fun s4 s5 s6 wr=>∃ (i:Nat) (u:Int) (A':Option Addr) (l' c':Nat),i≤la∧s4=.int .i64 u∧s5=.slice A' l' c'∧s6=.int .i64 (i:Int)∧u.natAbs≤9^i∧(u=0↔Zer (qs.take i))∧FsAt wr A' l' c' (facs [] (qs.take i))∧(l'=0→A'=none∧c'=0)∧Below w.heap.size w wr) (fun _ _ s6 _=>la-(intOf s6).toNat)
 case atStart=>exact ⟨0,1,none,0,0,Nat.zero_le _,rfl,rfl,rfl,Nat.le_refl _,⟨fun h=>absurd h (by decide),fun ⟨q,hq,_⟩=>(by cases hq)⟩,⟨rfl,Nat.le_refl _,.inl ⟨rfl,rfl,rfl⟩⟩,fun _=>⟨rfl,rfl⟩,Bel.go⟩
 case round =>
  obtain ⟨i,u,A',l',c',hi,rfl,rfl,rfl,hu,huz,hF,h0,hbw⟩:=hrel
  obtain ⟨wo,rfl⟩:∃ wo:World,wo=wr:=⟨_,rfl⟩
  have HF:=Lib.hid hF
  have H0:=Lib.hid h0
  have Huz:=Lib.hid huz
  have Hbw:=Lib.hid hbw
  by_cases hlt:i<la
  ·have Hlt:=Lib.hid hlt
   obtain ⟨b,o,rfl,hbl,hc⟩:=(H.out.below hbw).at (by omega)
   have hil:i<qs.length:=by rw [Hl.out];exact hlt
   have hq:=HT.out (qs.getD i []) (by rw [List.getD_eq_getElem?_getD,List.getElem?_eq_getElem hil];exact List.getElem_mem _)
   obtain ⟨e0,e1,e2⟩:=tr_load hc hlt
   have hl3:=list3 hq.1
   have s0:=hq.2 0 (by omega)
   have s1:=hq.2 1 (by omega)
   have s2:=hq.2 2 (by omega)
   have HQ:=Lib.hid hq
   have HN:=Lib.hid (take_snoc hil [])
   obtain ⟨q,hqd⟩:∃ q,q=qs.getD i []:=⟨_,rfl⟩
   rw [← hqd] at e0 e1 e2 hl3 s0 s1 s2 HQ HN
   obtain ⟨x0,hx0⟩:∃ x,x=q.getD 0 0:=⟨_,rfl⟩
   obtain ⟨x1,hx1⟩:∃ x,x=q.getD 1 0:=⟨_,rfl⟩
   obtain ⟨x2,hx2⟩:∃ x,x=q.getD 2 0:=⟨_,rfl⟩
   rw [← hx0] at e0 s0 hl3
   rw [← hx1] at e1 s1 hl3
   rw [← hx2] at e2 s2 hl3
   have HL3:=Lib.hid hl3.symm
   have ti:(i:Int)<(la:Int):=by omega
   have tw:IntKind.i64.wrap ((i:Int)+1)=(i:Int)+1:=IntWalk.i64_in _ (by omega)
   have HTI:=Lib.hid (tri_take HT.out i)
   have HLI:=Lib.hid (show (qs.take i).length≤5 by rw [List.length_take];omega)
   have h9i:9^i≤9^4:=Nat.pow_le_pow_right (by decide) (by omega)
   have H9:=Lib.hid hu
   have hu4:u.natAbs≤6561:=by omega
   clear hx0 hx1 hx2 hc hq hl3 hqd hF h0 hbw huz hi hlt hil hu h9i
   go_wp2_with fail
   refine (wid_any x0 x1 x2 _ ⟨by omega,by omega⟩ ⟨by omega,by omega⟩ ⟨by omega,by omega⟩).mono ?_
   rintro e w1 ⟨A1,c1,rfl,h1,hb1⟩
   have H1:=Lib.hid h1
   have HF1:=Lib.hid (fs_below HF.out hb1)
   have Hbw1:=Lib.hid (Hbw.out.trans (hb1.mono Hbw.out.size))
   clear h1 hb1 e0 e1 e2 hbl
   go_wp2_with fail
   refine (split_any _ _ x0 x1 x2 _ H1.out (by omega) (by omega) (by omega)).mono ?_
   rintro e w2 ⟨⟨v,Ap,lp,cp,rfl,hv0,hv9,hps⟩,hb2⟩
   rw [HL3.out] at hv0 hps
   have HV0:=Lib.hid hv0
   have HPs:=Lib.hid hps
   have HF2:=Lib.hid (fs_below HF1.out hb2)
   have Hbw2:=Lib.hid (Hbw1.out.trans (hb2.mono Hbw1.out.size))
   have HLp:=Lib.hid hps.length
   have hlp2:lp≤2:=by rw [← hps.length];exact spl_len2 q
   have hm5:(u*v).natAbs≤6561*9:=by rw [Int.natAbs_mul];exact Nat.mul_le_mul hu4 hv9
   have HU5:=Lib.hid (show (u*v).natAbs≤9^(i+1) by rw [Int.natAbs_mul,Nat.pow_succ];exact Nat.mul_le_mul H9.out hv9)
   have HUZ:=Lib.hid (show u*v=0↔Zer (qs.take (i+1)) by
    rw [HN.out,Int.mul_eq_zero,Huz.out,HV0.out]
    unfold Zer
    constructor
    ·rintro (⟨r,hr,h⟩ | h)
     ·exact ⟨r,List.mem_append_left _ hr,h⟩
     ·exact ⟨q,by simp,h⟩
    ·rintro ⟨r,hr,h⟩
     rcases List.mem_append.1 hr with hr | hr
     ·exact .inl ⟨r,hr,h⟩
     ·rw [List.mem_singleton.1 hr] at h;exact .inr h)
   obtain ⟨U,hU⟩:∃ U,U=u*v:=⟨_,rfl⟩
   rw [← hU] at hm5 HU5 HUZ
   have iU:IntKind.i64.wrap U=U:=IntWalk.i64_in _ (by omega)
   have eU:u*v=U:=hU.symm
   clear hU hps hb2 hv0 hv9 hu4
   go_wp2
   go_loopw [5,9] (fun s5 s9 wx=>∃ (k:Nat) (A':Option Addr) (l' c':Nat),k≤lp∧s5=.slice A' l' c'∧s9=.int .i64 (k:Int)∧FsAt wx A' l' c' (addf (facs [] (qs.take i)) ((spl q).take k))∧(l'=0→A'=none∧c'=0)∧Below w2.heap.size w2 wx) (fun _ s9 _=>lp-(intOf s9).toNat)
   case atStart=>exact ⟨0,_,_,_,Nat.zero_le _,rfl,rfl,HF2.out,H0.out,Below.refl _ _⟩
   case round =>
    obtain ⟨k,A6,l6,c6,hk,rfl,rfl,hF6,h06,hbx⟩:=hrel
    have HF6:=Lib.hid hF6
    have H06:=Lib.hid h06
    have Hbx:=Lib.hid hbx
    by_cases hkl:k<lp
    ·have Hkl:=Lib.hid hkl
     obtain ⟨b',o',A7,l7,c7,rfl,k1,k2⟩:=ps_at (ps_below HPs.out hbx) hkl
     have K2:=Lib.hid k2
     have hkk:k<(spl q).length:=by rw [HLp.out];exact hkl
     have HNK:=Lib.hid (take_snoc hkk [])
     have hfp:=spl_fsm HQ.out.1 HQ.out.2 ((spl q).getD k []) (by rw [List.getD_eq_getElem?_getD,List.getElem?_eq_getElem hkk];exact List.getElem_mem _)
     have HFP:=Lib.hid hfp
     have hl7:l7≤1000:=by rw [← k2.length];have:=hfp.len;omega
     have hl6:l6≤100:=by rw [← hF6.length];have:=facs_ln HLI.out q k;omega
     have tk1:(k:Int)<(lp:Int):=by omega
     have tk2:IntKind.i64.wrap ((k:Int)+1)=(k:Int)+1:=IntWalk.i64_in _ (by omega)
     clear k2 hkk hF6 h06 hbx hfp hk hkl
     go_wp2_with fail
     refine (with_any _ _ _ _ _ _ _ ((spl q).getD k []) _ HF6.out K2.out hl6 hl7 HFP.out.tr (facs_ok HTI.out HLI.out HQ.out.1 HQ.out.2 k) H06.out).mono ?_
     rintro e w8 ⟨⟨A8,l8,c8,rfl,h8,p8⟩,hb8⟩
     have H8:=Lib.hid h8
     have Hp8:=Lib.hid p8
     have Hb8:=Lib.hid (Hbx.out.trans (hb8.mono Hbx.out.size))
     clear h8 p8 hb8
     go_wp2
     go_roundw
     case rel=>exact ⟨k+1,_,_,_,Hkl.out,rfl,by go_num,by rw [HNK.out,addf_app];exact H8.out,fun h=>absurd h (by have:=Hp8.out;omega),Hb8.out⟩
     case measure=>have:=Hkl.out;simp [intOf];omega
    ·have tk1:¬ (k:Int)<(lp:Int):=by omega
     have HE:=Lib.hid (show addf (facs [] (qs.take i)) ((spl q).take k)=facs [] (qs.take (i+1)) by rw [HN.out,facs_app,List.take_of_length_le (l:=spl q) (by rw [HLp.out];omega)])
     clear hF6 h06 hbx hk hkl
     go_wp2
     go_roundw
     case rel=>exact ⟨i+1,U,_,_,_,Hlt.out,rfl,rfl,by go_num,HU5.out,HUZ.out,by rw [← HE.out];exact HF6.out,H06.out,Hbw2.out.trans (Hbx.out.mono Hbw2.out.size)⟩
     case measure=>have:=Hlt.out;simp [intOf];omega
  ·have ti:¬ (i:Int)<(la:Int):=by omega
   have HE:qs.take i=qs:=by rw [List.take_of_length_le (by rw [Hl.out];omega)]
   rw [HE] at HF Huz
   have Hll:=Lib.hid hF.length
   clear hF h0 hbw hi hlt huz hu
   by_cases hu0:u=0
   ·subst hu0
    go_wp2
    refine bodyPost_ret (v:=.tuple #[.int .i64 0,.slice none 0 0]) (by simp [results,Try.results7,go_sem]) rfl ⟨⟨0,none,0,0,[],rfl,⟨fun _=>Huz.out.1 trivial,fun _=>rfl⟩,⟨rfl,Nat.le_refl _,.inl ⟨rfl,rfl,rfl⟩⟩,fun _=>rfl,fun h=>absurd rfl h⟩,Hbw.out⟩
   ·have bu:(u == 0)=false:=by rw [beq_eq_false_iff_ne];exact hu0
    have Hu0:=Lib.hid hu0
    clear hu0
    go_wp2
    refine bodyPost_ret (v:=.tuple #[.int .i64 u,.slice A' l' c']) (by simp [results,Try.results7,go_sem]) rfl ⟨⟨u,A',l',c',facs [] qs,rfl,Huz.out,HF.out,fun h=>absurd h Hu0.out,fun _=>rfl⟩,Hbw.out⟩
end Go.Proofs.Ytipocabbjinbhaa
