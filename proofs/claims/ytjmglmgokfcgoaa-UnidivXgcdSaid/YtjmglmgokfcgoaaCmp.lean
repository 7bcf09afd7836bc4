/- The walks of unipoly.Compare (whether it is 0) and of unipoly.Same. -/
import Derived.Test.YtjmglmgokfcgoaaPolB
import Derived.Test.YtjmglmgokfcgoaaRbH
import Derived.Test.YtjmglmgokfcgoaaSft
namespace Go.Proofs.Ytjmglmgokfcgoaa
open Go.RowKit
theorem eq_of_getD {p q:List Int} (hl:p.length=q.length) (h:∀ k,k<p.length→p.getD k 0=q.getD k 0):p=q:=by
 refine List.ext_getElem? fun k=>?_
 rcases Nat.lt_or_ge k p.length with h1 | h1
 ·have h2:=h k h1
  rw [List.getD_eq_getElem?_getD,List.getD_eq_getElem?_getD,List.getElem?_eq_getElem h1,List.getElem?_eq_getElem (by omega)] at h2
  rw [List.getElem?_eq_getElem h1,List.getElem?_eq_getElem (by omega)]
  simpa using h2
 ·rw [List.getElem?_eq_none h1,List.getElem?_eq_none (by omega)]
theorem cmpz_eq0 {a b:Int}:cmpz a b=0↔a=b:=by
 unfold cmpz
 split
 ·omega
 ·split<;>omega
set_option maxRecDepth 100000 in
set_option maxHeartbeats 4000000 in
theorem compare_any {I J:IntPred} (hI:IK I) (hJ:IK J) (A:Option Addr) (la ca:Nat) (p:List Int) (B:Option Addr) (lb cb:Nat) (q:List Int) (w:World) (h:PolyP I w A la ca p) (h':PolyP J w B lb cb q) (hs:SmP p) (hs':SmP q) (hm:la≤1000000000) (hm':lb≤1000000000) :
  Calls Try.prog 44 #[.slice A la ca,.slice B lb cb] w fun e w'=>(∃ c:Int,e=.returned (.int .i64 c)∧(c=0↔ptrim p=ptrim q))∧Below w.heap.size w w':=by
 obtain ⟨P,hP⟩:∃ P,P=ptrim p:=⟨_,rfl⟩
 obtain ⟨Q,hQ⟩:∃ Q,Q=ptrim q:=⟨_,rfl⟩
 have sp:=hs.ptrim
 have sq:=hs'.ptrim
 rw [← hP] at sp
 rw [← hQ] at sq
 rw [← hP,← hQ]
 have HP:=Lib.hid hP
 have HQ:=Lib.hid hQ
 clear hP hQ
 go_enter Try.func44,Try.ntmps44
 go_wp2_with fail
 refine (ptrim_any hI _ _ _ _ _ h hs (by omega)).mono ?_
 rintro e w1 ⟨l1,rfl,h1,hl1,hb1⟩
 have h'1:=h'.below hJ hb1
 rw [← HP.out] at h1
 have H1:=Lib.hid h1
 have Hb1:=Lib.hid hb1
 have k1:l1≤1000000000:=by have:=plen_le p;have:=h.length;omega
 have k2:plen q≤1000000000:=by have:=plen_le q;have:=h'.length;omega
 have Hl1:=Lib.hid hl1
 clear h h' h1 hb1 hl1
 go_wp2_with fail
 refine (ptrim_any hJ _ _ _ _ _ h'1 hs' (by omega)).mono ?_
 rintro e w2 ⟨l2,rfl,h2,hl2,hb2⟩
 rw [← HQ.out] at h2
 have H12:=Lib.hid (H1.out.below hI hb2)
 have H2:=Lib.hid h2
 have Hb2:=Lib.hid (Hb1.out.trans (hb2.mono Hb1.out.size))
 have E1:=Lib.hid (show P.length=l1 by rw [HP.out,ptrim_length];exact Hl1.out.symm)
 have E2:=Lib.hid (show Q.length=l2 by rw [HQ.out,ptrim_length];exact hl2.symm)
 have k3:l2≤1000000000:=by omega
 clear h'1 h2 hb2 H1 Hb1 Hl1 hl2 k2
 rcases Nat.lt_trichotomy l1 l2 with hlt | heq | hgt
 ·have i1:(l1:Int)<(l2:Int):=by omega
  clear H12 H2
  go_wp2
  go_ret
  refine ⟨⟨_,rfl,⟨fun hh=>by omega,fun hh=>?_⟩⟩,Hb2.out⟩
  have a1:=E1.out;have a2:=E2.out;rw [hh] at a1;omega
 ·subst heq
  have i1:¬ (l1:Int)<(l1:Int):=by omega
  go_wp2
  go_loopw [5] (fun i wr=>∃ k:Nat,k≤l1∧i=.int .i64 ((k:Int)-1)∧(∀ j,k≤j→j<l1→P.getD j 0=Q.getD j 0)∧Below w2.heap.size w2 wr) (fun i _=>(intOf i+1).toNat)
  case atStart=>exact ⟨l1,Nat.le_refl _,by go_num,fun j hj hj'=>by omega,Below.refl _ _⟩
  case round =>
   obtain ⟨k,hk,rfl,hall,hbw⟩:=hrel
   have Hall:=Lib.hid hall
   have Hbw:=Lib.hid hbw
   clear hall hbw
   match k,hk with
   | 0,_ =>
     go_wp2
     go_ret
     refine ⟨⟨_,rfl,⟨fun _=>eq_of_getD (by rw [E1.out,E2.out]) (fun j hj=>Hall.out j (Nat.zero_le _) (by rw [← E1.out];exact hj)),fun _=>rfl⟩⟩,Hb2.out.trans (Hbw.out.mono Hb2.out.size)⟩
   | k+1,hk =>
     have e0:((k+1:Nat):Int)-1=(k:Int):=by omega
     rw [e0]
     obtain ⟨b1,o1,rfl,hb1,hc1⟩:=H12.out.get (by omega)
     obtain ⟨b2,o2,rfl,hb2,hc2⟩:=H2.out.get (by omega)
     obtain ⟨nf,Af,lf,cf,f0,f1,zf⟩:=hc1 k (by omega)
     obtain ⟨ng,Ag,lg,cg,g0,g1,zg⟩:=hc2 k (by omega)
     have e1:=(Hbw.out.cell (p:=⟨b1,o1+k*2,none⟩) hb1).trans f0
     have e2:=(Hbw.out.cell (p:=⟨b1,o1+k*2+1,none⟩) hb1).trans f1
     have e3:=(Hbw.out.cell (p:=⟨b2,o2+k*2,none⟩) hb2).trans g0
     have e4:=(Hbw.out.cell (p:=⟨b2,o2+k*2+1,none⟩) hb2).trans g1
     have Zf:=Lib.hid ((hI.at_ zf).below Hbw.out)
     have Zg:=Lib.hid ((hJ.at_ zg).below Hbw.out)
     have i2:(k:Int)<(l1:Int):=by omega
     have sa:=sp.getD k
     have sb:=sq.getD k
     obtain ⟨c,hc⟩:∃ c,c=cmpz (P.getD k 0) (Q.getD k 0):=⟨_,rfl⟩
     have Hc:=Lib.hid hc
     clear hc hc1 hc2 f0 f1 zf g0 g1 zg hb1 hb2
     go_wp2_with fail
     refine wp_region_last (S:=fun w'=>w'.cell? ⟨b1,o1+k*2,none⟩=some (.bool nf)∧w'.cell? ⟨b1,o1+k*2+1,none⟩=some (.slice Af lf cf)∧w'.cell? ⟨b2,o2+k*2,none⟩=some (.bool ng)∧w'.cell? ⟨b2,o2+k*2+1,none⟩=some (.slice Ag lg cg)) (by kernel_rfl) (by kernel_rfl) (by (try dsimp only);go_keep) (fun hHeld=>?_)
     simp only [List.pop_toArray,List.dropLast]
     (refine tk (i:=0) (v:=?_) rfl rfl (Or.inl ⟨by rfl,?_⟩) ?_;rotate_left;(focus (intro w hSw;(try dsimp only at hSw);go_simp;(try with_reducible rfl)));(simp only [put_lit,List.set]))
     (refine tk (i:=1) (v:=?_) rfl rfl (Or.inl ⟨by rfl,?_⟩) ?_;rotate_left;(focus (intro w hSw;(try dsimp only at hSw);go_simp;(try with_reducible rfl)));(simp only [put_lit,List.set]))
     (refine tk (i:=2) (v:=?_) rfl rfl (Or.inl ⟨by rfl,?_⟩) ?_;rotate_left;(focus (intro w hSw;(try dsimp only at hSw);go_simp;(try with_reducible rfl)));(simp only [put_lit,List.set]))
     (refine tk (i:=3) (v:=?_) rfl rfl (Or.inl ⟨by rfl,?_⟩) ?_;rotate_left;(focus (intro w hSw;(try dsimp only at hSw);go_simp;(try with_reducible rfl)));(simp only [put_lit,List.set]))
     (refine tk (i:=4) (v:=?_) rfl rfl (Or.inl ⟨by rfl,?_⟩) ?_;rotate_left;(focus (intro w hSw;(try dsimp only at hSw);go_simp;(try with_reducible rfl)));(simp only [put_lit,List.set]))
     (refine tk (i:=5) (v:=?_) rfl rfl (Or.inl ⟨by rfl,?_⟩) ?_;rotate_left;(focus (intro w hSw;(try dsimp only at hSw);go_simp;(try with_reducible rfl)));(simp only [put_lit,List.set]))
     (refine tk (i:=6) (v:=?_) rfl rfl (Or.inl ⟨by rfl,?_⟩) ?_;rotate_left;(focus (intro w hSw;(try dsimp only at hSw);go_simp;(try with_reducible rfl)));(simp only [put_lit,List.set]))
     (refine tk (i:=7) (v:=?_) rfl rfl (Or.inl ⟨by rfl,?_⟩) ?_;rotate_left;(focus (intro w hSw;(try dsimp only at hSw);go_simp;(try with_reducible rfl)));(simp only [put_lit,List.set]))
     refine wpAnyH_ready (rs:=[8]) (by kernel_rfl) (by simp) ?_
     refine AllReadyH.cons rfl (fun K hK=>?_) AllReadyH.nil;go_simp
     refine (icmp_any _ _ _ _ _ _ _ _ _ _ _ ?_ ?_ sa sb).mono ?_
     ·exact Zf.out.below Bel.go
     ·exact Zg.out.below Bel.go
     rintro e w7 ⟨he,hb8⟩
     rw [← Hc.out] at he
     subst he
     obtain ⟨hcx,hfx⟩:=bcellS hb8
     have Hb8:=Lib.hid (Hbw.out.trans ((Below.trans Bel.go (hb8.mono (by simp<;>omega))).mono Hbw.out.size))
     refine hK.out _ _ ?_ (fun _=>?_)
     ·((try dsimp only);repeat' apply And.intro)<;>(rw [hcx _ (by go_simp)];go_simp)
     clear hHeld hK K hcx hfx;rename_i hHeld
     refine wpAnyH_done (by kernel_rfl) (lastQ_list rfl ?_) _
     clear hHeld hb8
     by_cases hc0:c=0
     ·subst hc0
      have hpq:=Lib.hid (cmpz_eq0.1 Hc.out.symm)
      go_wp2
      go_roundw
      case rel =>
       refine ⟨k,by omega,by go_num,fun j hj hj'=>?_,Hb8.out⟩
       rcases Nat.lt_or_ge k j with h1 | h1
       ·exact Hall.out j h1 hj'
       ·have e1:j=k:=by omega
        subst e1
        exact hpq.out
      case measure=>simp [intOf]
     ·have hcb:(c == 0)=false:=by rw [beq_eq_false_iff_ne];exact hc0
      have hne:=Lib.hid (fun hh:P=Q=>hc0 (by rw [Hc.out,hh];exact cmpz_eq0.2 rfl))
      go_wp2
      go_ret
      exact ⟨⟨_,rfl,⟨fun hh=>absurd hh hc0,fun hh=>absurd hh hne.out⟩⟩,Hb2.out.trans (Hb8.out.mono Hb2.out.size)⟩
 ·have i1:¬ (l1:Int)<(l2:Int):=by omega
  have i2:(l2:Int)<(l1:Int):=by omega
  clear H12 H2
  go_wp2
  go_ret
  refine ⟨⟨_,rfl,⟨fun hh=>by omega,fun hh=>?_⟩⟩,Hb2.out⟩
  have a1:=E1.out;have a2:=E2.out;rw [hh] at a1;omega
theorem same_any {I J:IntPred} (hI:IK I) (hJ:IK J) (A:Option Addr) (la ca:Nat) (p:List Int) (B:Option Addr) (lb cb:Nat) (q:List Int) (w:World) (h:PolyP I w A la ca p) (h':PolyP J w B lb cb q) (hs:SmP p) (hs':SmP q) (hm:la≤1000000000) (hm':lb≤1000000000) :
  Calls Try.prog 10 #[.slice A la ca,.slice B lb cb] w fun e w'=>e=.returned (.bool (decide (ptrim p=ptrim q)))∧Below w.heap.size w w':=by
 go_enter Try.func10,Try.ntmps10
 go_wp2_with fail
 refine (compare_any hI hJ _ _ _ _ _ _ _ _ _ h h' hs hs' hm hm').mono ?_
 rintro e w1 ⟨⟨c,rfl,hc⟩,hb⟩
 have Hc:=Lib.hid hc
 have Hb:=Lib.hid hb
 have hcb:(c == 0)=decide (ptrim p=ptrim q):=by
  by_cases h0:ptrim p=ptrim q
  ·rw [decide_eq_true h0,hc.2 h0];rfl
  ·rw [decide_eq_false h0,beq_eq_false_iff_ne];exact fun hh=>h0 (hc.1 hh)
 clear hc hb h h'
 go_wp2
 go_ret
 exact ⟨rfl,Hb.out⟩
end Go.Proofs.Ytjmglmgokfcgoaa
