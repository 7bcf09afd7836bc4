/- The walk of the statements' Complete, and the law IsolateCompletes. -/
import Derived.Test.YtppggpfcdgilmaaGreatCpl
import Derived.Test.YtppggpfcdgilmaaGreatVdL
namespace Go.Proofs.YtppggpfcdgilmaaGreat
open Go Go.RowKit
set_option maxRecDepth 100000 in
set_option maxHeartbeats 8000000 in
theorem lawcomplete_any {I:IntPred} (hI:IK I) (Af:Option Addr) (lf cf:Nat) (f:List Int) (A:Option Addr) (la ca:Nat) (rs:List (Fq×Fq)) (w:World) (hf:PolyP I w Af lf cf f) (hl:f.length≤10) (h9:P9 f) (hr:RtsAt w A la ca rs) (hfq:∀ r∈rs,FqB r.1∧FqB r.2) (hla:la≤1000) :
  Calls Tryz.prog 19 #[.slice Af lf cf,.slice A la ca] w fun e w'=>BoolE (CmplL f rs) e∧Below w.heap.size w w':=by
 have hlf:lf≤10:=by have:=hf.length;omega
 have Hrl:=Lib.hid hr.length
 have HF:=Lib.hid hf
 have HRs:=Lib.hid hr
 have Hfq:=Lib.hid hfq
 have Hb:=Lib.hid (Below.refl w.heap.size w)
 clear hf hr hfq
 go_enter Tryz.func19,Tryz.ntmps19
 go_wp2_with fail
 go_loopw [5] (fun s5 wr=>∃ k:Nat,k≤la∧s5=.int .i64 (k:Int)∧(∀ i,i<k→stLaw f rs i)∧Below w.heap.size w wr) (fun s5 _=>la-(intOf s5).toNat)
 case atStart=>exact ⟨0,Nat.zero_le _,rfl,fun i hi=>absurd hi (Nat.not_lt_zero _),Bel.go⟩
 case round =>
  obtain ⟨k,hk,rfl,hst,hbw⟩:=hrel
  have Hst:=Lib.hid hst
  have HFr:=Lib.hid (HF.out.below hI hbw)
  have HRr:=Lib.hid (HRs.out.below hbw)
  have Hbw:=Lib.hid hbw
  clear hst
  by_cases hlt:k<la
  ·have Hkl:=Lib.hid hlt
   obtain ⟨b,o,rfl,hb0,hv⟩:∃ b o,A=some ⟨b,o,none⟩∧b<wr.heap.size∧Vals wr b o rs:=by
    rcases HRr.out.elems with ⟨h0,_⟩ | h
    ·omega
    ·exact h
   have hkl:k<rs.length:=by rw [Hrl.out];exact hlt
   obtain ⟨n,A1,l1,c1,B1,m1,d1,n',A2,l2,c2,B2,m2,d2,e0,e1,e2,e3,e4,e5,z1,z2,z3,z4⟩:=hv.get hkl
   obtain ⟨fa,fb⟩:=getD_fqb Hfq.out hkl
   obtain ⟨r,hr⟩:∃ r,r=rs.getD k r00:=⟨_,rfl⟩
   rw [← hr] at z1 z2 z3 z4 fa fb
   have Hr:=Lib.hid hr
   have Hv:=Lib.hid hv
   have ka:(k:Int)<(la:Int):=by omega
   have w1:IntKind.i64.wrap ((k:Int)+1)=(k:Int)+1:=IntWalk.i64_in _ (by omega)
   have p1:=fa.p
   have p2:=fb.p
   have Z1:=Lib.hid z1;have Z2:=Lib.hid z2;have Z3:=Lib.hid z3;have Z4:=Lib.hid z4
   clear z1 z2 z3 z4 hv hr hk hlt hbw hkl
   by_cases hv:vld 1 f r.1 r.2=true
   ·by_cases hk0:k=0
    ·have HV:=Lib.hid hv
     have g1:decide ((0:Int)<(k:Int))=false:=decide_eq_false (by omega)
     have gn:decide (0<k)=false:=decide_eq_false (by omega)
     have FIN:=Lib.hid (show stLaw f rs k from ⟨by rw [← Hr.out];exact hv,fun h=>absurd hk0 (by omega)⟩)
     clear hv hk0
     go_wp2_with fail
     refine wp_region_held_drew (S:=fun w'=>w'.cell? ⟨b,o+k*6,none⟩=some (.bool n)∧w'.cell? ⟨b,o+k*6+1,none⟩=some (.slice A1 l1 c1)∧w'.cell? ⟨b,o+k*6+2,none⟩=some (.slice B1 m1 d1)∧w'.cell? ⟨b,o+k*6+3,none⟩=some (.bool n')∧w'.cell? ⟨b,o+k*6+4,none⟩=some (.slice A2 l2 c2)∧w'.cell? ⟨b,o+k*6+5,none⟩=some (.slice B2 m2 d2)) (by kernel_rfl) (by (try dsimp only);go_keep) (fun hHeld=>?_)
     (refine tk (i:=0) (v:=?_) rfl rfl (Or.inl ⟨by rfl,?_⟩) ?_;rotate_left;(focus (intro w hSw;(try dsimp only at hSw);go_simp;(try with_reducible rfl)));(simp only [put_lit,List.set]))
     (refine tk (i:=1) (v:=?_) rfl rfl (Or.inl ⟨by rfl,?_⟩) ?_;rotate_left;(focus (intro w hSw;(try dsimp only at hSw);go_simp;(try with_reducible rfl)));(simp only [put_lit,List.set]))
     (refine tk (i:=2) (v:=?_) rfl rfl (Or.inl ⟨by rfl,?_⟩) ?_;rotate_left;(focus (intro w hSw;(try dsimp only at hSw);go_simp;(try with_reducible rfl)));(simp only [put_lit,List.set]))
     (refine tk (i:=3) (v:=?_) rfl rfl (Or.inl ⟨by rfl,?_⟩) ?_;rotate_left;(focus (intro w hSw;(try dsimp only at hSw);go_simp;(try with_reducible rfl)));(simp only [put_lit,List.set]))
     (refine tk (i:=4) (v:=?_) rfl rfl (Or.inl ⟨by rfl,?_⟩) ?_;rotate_left;(focus (intro w hSw;(try dsimp only at hSw);go_simp;(try with_reducible rfl)));(simp only [put_lit,List.set]))
     refine wpAnyH_ready (rs:=[5]) (by kernel_rfl) (by simp) ?_;refine AllReadyH.cons rfl (fun K hK=>?_) AllReadyH.nil;go_simp;refine (lawvalid_any hI _ _ _ f r.1 r.2 _ _ _ _ _ _ _ _ _ _ _ _ _ _ _ ?_ hl h9 ?_ ?_ ?_ ?_ fa fb).mono ?_;(exact HFr.out.below hI Bel.go);(exact Z1.out.below Bel.go);(exact Z2.out.below Bel.go);(exact Z3.out.below Bel.go);(exact Z4.out.below Bel.go);rintro e w3 ⟨rfl,hb3⟩;rw [HV.out];obtain ⟨hcx,hfx⟩:=bcellS hb3;have G3:=Lib.hid ((Below.trans Bel.go (hb3.mono (by simp<;>omega))):Below wr.heap.size wr w3);refine hK.out _ _ ?_ (fun _=>?_)
     ·((try dsimp only);repeat' apply And.intro)<;>(rw [hcx _ (by go_simp)];go_simp)
     clear hHeld hK K hcx hfx;rename_i hHeld
     (refine tk (i:=6) (v:=?_) rfl rfl (Or.inl ⟨by rfl,?_⟩) ?_;rotate_left;(focus (intro w hSw;(try dsimp only at hSw);go_simp;(try with_reducible rfl)));(simp only [put_lit,List.set]))
     (refine tk (i:=7) (v:=?_) rfl rfl (Or.inl ⟨by rfl,?_⟩) ?_;rotate_left;(focus (intro w hSw;(try dsimp only at hSw);go_simp;(try with_reducible rfl)));(simp only [put_lit,List.set]))
     (refine tk (i:=8) (v:=?_) rfl rfl (Or.inl ⟨by rfl,?_⟩) ?_;rotate_left;(focus (intro w hSw;(try dsimp only at hSw);go_simp;(try with_reducible rfl)));(simp only [put_lit,List.set]))
     (refine tk (i:=9) (v:=?_) rfl rfl (Or.inl ⟨by rfl,?_⟩) ?_;rotate_left;(focus (intro w hSw;(try dsimp only at hSw);go_simp;(try with_reducible rfl)));(simp only [put_lit,List.set]))
     (refine tk (i:=10) (v:=?_) rfl rfl (Or.inl ⟨by rfl,?_⟩) ?_;rotate_left;(focus (intro w hSw;(try dsimp only at hSw);go_simp;(try with_reducible rfl)));(simp only [put_lit,List.set]))
     (refine take_at (i:=11) (oi:=_) (v:=undef) rfl rfl (by kernel_rfl) (by kernel_rfl) (by kernel_rfl) (fun _ _ _ h=>h) (Or.inr ⟨by rfl,rfl⟩) (by assumption) ?_;(simp only [put_lit,List.set]))
     (refine take_at (i:=12) (oi:=_) (v:=undef) rfl rfl (by kernel_rfl) (by kernel_rfl) (by kernel_rfl) (fun _ _ _ h=>h) (Or.inr ⟨by rfl,rfl⟩) (by assumption) ?_;(simp only [put_lit,List.set]))
     (refine take_at (i:=13) (oi:=_) (v:=undef) rfl rfl (by kernel_rfl) (by kernel_rfl) (by kernel_rfl) (fun _ _ _ h=>h) (Or.inr ⟨by rfl,rfl⟩) (by assumption) ?_;(simp only [put_lit,List.set]))
     (refine take_at (i:=14) (oi:=_) (v:=undef) rfl rfl (by kernel_rfl) (by kernel_rfl) (by kernel_rfl) (fun _ _ _ h=>h) (Or.inr ⟨by rfl,rfl⟩) (by assumption) ?_;(simp only [put_lit,List.set]))
     (refine take_at (i:=15) (oi:=_) (v:=undef) rfl rfl (by kernel_rfl) (by kernel_rfl) (by kernel_rfl) (fun _ _ _ h=>h) (Or.inr ⟨by rfl,rfl⟩) (by assumption) ?_;(simp only [put_lit,List.set]))
     (refine take_at (i:=16) (oi:=_) (v:=undef) rfl rfl (by kernel_rfl) (by kernel_rfl) (by kernel_rfl) (fun _ _ _ h=>h) (Or.inr ⟨by rfl,rfl⟩) (by assumption) ?_;(simp only [put_lit,List.set]))
     (refine take_at (i:=17) (oi:=_) (v:=undef) rfl rfl (by kernel_rfl) (by kernel_rfl) (by kernel_rfl) (fun _ _ _ h=>h) (Or.inr ⟨by rfl,rfl⟩) (by assumption) ?_;(simp only [put_lit,List.set]))
     (refine take_at (i:=18) (oi:=_) (v:=undef) rfl rfl (by kernel_rfl) (by kernel_rfl) (by kernel_rfl) (fun _ _ _ h=>h) (Or.inr ⟨by rfl,rfl⟩) (by assumption) ?_;(simp only [put_lit,List.set]))
     (refine take_at (i:=19) (oi:=_) (v:=undef) rfl rfl (by kernel_rfl) (by kernel_rfl) (by kernel_rfl) (fun _ _ _ h=>h) (Or.inr ⟨by rfl,rfl⟩) (by assumption) ?_;(simp only [put_lit,List.set]))
     (refine take_at (i:=20) (oi:=_) (v:=undef) rfl rfl (by kernel_rfl) (by kernel_rfl) (by kernel_rfl) (fun _ _ _ h=>h) (Or.inr ⟨by rfl,rfl⟩) (by assumption) ?_;(simp only [put_lit,List.set]))
     (refine take_at (i:=21) (oi:=_) (v:=undef) rfl rfl (by kernel_rfl) (by kernel_rfl) (by kernel_rfl) (fun _ _ _ h=>h) (Or.inr ⟨by rfl,rfl⟩) (by assumption) ?_;(simp only [put_lit,List.set]))
     (refine take_at (i:=22) (oi:=_) (v:=undef) rfl rfl (by kernel_rfl) (by kernel_rfl) (by kernel_rfl) (fun _ _ _ h=>h) (Or.inr ⟨by rfl,rfl⟩) (by assumption) ?_;(simp only [put_lit,List.set]))
     (refine take_at (i:=23) (oi:=_) (v:=undef) rfl rfl (by kernel_rfl) (by kernel_rfl) (by kernel_rfl) (fun _ _ _ h=>h) (Or.inr ⟨by rfl,rfl⟩) (by assumption) ?_;(simp only [put_lit,List.set]))
     (refine tk (i:=24) (v:=?_) rfl rfl (Or.inl ⟨by rfl,?_⟩) ?_;rotate_left;(focus (intro w hSw;(try dsimp only at hSw);go_simp;(try with_reducible rfl)));(simp only [put_lit,List.set]))
     (refine tk (i:=25) (v:=?_) rfl rfl (Or.inl ⟨by rfl,?_⟩) ?_;rotate_left;(focus (intro w hSw;(try dsimp only at hSw);go_simp;(try with_reducible rfl)));(simp only [put_lit,List.set]))
     refine wpAnyH_done (by kernel_rfl) ?_ _
     have Hbx:=Lib.hid (Hbw.out.trans (G3.out.mono Hbw.out.size))
     go_wp2_with fail
     go_roundw;(case rel=>exact ⟨k+1,Hkl.out,by go_num,fun i hi=>(by by_cases hi2:i<k;exact Hst.out i hi2;obtain rfl:i=k:=(by omega);exact FIN.out),Hbx.out⟩);(case measure=>have:=Hkl.out;simp [intOf];omega)
    ·obtain ⟨j,hj⟩:∃ j,k=j+1:=⟨k-1,by omega⟩
     have HV:=Lib.hid hv
     have g1:decide ((0:Int)<(k:Int))=true:=decide_eq_true (by omega)
     have gn:decide (0<k)=true:=decide_eq_true (by omega)
     have y1:(k:Int)-1=(j:Int):=by omega
     have i1:IntKind.i64.wrap (j:Int)=(j:Int):=IntWalk.i64_in _ (by have:=Hkl.out;omega)
     have ja:(j:Int)<(la:Int):=by omega
     have hjl:j<rs.length:=by rw [Hrl.out];have:=Hkl.out;omega
     obtain ⟨n3,A3,l3,c3,B3,m3,d3,n4,A4,l4,c4,B4,m4,d4,_,_,_,u3,u4,u5,_,_,z3,z4⟩:=Hv.out.get hjl
     obtain ⟨_,fp⟩:=getD_fqb Hfq.out hjl
     obtain ⟨p,hp⟩:∃ p,p=rs.getD j r00:=⟨_,rfl⟩
     rw [← hp] at z3 z4 fp
     have ST:=Lib.hid (show stLaw f rs k↔fcmp p.2 r.1≤0 by
      unfold stLaw
      rw [← Int.not_lt]
      rw [show k-1=j by omega,← hp,← Hr.out]
      exact ⟨fun h=>h.2 (by omega),fun h=>⟨hv,fun _=>h⟩⟩)
     have q2:=fp.p
     have Z5:=Lib.hid z3;have Z6:=Lib.hid z4
     clear z3 z4 hp hj hk0 hjl hv
     go_wp2_with fail
     refine wp_region_held_drew (S:=fun w'=>(w'.cell? ⟨b,o+k*6,none⟩=some (.bool n)∧w'.cell? ⟨b,o+k*6+1,none⟩=some (.slice A1 l1 c1)∧w'.cell? ⟨b,o+k*6+2,none⟩=some (.slice B1 m1 d1)∧w'.cell? ⟨b,o+k*6+3,none⟩=some (.bool n')∧w'.cell? ⟨b,o+k*6+4,none⟩=some (.slice A2 l2 c2)∧w'.cell? ⟨b,o+k*6+5,none⟩=some (.slice B2 m2 d2))∧w'.cell? ⟨b,o+j*6+3,none⟩=some (.bool n4)∧w'.cell? ⟨b,o+j*6+4,none⟩=some (.slice A4 l4 c4)∧w'.cell? ⟨b,o+j*6+5,none⟩=some (.slice B4 m4 d4)) (by kernel_rfl) (by (try dsimp only);go_keep) (fun hHeld=>?_)
     (refine tk (i:=0) (v:=?_) rfl rfl (Or.inl ⟨by rfl,?_⟩) ?_;rotate_left;(focus (intro w hSw;(try dsimp only at hSw);go_simp;(try with_reducible rfl)));(simp only [put_lit,List.set]))
     (refine tk (i:=1) (v:=?_) rfl rfl (Or.inl ⟨by rfl,?_⟩) ?_;rotate_left;(focus (intro w hSw;(try dsimp only at hSw);go_simp;(try with_reducible rfl)));(simp only [put_lit,List.set]))
     (refine tk (i:=2) (v:=?_) rfl rfl (Or.inl ⟨by rfl,?_⟩) ?_;rotate_left;(focus (intro w hSw;(try dsimp only at hSw);go_simp;(try with_reducible rfl)));(simp only [put_lit,List.set]))
     (refine tk (i:=3) (v:=?_) rfl rfl (Or.inl ⟨by rfl,?_⟩) ?_;rotate_left;(focus (intro w hSw;(try dsimp only at hSw);go_simp;(try with_reducible rfl)));(simp only [put_lit,List.set]))
     (refine tk (i:=4) (v:=?_) rfl rfl (Or.inl ⟨by rfl,?_⟩) ?_;rotate_left;(focus (intro w hSw;(try dsimp only at hSw);go_simp;(try with_reducible rfl)));(simp only [put_lit,List.set]))
     refine wpAnyH_ready (rs:=[5]) (by kernel_rfl) (by simp) ?_;refine AllReadyH.cons rfl (fun K hK=>?_) AllReadyH.nil;go_simp;refine (lawvalid_any hI _ _ _ f r.1 r.2 _ _ _ _ _ _ _ _ _ _ _ _ _ _ _ ?_ hl h9 ?_ ?_ ?_ ?_ fa fb).mono ?_;(exact HFr.out.below hI Bel.go);(exact Z1.out.below Bel.go);(exact Z2.out.below Bel.go);(exact Z3.out.below Bel.go);(exact Z4.out.below Bel.go);rintro e w3 ⟨rfl,hb3⟩;rw [HV.out];obtain ⟨hcx,hfx⟩:=bcellS hb3;have G3:=Lib.hid ((Below.trans Bel.go (hb3.mono (by simp<;>omega))):Below wr.heap.size wr w3);refine hK.out _ _ ?_ (fun _=>?_)
     ·((try dsimp only);repeat' apply And.intro)<;>(rw [hcx _ (by go_simp)];go_simp)
     clear hHeld hK K hcx hfx;rename_i hHeld
     (refine tk (i:=6) (v:=?_) rfl rfl (Or.inl ⟨by rfl,?_⟩) ?_;rotate_left;(focus (intro w hSw;(try dsimp only at hSw);go_simp;(try with_reducible rfl)));(simp only [put_lit,List.set]))
     (refine tk (i:=7) (v:=?_) rfl rfl (Or.inl ⟨by rfl,?_⟩) ?_;rotate_left;(focus (intro w hSw;(try dsimp only at hSw);go_simp;(try with_reducible rfl)));(simp only [put_lit,List.set]))
     (refine tk (i:=8) (v:=?_) rfl rfl (Or.inl ⟨by rfl,?_⟩) ?_;rotate_left;(focus (intro w hSw;(try dsimp only at hSw);go_simp;(try with_reducible rfl)));(simp only [put_lit,List.set]))
     (refine tk (i:=9) (v:=?_) rfl rfl (Or.inl ⟨by rfl,?_⟩) ?_;rotate_left;(focus (intro w hSw;(try dsimp only at hSw);go_simp;(try with_reducible rfl)));(simp only [put_lit,List.set]))
     (refine tk (i:=10) (v:=?_) rfl rfl (Or.inl ⟨by rfl,?_⟩) ?_;rotate_left;(focus (intro w hSw;(try dsimp only at hSw);go_simp;(try with_reducible rfl)));(simp only [put_lit,List.set]))
     (refine tk (i:=11) (v:=?_) rfl rfl (Or.inl ⟨by rfl,?_⟩) ?_;rotate_left;(focus (intro w hSw;(try dsimp only at hSw);go_simp;(try with_reducible rfl)));(simp only [put_lit,List.set]))
     (refine tk (i:=12) (v:=?_) rfl rfl (Or.inl ⟨by rfl,?_⟩) ?_;rotate_left;(focus (intro w hSw;(try dsimp only at hSw);go_simp;(try with_reducible rfl)));(simp only [put_lit,List.set]))
     (refine tk (i:=13) (v:=?_) rfl rfl (Or.inl ⟨by rfl,?_⟩) ?_;rotate_left;(focus (intro w hSw;(try dsimp only at hSw);go_simp;(try with_reducible rfl)));(simp only [put_lit,List.set]))
     (refine tk (i:=14) (v:=?_) rfl rfl (Or.inl ⟨by rfl,?_⟩) ?_;rotate_left;(focus (intro w hSw;(try dsimp only at hSw);go_simp;(try with_reducible rfl)));(simp only [put_lit,List.set]))
     (refine tk (i:=15) (v:=?_) rfl rfl (Or.inl ⟨by rfl,?_⟩) ?_;rotate_left;(focus (intro w hSw;(try dsimp only at hSw);go_simp;(try with_reducible rfl)));(simp only [put_lit,List.set]))
     (refine tk (i:=16) (v:=?_) rfl rfl (Or.inl ⟨by rfl,?_⟩) ?_;rotate_left;(focus (intro w hSw;(try dsimp only at hSw);go_simp;(try with_reducible rfl)));(simp only [put_lit,List.set]))
     (refine tk (i:=17) (v:=?_) rfl rfl (Or.inl ⟨by rfl,?_⟩) ?_;rotate_left;(focus (intro w hSw;(try dsimp only at hSw);go_simp;(try with_reducible rfl)));(simp only [put_lit,List.set]))
     (refine tk (i:=18) (v:=?_) rfl rfl (Or.inl ⟨by rfl,?_⟩) ?_;rotate_left;(focus (intro w hSw;(try dsimp only at hSw);go_simp;(try with_reducible rfl)));(simp only [put_lit,List.set]))
     (refine tk (i:=19) (v:=?_) rfl rfl (Or.inl ⟨by rfl,?_⟩) ?_;rotate_left;(focus (intro w hSw;(try dsimp only at hSw);go_simp;(try with_reducible rfl)));(simp only [put_lit,List.set]))
     (refine tk (i:=20) (v:=?_) rfl rfl (Or.inl ⟨by rfl,?_⟩) ?_;rotate_left;(focus (intro w hSw;(try dsimp only at hSw);go_simp;(try with_reducible rfl)));(simp only [put_lit,List.set]))
     (refine tk (i:=21) (v:=?_) rfl rfl (Or.inl ⟨by rfl,?_⟩) ?_;rotate_left;(focus (intro w hSw;(try dsimp only at hSw);go_simp;(try with_reducible rfl)));(simp only [put_lit,List.set]))
     refine wpAnyH_ready (rs:=[22]) (by kernel_rfl) (by simp) ?_
     refine AllReadyH.cons rfl (fun K hK=>?_) AllReadyH.nil;go_simp
     refine (rcmp_any _ _ _ _ _ _ _ _ _ _ _ _ _ _ _ _ _ _ _ ?_ ?_ ?_ ?_ (by omega) (by omega) fp.fz fp.fq fa.fz fa.fq).mono ?_
     ·exact (Z5.out.below G3.out).at_.below Bel.go
     ·exact (Z6.out.below G3.out).at_.below Bel.go
     ·exact (Z1.out.below G3.out).at_.below Bel.go
     ·exact (Z2.out.below G3.out).at_.below Bel.go
     rintro e w4 ⟨rfl,hb4⟩
     obtain ⟨C1,hC1⟩:∃ C,C=cmpz (p.2.z*(r.1.q:Int)) (r.1.z*(p.2.q:Int)):=⟨_,rfl⟩
     rw [← hC1]
     have HC1:=Lib.hid (show C1=fcmp p.2 r.1 from hC1)
     clear hC1
     obtain ⟨hcx,hfx⟩:=bcellS hb4
     have G4:=Lib.hid (G3.out.trans (((Below.trans Bel.go (hb4.mono (by simp<;>omega))):Below w3.heap.size w3 w4).mono G3.out.size))
     refine hK.out _ _ ?_ (fun _=>?_)
     ·((try dsimp only);repeat' apply And.intro)<;>(rw [hcx _ (by go_simp)];go_simp)
     clear hHeld hK K hcx hfx;rename_i hHeld
     have Hbx:=Lib.hid (Hbw.out.trans (G4.out.mono Hbw.out.size))
     by_cases g2:0<C1
     ·have b3:decide (0<C1)=true:=decide_eq_true g2
      have FIN:=Lib.hid (show ¬ CmplL f rs from fun h=>(by have h2:=ST.out.1 (h.2 k (by rw [Hrl.out];exact Hkl.out));rw [← HC1.out] at h2;omega))
      clear g2
      (refine tk (i:=23) (v:=?_) rfl rfl (Or.inl ⟨by rfl,?_⟩) ?_;rotate_left;(focus (intro w hSw;(try dsimp only at hSw);go_simp;(try with_reducible rfl)));(simp only [put_lit,List.set]))
      (refine tk (i:=24) (v:=?_) rfl rfl (Or.inl ⟨by rfl,?_⟩) ?_;rotate_left;(focus (intro w hSw;(try dsimp only at hSw);go_simp;(try with_reducible rfl)));(simp only [put_lit,List.set]))
      (refine tk (i:=25) (v:=?_) rfl rfl (Or.inl ⟨by rfl,?_⟩) ?_;rotate_left;(focus (intro w hSw;(try dsimp only at hSw);go_simp;(try with_reducible rfl)));(simp only [put_lit,List.set]))
      refine wpAnyH_done (by kernel_rfl) ?_ _
      go_wp2_with fail
      go_ret
      exact ⟨.no FIN.out,Hb.out.trans (Hbx.out.mono Hb.out.size)⟩
     ·have b3:decide (0<C1)=false:=decide_eq_false g2
      have FIN:=Lib.hid (ST.out.2 (by rw [← HC1.out];omega))
      clear g2
      (refine tk (i:=23) (v:=?_) rfl rfl (Or.inl ⟨by rfl,?_⟩) ?_;rotate_left;(focus (intro w hSw;(try dsimp only at hSw);go_simp;(try with_reducible rfl)));(simp only [put_lit,List.set]))
      (refine tk (i:=24) (v:=?_) rfl rfl (Or.inl ⟨by rfl,?_⟩) ?_;rotate_left;(focus (intro w hSw;(try dsimp only at hSw);go_simp;(try with_reducible rfl)));(simp only [put_lit,List.set]))
      (refine tk (i:=25) (v:=?_) rfl rfl (Or.inl ⟨by rfl,?_⟩) ?_;rotate_left;(focus (intro w hSw;(try dsimp only at hSw);go_simp;(try with_reducible rfl)));(simp only [put_lit,List.set]))
      refine wpAnyH_done (by kernel_rfl) ?_ _
      go_wp2_with fail
      go_roundw;(case rel=>exact ⟨k+1,Hkl.out,by go_num,fun i hi=>(by by_cases hi2:i<k;exact Hst.out i hi2;obtain rfl:i=k:=(by omega);exact FIN.out),Hbx.out⟩);(case measure=>have:=Hkl.out;simp [intOf];omega)
   ·have HV:=Lib.hid (show vld 1 f r.1 r.2=false by simpa using hv)
    have FIN:=Lib.hid (show ¬ CmplL f rs from fun h=>hv (by rw [Hr.out];exact (h.2 k (by rw [Hrl.out];exact Hkl.out)).1))
    clear hv
    go_wp2_with fail
    refine wp_region_held_drew (S:=fun w'=>w'.cell? ⟨b,o+k*6,none⟩=some (.bool n)∧w'.cell? ⟨b,o+k*6+1,none⟩=some (.slice A1 l1 c1)∧w'.cell? ⟨b,o+k*6+2,none⟩=some (.slice B1 m1 d1)∧w'.cell? ⟨b,o+k*6+3,none⟩=some (.bool n')∧w'.cell? ⟨b,o+k*6+4,none⟩=some (.slice A2 l2 c2)∧w'.cell? ⟨b,o+k*6+5,none⟩=some (.slice B2 m2 d2)) (by kernel_rfl) (by (try dsimp only);go_keep) (fun hHeld=>?_)
    (refine tk (i:=0) (v:=?_) rfl rfl (Or.inl ⟨by rfl,?_⟩) ?_;rotate_left;(focus (intro w hSw;(try dsimp only at hSw);go_simp;(try with_reducible rfl)));(simp only [put_lit,List.set]))
    (refine tk (i:=1) (v:=?_) rfl rfl (Or.inl ⟨by rfl,?_⟩) ?_;rotate_left;(focus (intro w hSw;(try dsimp only at hSw);go_simp;(try with_reducible rfl)));(simp only [put_lit,List.set]))
    (refine tk (i:=2) (v:=?_) rfl rfl (Or.inl ⟨by rfl,?_⟩) ?_;rotate_left;(focus (intro w hSw;(try dsimp only at hSw);go_simp;(try with_reducible rfl)));(simp only [put_lit,List.set]))
    (refine tk (i:=3) (v:=?_) rfl rfl (Or.inl ⟨by rfl,?_⟩) ?_;rotate_left;(focus (intro w hSw;(try dsimp only at hSw);go_simp;(try with_reducible rfl)));(simp only [put_lit,List.set]))
    (refine tk (i:=4) (v:=?_) rfl rfl (Or.inl ⟨by rfl,?_⟩) ?_;rotate_left;(focus (intro w hSw;(try dsimp only at hSw);go_simp;(try with_reducible rfl)));(simp only [put_lit,List.set]))
    refine wpAnyH_ready (rs:=[5]) (by kernel_rfl) (by simp) ?_;refine AllReadyH.cons rfl (fun K hK=>?_) AllReadyH.nil;go_simp;refine (lawvalid_any hI _ _ _ f r.1 r.2 _ _ _ _ _ _ _ _ _ _ _ _ _ _ _ ?_ hl h9 ?_ ?_ ?_ ?_ fa fb).mono ?_;(exact HFr.out.below hI Bel.go);(exact Z1.out.below Bel.go);(exact Z2.out.below Bel.go);(exact Z3.out.below Bel.go);(exact Z4.out.below Bel.go);rintro e w3 ⟨rfl,hb3⟩;rw [HV.out];obtain ⟨hcx,hfx⟩:=bcellS hb3;have G3:=Lib.hid ((Below.trans Bel.go (hb3.mono (by simp<;>omega))):Below wr.heap.size wr w3);refine hK.out _ _ ?_ (fun _=>?_)
    ·((try dsimp only);repeat' apply And.intro)<;>(rw [hcx _ (by go_simp)];go_simp)
    clear hHeld hK K hcx hfx;rename_i hHeld
    (refine tk (i:=6) (v:=?_) rfl rfl (Or.inl ⟨by rfl,?_⟩) ?_;rotate_left;(focus (intro w hSw;(try dsimp only at hSw);go_simp;(try with_reducible rfl)));(simp only [put_lit,List.set]))
    (refine tk (i:=7) (v:=?_) rfl rfl (Or.inl ⟨by rfl,?_⟩) ?_;rotate_left;(focus (intro w hSw;(try dsimp only at hSw);go_simp;(try with_reducible rfl)));(simp only [put_lit,List.set]))
    (refine take_at (i:=8) (oi:=_) (v:=undef) rfl rfl (by kernel_rfl) (by kernel_rfl) (by kernel_rfl) (fun _ _ _ h=>h) (Or.inr ⟨by rfl,rfl⟩) (by assumption) ?_;(simp only [put_lit,List.set]))
    (refine take_at (i:=9) (oi:=_) (v:=undef) rfl rfl (by kernel_rfl) (by kernel_rfl) (by kernel_rfl) (fun _ _ _ h=>h) (Or.inr ⟨by rfl,rfl⟩) (by assumption) ?_;(simp only [put_lit,List.set]))
    (refine take_at (i:=10) (oi:=_) (v:=undef) rfl rfl (by kernel_rfl) (by kernel_rfl) (by kernel_rfl) (fun _ _ _ h=>h) (Or.inr ⟨by rfl,rfl⟩) (by assumption) ?_;(simp only [put_lit,List.set]))
    (refine take_at (i:=11) (oi:=_) (v:=undef) rfl rfl (by kernel_rfl) (by kernel_rfl) (by kernel_rfl) (fun _ _ _ h=>h) (Or.inr ⟨by rfl,rfl⟩) (by assumption) ?_;(simp only [put_lit,List.set]))
    (refine take_at (i:=12) (oi:=_) (v:=undef) rfl rfl (by kernel_rfl) (by kernel_rfl) (by kernel_rfl) (fun _ _ _ h=>h) (Or.inr ⟨by rfl,rfl⟩) (by assumption) ?_;(simp only [put_lit,List.set]))
    (refine take_at (i:=13) (oi:=_) (v:=undef) rfl rfl (by kernel_rfl) (by kernel_rfl) (by kernel_rfl) (fun _ _ _ h=>h) (Or.inr ⟨by rfl,rfl⟩) (by assumption) ?_;(simp only [put_lit,List.set]))
    (refine take_at (i:=14) (oi:=_) (v:=undef) rfl rfl (by kernel_rfl) (by kernel_rfl) (by kernel_rfl) (fun _ _ _ h=>h) (Or.inr ⟨by rfl,rfl⟩) (by assumption) ?_;(simp only [put_lit,List.set]))
    (refine take_at (i:=15) (oi:=_) (v:=undef) rfl rfl (by kernel_rfl) (by kernel_rfl) (by kernel_rfl) (fun _ _ _ h=>h) (Or.inr ⟨by rfl,rfl⟩) (by assumption) ?_;(simp only [put_lit,List.set]))
    (refine take_at (i:=16) (oi:=_) (v:=undef) rfl rfl (by kernel_rfl) (by kernel_rfl) (by kernel_rfl) (fun _ _ _ h=>h) (Or.inr ⟨by rfl,rfl⟩) (by assumption) ?_;(simp only [put_lit,List.set]))
    (refine take_at (i:=17) (oi:=_) (v:=undef) rfl rfl (by kernel_rfl) (by kernel_rfl) (by kernel_rfl) (fun _ _ _ h=>h) (Or.inr ⟨by rfl,rfl⟩) (by assumption) ?_;(simp only [put_lit,List.set]))
    (refine take_at (i:=18) (oi:=_) (v:=undef) rfl rfl (by kernel_rfl) (by kernel_rfl) (by kernel_rfl) (fun _ _ _ h=>h) (Or.inr ⟨by rfl,rfl⟩) (by assumption) ?_;(simp only [put_lit,List.set]))
    (refine take_at (i:=19) (oi:=_) (v:=undef) rfl rfl (by kernel_rfl) (by kernel_rfl) (by kernel_rfl) (fun _ _ _ h=>h) (Or.inr ⟨by rfl,rfl⟩) (by assumption) ?_;(simp only [put_lit,List.set]))
    (refine take_at (i:=20) (oi:=_) (v:=undef) rfl rfl (by kernel_rfl) (by kernel_rfl) (by kernel_rfl) (fun _ _ _ h=>h) (Or.inr ⟨by rfl,rfl⟩) (by assumption) ?_;(simp only [put_lit,List.set]))
    (refine take_at (i:=21) (oi:=_) (v:=undef) rfl rfl (by kernel_rfl) (by kernel_rfl) (by kernel_rfl) (fun _ _ _ h=>h) (Or.inr ⟨by rfl,rfl⟩) (by assumption) ?_;(simp only [put_lit,List.set]))
    (refine take_at (i:=22) (oi:=_) (v:=undef) rfl rfl (by kernel_rfl) (by kernel_rfl) (by kernel_rfl) (fun _ _ _ h=>h) (Or.inr ⟨by rfl,rfl⟩) (by assumption) ?_;(simp only [put_lit,List.set]))
    (refine take_at (i:=23) (oi:=_) (v:=undef) rfl rfl (by kernel_rfl) (by kernel_rfl) (by kernel_rfl) (fun _ _ _ h=>h) (Or.inr ⟨by rfl,rfl⟩) (by assumption) ?_;(simp only [put_lit,List.set]))
    (refine take_at (i:=24) (oi:=_) (v:=undef) rfl rfl (by kernel_rfl) (by kernel_rfl) (by kernel_rfl) (fun _ _ _ h=>h) (Or.inr ⟨by rfl,rfl⟩) (by assumption) ?_;(simp only [put_lit,List.set]))
    (refine tk (i:=25) (v:=?_) rfl rfl (Or.inl ⟨by rfl,?_⟩) ?_;rotate_left;(focus (intro w hSw;(try dsimp only at hSw);go_simp;(try with_reducible rfl)));(simp only [put_lit,List.set]))
    refine wpAnyH_done (by kernel_rfl) ?_ _
    have Hbx:=Lib.hid (Hbw.out.trans (G3.out.mono Hbw.out.size))
    go_wp2_with fail
    go_ret
    exact ⟨.no FIN.out,Hb.out.trans (Hbx.out.mono Hb.out.size)⟩
  ·have t1:¬ (k:Int)<(la:Int):=by omega
   have hk2:k=la:=by omega
   subst hk2
   have Hk:=Lib.hid (show ∀ i,i<rs.length→stLaw f rs i from fun i hi=>Hst.out i (by rw [← Hrl.out];exact hi))
   have Hbx:=Hbw
   clear hlt
   go_wp2_with fail
   refine (all_q hI _ _ _ f _ HFr.out h9 (by omega)).mono ?_
   rintro e w3 ⟨rfl,hb3⟩
   replace Hbx:=Lib.hid (Hbx.out.trans (hb3.mono Hbx.out.size))
   obtain ⟨NA,hNA⟩:∃ N,N=nall f:=⟨_,rfl⟩
   rw [← hNA]
   have HNA:=Lib.hid hNA
   clear hNA hb3
   by_cases hn:(k:Int)=NA
   ·have b1:((k:Int) == NA)=true:=by rw [hn];simp
    have FIN:=Lib.hid (show CmplL f rs from ⟨by rw [Hrl.out,hn,HNA.out],Hk.out⟩)
    clear hn
    go_wp2_with fail
    go_ret
    exact ⟨.yes FIN.out,Hb.out.trans (Hbx.out.mono Hb.out.size)⟩
   ·have b1:((k:Int) == NA)=false:=by rw [beq_eq_false_iff_ne];exact hn
    have FIN:=Lib.hid (show ¬ CmplL f rs from fun h=>hn (by rw [← Hrl.out,HNA.out];exact h.1))
    clear hn
    go_wp2_with fail
    go_ret
    exact ⟨.no FIN.out,Hb.out.trans (Hbx.out.mono Hb.out.size)⟩
theorem BoolE.get {P:Prop} {e:Ending} (h:BoolE P e) (p:P):e=.returned (.bool true):=by
 obtain ⟨v,rfl,hv⟩:=h
 rw [hv.2 p]
theorem BoolE.not {P:Prop} {e:Ending} (h:BoolE P e) (p:¬ P):e=.returned (.bool false):=by
 obtain ⟨v,rfl,hv⟩:=h
 cases v with
 | false=>rfl
 | true=>exact absurd (hv.1 rfl) p
set_option maxRecDepth 100000 in
set_option maxHeartbeats 4000000 in
theorem law_completes (A:Option Addr) (la ca:Nat) (cs:List Int) (w:World) (h:I16At w A la ca cs) (hlm:la≤9223372036854775807) :
  Calls Tryz.prog 6 #[.slice A la ca] w fun e w'=>e=.returned (.bool true)∧Below w.heap.size w w':=by
 have Hi:=Lib.hid h
 have F9:P9 (ptrim (cs.take 9)):=short_p9 h (by omega)
 obtain ⟨_,lF,tF,_⟩:=short_bd h 9
 obtain ⟨F,hF⟩:∃ F,F=ptrim (cs.take 9):=⟨_,rfl⟩
 rw [← hF] at F9 lF tF
 have HFe:=Lib.hid hF.symm
 clear h hF
 go_enter Tryz.func6,Tryz.ntmps6
 go_wp2_with fail
 refine (awake16_any _).mono ?_
 rintro e w1 ⟨rfl,hb1⟩
 replace Hi:=Lib.hid (Hi.out.below hb1)
 have Hb:=Lib.hid hb1
 clear hb1
 go_wp2_with fail
 refine (short_any _ _ _ 9 _ _ Hi.out (by omega) hlm).mono ?_
 rintro e w2 ⟨Af,lf,cf,rfl,h2f,hb2⟩
 rw [HFe.out] at h2f
 have hlf:lf≤9:=by have:=h2f.length;omega
 have HP:=Lib.hid h2f
 replace Hb:=Lib.hid (Hb.out.trans (hb2.mono Hb.out.size))
 clear hb2 h2f Hi
 go_wp2_with fail
 refine (roots_any ikN _ _ _ F _ HP.out F9.cp.fit.smp (fun _=>F9.q) (fun h=>SqF.of9 F9 h) (by omega)).mono ?_
 rintro e w3 ⟨⟨A3,l3,c3,rfl,h3⟩,hb3⟩
 have hl3:l3≤9:=by rw [← h3.length];exact proots_le9 F9
 have C1:=Lib.hid (cmpl_roots F9)
 have C2:=Lib.hid (cmpl_law F9 (proots_fqb F9) C1.out)
 have FQ:=Lib.hid (proots_fqb F9)
 replace HP:=Lib.hid (HP.out.below ikN hb3)
 replace Hb:=Lib.hid (Hb.out.trans (hb3.mono Hb.out.size))
 have HR:=Lib.hid h3
 clear hb3 h3
 go_wp2_with fail
 refine (lawcomplete_any ikN _ _ _ F _ _ _ (proots F) _ HP.out (by omega) F9 HR.out FQ.out (by omega)).mono ?_
 rintro e w4 ⟨he,hb4⟩
 have he2:=he.get C2.out
 subst he2
 replace HP:=Lib.hid (HP.out.below ikN hb4)
 replace HR:=Lib.hid (HR.out.below hb4)
 replace Hb:=Lib.hid (Hb.out.trans (hb4.mono Hb.out.size))
 clear hb4 he
 go_wp2_with fail
 refine (complete_any ikN _ _ _ F _ _ _ (proots F) _ HP.out (by omega) F9 HR.out FQ.out (by omega)).mono ?_
 rintro e w5 ⟨he,hb5⟩
 have he2:=he.get C1.out
 subst he2
 replace Hb:=Lib.hid (Hb.out.trans (hb5.mono Hb.out.size))
 clear hb5 he HP HR
 go_wp2
 go_ret
 exact ⟨rfl,Hb.out⟩
end Go.Proofs.YtppggpfcdgilmaaGreat
