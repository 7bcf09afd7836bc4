/- The reference cylinderref14: Positive; the law RootboundDescartes. -/
import Derived.Test.YtipocabbjinbhaaFcd
import Derived.Test.YtipocabbjinbhaaRbH
namespace Go.Proofs.Ytipocabbjinbhaa
open Go Go.RowKit
theorem vst_dv (p:List Int):∀ n k,k+n=p.length→((vst p k).1:Int)+chg (vst p k).2 ((sgl p).drop k)=chg (vst p (k+n)).2 ((sgl p).drop (k+n))+(vst p (k+n)).1:=by
 intro n
 induction n with
 | zero=>intro k _;rw [Nat.add_zero];omega
 | succ n ih =>
   intro k hk
   have h1:=ih (k+1) (by omega)
   rw [show k+(n+1)=k+1+n by omega,← h1]
   have hlt:k<(sgl p).length:=by unfold sgl;rw [List.length_map];omega
   rw [List.drop_eq_getElem_cons hlt]
   have hg:sg (p.getD k 0)=(sgl p)[k]:=by
    rw [← sgl_get,List.getD_eq_getElem?_getD,List.getElem?_eq_getElem hlt]
    rfl
   rw [show vst p (k+1)=if sg (p.getD k 0)=0 then vst p k else (if sg (p.getD k 0)=-(vst p k).2 then (vst p k).1+1 else (vst p k).1,sg (p.getD k 0)) from rfl,hg]
   generalize (sgl p)[k]=s at *
   by_cases h0:s=0
   ·rw [if_pos h0,h0,chg_zero]
   ·rw [if_neg h0]
    conv=>lhs;rw [chg,if_neg h0]
    by_cases h2:s=-(vst p k).2
    ·rw [if_pos h2,if_pos h2]
     push_cast
     omega
    ·rw [if_neg h2,if_neg h2]
theorem vst_dvar (p:List Int):((vst p p.length).1:Int)=dvar p:=by
 have h:=vst_dv p p.length 0 (by omega)
 have hl:(sgl p).length=p.length:=by unfold sgl;rw [List.length_map]
 rw [Nat.zero_add,← hl,List.drop_length,hl] at h
 have e1:chg (vst p p.length).2 []=0:=rfl
 have e2:vst p 0=(0,0):=rfl
 rw [e1,e2,List.drop_zero] at h
 simp only at h
 unfold dvar
 omega
theorem facs_irr' {qs:List (List Int)} (hq:∀ q∈qs,plen q≠0∧plen q≤3):∀ x∈facs [] qs,isLin x.1∨isQd x.1:=facs_mem (fun q h=>(spl_spec (hq q h).1 (hq q h).2).1) (fun x hx=>by cases hx)
theorem fsum_app (J:List Int→Int) (x:List Int×Nat):∀ l:List (List Int×Nat),fsum J (l ++ [x])=fsum J l+(x.2:Int)*J x.1
 | []=>by show (x.2:Int)*J x.1+0=0+_;omega
 | (r,m) :: l=>by
   show (m:Int)*J r+fsum J (l ++ [x])=(m:Int)*J r+fsum J l+_
   rw [fsum_app J x l]
   omega
theorem posc_bd (p:List Int):0≤posc p∧posc p≤2:=by
 unfold posc
 repeat' split
 all_goals omega
theorem fsum_posc_bd:∀ (l:List (List Int×Nat)),(∀ x∈l,x.2≤100)→0≤fsum posc l∧fsum posc l≤200*l.length
 | [],_=>⟨Int.le_refl _,Int.le_refl _⟩
 | (r,m) :: l,h=>by
   obtain ⟨h1,h2⟩:=fsum_posc_bd l fun x hx=>h x (List.mem_cons_of_mem _ hx)
   obtain ⟨h3,h4⟩:=posc_bd r
   have h5:m≤100:=h (r,m) List.mem_cons_self
   have h6:(0:Int)≤(m:Int)*posc r:=Int.mul_nonneg (by omega) h3
   have h7:(m:Int)*posc r≤100*2:=Int.mul_le_mul (by omega) h4 h3 (by omega)
   show 0≤(m:Int)*posc r+fsum posc l∧(m:Int)*posc r+fsum posc l≤200*((l.length+1:Nat):Int)
   omega
theorem fs_at {w:World} {A:Option Addr} {l c:Nat} {fs:List (List Int×Nat)} (h:FsAt w A l c fs) {k:Nat} (hk:k<l):∃ b o A1 l1 c1,A=some ⟨b,o,none⟩∧w.cell? ⟨b,o+k*2,none⟩=some (.slice A1 l1 c1)∧w.cell? ⟨b,o+k*2+1,none⟩=some (.int .i64 ((fs.getD k ([],0)).2:Int))∧I64At w A1 l1 c1 (fs.getD k ([],0)).1:=by
 rcases h.elems with ⟨h0,_⟩ | ⟨b,o,e,hb,hv⟩
 ·omega
 ·obtain ⟨vs,⟨A1,l1,c1,ev,h1⟩,hc⟩:=hv k _ (getD_fs (by rw [h.length];exact hk))
  subst ev
  have:=hc 0 _ rfl
  rw [Nat.add_zero] at this
  exact ⟨b,o,A1,l1,c1,e,this,hc 1 _ rfl,h1⟩
set_option maxRecDepth 100000 in
set_option maxHeartbeats 8000000 in
theorem positive_any {w:World} {A:Option Addr} {l c:Nat} {fs:List (List Int×Nat)} (hF:FsAt w A l c fs) (hl:l≤100) (hs:∀ x∈fs,(isLin x.1∨isQd x.1)∧(∀ j,(x.1.getD j 0).natAbs≤29)∧x.2≤100) :
  Calls Try.prog 11 #[.slice A l c] w fun e w'=>e=.returned (.int .i64 (fsum posc fs))∧Below w.heap.size w w':=by
 have HF:=Lib.hid hF
 have HS:=Lib.hid hs
 have Hll:=Lib.hid hF.length
 have HSB:=Lib.hid (fun n=>fsum_posc_bd (fs.take n) fun x hx=>(hs x (List.mem_of_mem_take hx)).2.2)
 clear hF hs
 go_enter Try.func11,Try.ntmps11
 go_wp2
 go_loopw [3,4] (fun s3 s4 wr=>∃ i:Nat,i≤l∧s3=.int .i64 (fsum posc (fs.take i))∧s4=.int .i64 (i:Int)∧Below w.heap.size w wr) (fun _ s4 _=>l-(intOf s4).toNat)
 case atStart=>exact ⟨0,Nat.zero_le _,rfl,rfl,Below.refl _ _⟩
 case round =>
  obtain ⟨i,hi,rfl,rfl,hbw⟩:=hrel
  have HF1:=Lib.hid (fs_below HF.out hbw)
  have Hbw:=Lib.hid hbw
  obtain ⟨N,hN⟩:∃ N,N=fsum posc (fs.take i):=⟨_,rfl⟩
  rw [← hN]
  have hN2:=HSB.out i
  rw [← hN] at hN2
  have hlen:(fs.take i).length≤100:=by rw [List.length_take,Hll.out];omega
  have HN:=Lib.hid hN
  clear hN hbw
  by_cases hlt:i<l
  ·have Hlt:=Lib.hid hlt
   have hif:i<fs.length:=by rw [Hll.out];exact hlt
   obtain ⟨b,o,A1,l1,c1,rfl,k1,k2,k3⟩:=fs_at HF1.out hlt
   have hmem:fs.getD i ([],0)∈fs:=by rw [List.getD_eq_getElem?_getD,List.getElem?_eq_getElem hif];exact List.getElem_mem _
   obtain ⟨q1,q2,q3⟩:=HS.out _ hmem
   have HT:=Lib.hid (show fsum posc (fs.take (i+1))=N+((fs.getD i ([],0)).2:Int)*posc (fs.getD i ([],0)).1 by rw [take_snoc hif ([],0),fsum_app,HN.out])
   obtain ⟨r,hr⟩:∃ r,r=(fs.getD i ([],0)).1:=⟨_,rfl⟩
   obtain ⟨m,hm⟩:∃ m,m=(fs.getD i ([],0)).2:=⟨_,rfl⟩
   rw [← hr] at k3 q1 q2 HT
   rw [← hm] at k2 q3 HT
   have ti:(i:Int)<(l:Int):=by omega
   have tw:IntKind.i64.wrap ((i:Int)+1)=(i:Int)+1:=IntWalk.i64_in _ (by omega)
   have tn1:IntKind.i64.wrap (N+(m:Int))=N+(m:Int):=IntWalk.i64_in _ (by omega)
   have t2m:IntKind.i64.wrap (2*(m:Int))=2*(m:Int):=IntWalk.i64_in _ (by omega)
   have tn2:IntKind.i64.wrap (N+2*(m:Int))=N+2*(m:Int):=IntWalk.i64_in _ (by omega)
   clear hr hm hmem hif hi hN2 hlen
   rcases q1 with q1 | q1
   · -- a line
     have hl1:l1=2:=by rw [← k3.length];exact q1.1
     subst hl1
     obtain ⟨b1,o1,rfl,hb1,hc1⟩:=k3.at_ (by omega)
     have e0:=hc1 0 (by omega)
     rw [Nat.add_zero] at e0
     have HP:=Lib.hid (show posc r=if r.getD 0 0<0 then 1 else 0 by unfold posc;rw [if_pos q1.1])
     obtain ⟨x0,hx0⟩:∃ x,x=r.getD 0 0:=⟨_,rfl⟩
     rw [← hx0] at e0 HP
     clear hx0 hc1 k3 q1 q2
     by_cases c0:x0<0
     ·rw [if_pos c0] at HP
      rw [HP.out] at HT
      go_wp2_with fail
      clear e0 hb1
      refine wp_region_held_drew (S:=fun _=>True) (by kernel_rfl) trivial (fun hHeld=>?_);(refine tk (i:=0) (v:=?_) rfl rfl (Or.inl ⟨by rfl,?_⟩) ?_;rotate_left;(focus (intro w hSw;(try dsimp only at hSw);go_simp;(try with_reducible rfl)));(simp only [put_lit,List.set]));(refine tk (i:=1) (v:=?_) rfl rfl (Or.inl ⟨by rfl,?_⟩) ?_;rotate_left;(focus (intro w hSw;(try dsimp only at hSw);go_simp;(try with_reducible rfl)));(simp only [put_lit,List.set]));(refine tk (i:=2) (v:=?_) rfl rfl (Or.inl ⟨by rfl,?_⟩) ?_;rotate_left;(focus (intro w hSw;(try dsimp only at hSw);go_simp;(try with_reducible rfl)));(simp only [put_lit,List.set]));(refine tk (i:=3) (v:=?_) rfl rfl (Or.inl ⟨by rfl,?_⟩) ?_;rotate_left;(focus (intro w hSw;(try dsimp only at hSw);go_simp;(try with_reducible rfl)));(simp only [put_lit,List.set]));(refine take_at (i:=4) (oi:=_) (v:=undef) rfl rfl (by kernel_rfl) (by kernel_rfl) (by kernel_rfl) (fun _ _ _ h=>h) (Or.inr ⟨by rfl,rfl⟩) (by assumption) ?_;(simp only [put_lit,List.set]));(refine take_at (i:=5) (oi:=_) (v:=undef) rfl rfl (by kernel_rfl) (by kernel_rfl) (by kernel_rfl) (fun _ _ _ h=>h) (Or.inr ⟨by rfl,rfl⟩) (by assumption) ?_;(simp only [put_lit,List.set]));(refine take_at (i:=6) (oi:=_) (v:=undef) rfl rfl (by kernel_rfl) (by kernel_rfl) (by kernel_rfl) (fun _ _ _ h=>h) (Or.inr ⟨by rfl,rfl⟩) (by assumption) ?_;(simp only [put_lit,List.set]));(refine take_at (i:=7) (oi:=_) (v:=undef) rfl rfl (by kernel_rfl) (by kernel_rfl) (by kernel_rfl) (fun _ _ _ h=>h) (Or.inr ⟨by rfl,rfl⟩) (by assumption) ?_;(simp only [put_lit,List.set]));(refine take_at (i:=8) (oi:=_) (v:=undef) rfl rfl (by kernel_rfl) (by kernel_rfl) (by kernel_rfl) (fun _ _ _ h=>h) (Or.inr ⟨by rfl,rfl⟩) (by assumption) ?_;(simp only [put_lit,List.set]));(refine take_at (i:=9) (oi:=_) (v:=undef) rfl rfl (by kernel_rfl) (by kernel_rfl) (by kernel_rfl) (fun _ _ _ h=>h) (Or.inr ⟨by rfl,rfl⟩) (by assumption) ?_;(simp only [put_lit,List.set]));(refine take_at (i:=10) (oi:=_) (v:=undef) rfl rfl (by kernel_rfl) (by kernel_rfl) (by kernel_rfl) (fun _ _ _ h=>h) (Or.inr ⟨by rfl,rfl⟩) (by assumption) ?_;(simp only [put_lit,List.set]));(refine take_at (i:=11) (oi:=_) (v:=undef) rfl rfl (by kernel_rfl) (by kernel_rfl) (by kernel_rfl) (fun _ _ _ h=>h) (Or.inr ⟨by rfl,rfl⟩) (by assumption) ?_;(simp only [put_lit,List.set]));(refine take_at (i:=12) (oi:=_) (v:=undef) rfl rfl (by kernel_rfl) (by kernel_rfl) (by kernel_rfl) (fun _ _ _ h=>h) (Or.inr ⟨by rfl,rfl⟩) (by assumption) ?_;(simp only [put_lit,List.set]));(refine take_at (i:=13) (oi:=_) (v:=undef) rfl rfl (by kernel_rfl) (by kernel_rfl) (by kernel_rfl) (fun _ _ _ h=>h) (Or.inr ⟨by rfl,rfl⟩) (by assumption) ?_;(simp only [put_lit,List.set]));(refine take_at (i:=14) (oi:=_) (v:=undef) rfl rfl (by kernel_rfl) (by kernel_rfl) (by kernel_rfl) (fun _ _ _ h=>h) (Or.inr ⟨by rfl,rfl⟩) (by assumption) ?_;(simp only [put_lit,List.set]));(refine take_at (i:=15) (oi:=_) (v:=undef) rfl rfl (by kernel_rfl) (by kernel_rfl) (by kernel_rfl) (fun _ _ _ h=>h) (Or.inr ⟨by rfl,rfl⟩) (by assumption) ?_;(simp only [put_lit,List.set]));(refine take_at (i:=16) (oi:=_) (v:=undef) rfl rfl (by kernel_rfl) (by kernel_rfl) (by kernel_rfl) (fun _ _ _ h=>h) (Or.inr ⟨by rfl,rfl⟩) (by assumption) ?_;(simp only [put_lit,List.set]));(refine take_at (i:=17) (oi:=_) (v:=undef) rfl rfl (by kernel_rfl) (by kernel_rfl) (by kernel_rfl) (fun _ _ _ h=>h) (Or.inr ⟨by rfl,rfl⟩) (by assumption) ?_;(simp only [put_lit,List.set]));(refine take_at (i:=18) (oi:=_) (v:=undef) rfl rfl (by kernel_rfl) (by kernel_rfl) (by kernel_rfl) (fun _ _ _ h=>h) (Or.inr ⟨by rfl,rfl⟩) (by assumption) ?_;(simp only [put_lit,List.set]));(refine take_at (i:=19) (oi:=_) (v:=undef) rfl rfl (by kernel_rfl) (by kernel_rfl) (by kernel_rfl) (fun _ _ _ h=>h) (Or.inr ⟨by rfl,rfl⟩) (by assumption) ?_;(simp only [put_lit,List.set]));(refine take_at (i:=20) (oi:=_) (v:=undef) rfl rfl (by kernel_rfl) (by kernel_rfl) (by kernel_rfl) (fun _ _ _ h=>h) (Or.inr ⟨by rfl,rfl⟩) (by assumption) ?_;(simp only [put_lit,List.set]));(refine tk (i:=21) (v:=?_) rfl rfl (Or.inl ⟨by rfl,?_⟩) ?_;rotate_left;(focus (intro w hSw;(try dsimp only at hSw);go_simp;(try with_reducible rfl)));(simp only [put_lit,List.set]));refine wpAnyH_done (by kernel_rfl) ?_ _;clear hHeld;go_wp2;go_roundw
      case rel=>exact ⟨i+1,Hlt.out,by rw [HT.out];congr 1;omega,by go_num,below_drewn Hbw.out _⟩
      case measure=>have:=Hlt.out;simp [intOf];omega
     ·rw [if_neg c0] at HP
      rw [HP.out] at HT
      have d0:decide (x0<0)=false:=decide_eq_false c0
      go_wp2_with fail
      clear e0 hb1 d0
      refine wp_region_held_drew (S:=fun _=>True) (by kernel_rfl) trivial (fun hHeld=>?_);(refine tk (i:=0) (v:=?_) rfl rfl (Or.inl ⟨by rfl,?_⟩) ?_;rotate_left;(focus (intro w hSw;(try dsimp only at hSw);go_simp;(try with_reducible rfl)));(simp only [put_lit,List.set]));(refine tk (i:=1) (v:=?_) rfl rfl (Or.inl ⟨by rfl,?_⟩) ?_;rotate_left;(focus (intro w hSw;(try dsimp only at hSw);go_simp;(try with_reducible rfl)));(simp only [put_lit,List.set]));(refine tk (i:=2) (v:=?_) rfl rfl (Or.inl ⟨by rfl,?_⟩) ?_;rotate_left;(focus (intro w hSw;(try dsimp only at hSw);go_simp;(try with_reducible rfl)));(simp only [put_lit,List.set]));(refine tk (i:=3) (v:=?_) rfl rfl (Or.inl ⟨by rfl,?_⟩) ?_;rotate_left;(focus (intro w hSw;(try dsimp only at hSw);go_simp;(try with_reducible rfl)));(simp only [put_lit,List.set]));(refine take_at (i:=4) (oi:=_) (v:=undef) rfl rfl (by kernel_rfl) (by kernel_rfl) (by kernel_rfl) (fun _ _ _ h=>h) (Or.inr ⟨by rfl,rfl⟩) (by assumption) ?_;(simp only [put_lit,List.set]));(refine take_at (i:=5) (oi:=_) (v:=undef) rfl rfl (by kernel_rfl) (by kernel_rfl) (by kernel_rfl) (fun _ _ _ h=>h) (Or.inr ⟨by rfl,rfl⟩) (by assumption) ?_;(simp only [put_lit,List.set]));(refine take_at (i:=6) (oi:=_) (v:=undef) rfl rfl (by kernel_rfl) (by kernel_rfl) (by kernel_rfl) (fun _ _ _ h=>h) (Or.inr ⟨by rfl,rfl⟩) (by assumption) ?_;(simp only [put_lit,List.set]));(refine take_at (i:=7) (oi:=_) (v:=undef) rfl rfl (by kernel_rfl) (by kernel_rfl) (by kernel_rfl) (fun _ _ _ h=>h) (Or.inr ⟨by rfl,rfl⟩) (by assumption) ?_;(simp only [put_lit,List.set]));(refine take_at (i:=8) (oi:=_) (v:=undef) rfl rfl (by kernel_rfl) (by kernel_rfl) (by kernel_rfl) (fun _ _ _ h=>h) (Or.inr ⟨by rfl,rfl⟩) (by assumption) ?_;(simp only [put_lit,List.set]));(refine take_at (i:=9) (oi:=_) (v:=undef) rfl rfl (by kernel_rfl) (by kernel_rfl) (by kernel_rfl) (fun _ _ _ h=>h) (Or.inr ⟨by rfl,rfl⟩) (by assumption) ?_;(simp only [put_lit,List.set]));(refine take_at (i:=10) (oi:=_) (v:=undef) rfl rfl (by kernel_rfl) (by kernel_rfl) (by kernel_rfl) (fun _ _ _ h=>h) (Or.inr ⟨by rfl,rfl⟩) (by assumption) ?_;(simp only [put_lit,List.set]));(refine take_at (i:=11) (oi:=_) (v:=undef) rfl rfl (by kernel_rfl) (by kernel_rfl) (by kernel_rfl) (fun _ _ _ h=>h) (Or.inr ⟨by rfl,rfl⟩) (by assumption) ?_;(simp only [put_lit,List.set]));(refine take_at (i:=12) (oi:=_) (v:=undef) rfl rfl (by kernel_rfl) (by kernel_rfl) (by kernel_rfl) (fun _ _ _ h=>h) (Or.inr ⟨by rfl,rfl⟩) (by assumption) ?_;(simp only [put_lit,List.set]));(refine take_at (i:=13) (oi:=_) (v:=undef) rfl rfl (by kernel_rfl) (by kernel_rfl) (by kernel_rfl) (fun _ _ _ h=>h) (Or.inr ⟨by rfl,rfl⟩) (by assumption) ?_;(simp only [put_lit,List.set]));(refine take_at (i:=14) (oi:=_) (v:=undef) rfl rfl (by kernel_rfl) (by kernel_rfl) (by kernel_rfl) (fun _ _ _ h=>h) (Or.inr ⟨by rfl,rfl⟩) (by assumption) ?_;(simp only [put_lit,List.set]));(refine take_at (i:=15) (oi:=_) (v:=undef) rfl rfl (by kernel_rfl) (by kernel_rfl) (by kernel_rfl) (fun _ _ _ h=>h) (Or.inr ⟨by rfl,rfl⟩) (by assumption) ?_;(simp only [put_lit,List.set]));(refine take_at (i:=16) (oi:=_) (v:=undef) rfl rfl (by kernel_rfl) (by kernel_rfl) (by kernel_rfl) (fun _ _ _ h=>h) (Or.inr ⟨by rfl,rfl⟩) (by assumption) ?_;(simp only [put_lit,List.set]));(refine take_at (i:=17) (oi:=_) (v:=undef) rfl rfl (by kernel_rfl) (by kernel_rfl) (by kernel_rfl) (fun _ _ _ h=>h) (Or.inr ⟨by rfl,rfl⟩) (by assumption) ?_;(simp only [put_lit,List.set]));(refine take_at (i:=18) (oi:=_) (v:=undef) rfl rfl (by kernel_rfl) (by kernel_rfl) (by kernel_rfl) (fun _ _ _ h=>h) (Or.inr ⟨by rfl,rfl⟩) (by assumption) ?_;(simp only [put_lit,List.set]));(refine take_at (i:=19) (oi:=_) (v:=undef) rfl rfl (by kernel_rfl) (by kernel_rfl) (by kernel_rfl) (fun _ _ _ h=>h) (Or.inr ⟨by rfl,rfl⟩) (by assumption) ?_;(simp only [put_lit,List.set]));(refine take_at (i:=20) (oi:=_) (v:=undef) rfl rfl (by kernel_rfl) (by kernel_rfl) (by kernel_rfl) (fun _ _ _ h=>h) (Or.inr ⟨by rfl,rfl⟩) (by assumption) ?_;(simp only [put_lit,List.set]));(refine tk (i:=21) (v:=?_) rfl rfl (Or.inl ⟨by rfl,?_⟩) ?_;rotate_left;(focus (intro w hSw;(try dsimp only at hSw);go_simp;(try with_reducible rfl)));(simp only [put_lit,List.set]));refine wpAnyH_done (by kernel_rfl) ?_ _;clear hHeld;go_wp2;go_roundw
      case rel=>exact ⟨i+1,Hlt.out,by rw [HT.out];congr 1;omega,by go_num,below_drewn Hbw.out _⟩
      case measure=>have:=Hlt.out;simp [intOf];omega
   · -- a quadratic polynomial
     have hl1:l1=3:=by rw [← k3.length];exact q1.1
     subst hl1
     obtain ⟨b1,o1,rfl,hb1,hc1⟩:=k3.at_ (by omega)
     have e0:=hc1 0 (by omega)
     have e1:=hc1 1 (by omega)
     have e2:=hc1 2 (by omega)
     rw [Nat.add_zero] at e0
     have HP:=Lib.hid (show posc r=if 0<r.getD 1 0*r.getD 1 0-4*r.getD 2 0*r.getD 0 0 then (if r.getD 0 0<0 then 1 else if r.getD 1 0<0 then 2 else 0) else 0 by unfold posc;rw [if_neg (by rw [q1.1];decide)];rfl)
     have v0:=q2 0
     have v1:=q2 1
     have v2:=q2 2
     obtain ⟨x0,hx0⟩:∃ x,x=r.getD 0 0:=⟨_,rfl⟩
     obtain ⟨x1,hx1⟩:∃ x,x=r.getD 1 0:=⟨_,rfl⟩
     obtain ⟨x2,hx2⟩:∃ x,x=r.getD 2 0:=⟨_,rfl⟩
     rw [← hx0] at e0 HP v0
     rw [← hx1] at e1 HP v1
     rw [← hx2] at e2 HP v2
     obtain ⟨y1,hy1⟩:∃ y,y=x1*x1:=⟨_,rfl⟩
     obtain ⟨y2,hy2⟩:∃ y,y=4*x2:=⟨_,rfl⟩
     obtain ⟨y3,hy3⟩:∃ y,y=y2*x0:=⟨_,rfl⟩
     have m1:y1.natAbs≤841:=by rw [hy1,Int.natAbs_mul];exact Nat.mul_le_mul v1 v1
     have m3:y3.natAbs≤116*29:=by rw [hy3,Int.natAbs_mul];exact Nat.mul_le_mul (by omega) v0
     have i1:IntKind.i64.wrap y1=y1:=IntWalk.i64_in _ (by omega)
     have i2:IntKind.i64.wrap y2=y2:=IntWalk.i64_in _ (by omega)
     have i3:IntKind.i64.wrap y3=y3:=IntWalk.i64_in _ (by omega)
     have i4:IntKind.i64.wrap (y1-y3)=y1-y3:=IntWalk.i64_in _ (by omega)
     have f1:x1*x1=y1:=hy1.symm
     have f2:4*x2=y2:=hy2.symm
     have f3:y2*x0=y3:=hy3.symm
     rw [f1,f2,f3] at HP
     clear hx0 hx1 hx2 hc1 k3 q1 q2 hy1 hy2 hy3 v0 v1 v2 m1 m3
     go_wp2_with fail
     refine wp_region_held_drew (S:=fun w'=>w'.cell? ⟨b1,o1,none⟩=some (.int .i64 x0)∧w'.cell? ⟨b1,o1+1,none⟩=some (.int .i64 x1)∧w'.cell? ⟨b1,o1+2,none⟩=some (.int .i64 x2)) (by kernel_rfl) (by (try dsimp only);go_keep) (fun hHeld=>?_)
     (refine tk (i:=0) (v:=?_) rfl rfl (Or.inl ⟨by rfl,?_⟩) ?_;rotate_left;(focus (intro w hSw;(try dsimp only at hSw);go_simp;(try with_reducible rfl)));(simp only [put_lit,List.set]))
     (refine tk (i:=1) (v:=?_) rfl rfl (Or.inl ⟨by rfl,?_⟩) ?_;rotate_left;(focus (intro w hSw;(try dsimp only at hSw);go_simp;(try with_reducible rfl)));(simp only [put_lit,List.set]))
     (refine tk (i:=2) (v:=?_) rfl rfl (Or.inl ⟨by rfl,?_⟩) ?_;rotate_left;(focus (intro w hSw;(try dsimp only at hSw);go_simp;(try with_reducible rfl)));(simp only [put_lit,List.set]))
     (refine tk (i:=3) (v:=?_) rfl rfl (Or.inl ⟨by rfl,?_⟩) ?_;rotate_left;(focus (intro w hSw;(try dsimp only at hSw);go_simp;(try with_reducible rfl)));(simp only [put_lit,List.set]))
     (refine tk (i:=4) (v:=?_) rfl rfl (Or.inl ⟨by rfl,?_⟩) ?_;rotate_left;(focus (intro w hSw;(try dsimp only at hSw);go_simp;(try with_reducible rfl)));(simp only [put_lit,List.set]))
     (refine tk (i:=5) (v:=?_) rfl rfl (Or.inl ⟨by rfl,?_⟩) ?_;rotate_left;(focus (intro w hSw;(try dsimp only at hSw);go_simp;(try with_reducible rfl)));(simp only [put_lit,List.set]))
     (refine tk (i:=6) (v:=?_) rfl rfl (Or.inl ⟨by rfl,?_⟩) ?_;rotate_left;(focus (intro w hSw;(try dsimp only at hSw);go_simp;(try with_reducible rfl)));(simp only [put_lit,List.set]))
     (refine tk (i:=7) (v:=?_) rfl rfl (Or.inl ⟨by rfl,?_⟩) ?_;rotate_left;(focus (intro w hSw;(try dsimp only at hSw);go_simp;(try with_reducible rfl)));(simp only [put_lit,List.set]))
     (refine tk (i:=8) (v:=?_) rfl rfl (Or.inl ⟨by rfl,?_⟩) ?_;rotate_left;(focus (intro w hSw;(try dsimp only at hSw);go_simp;(try with_reducible rfl)));(simp only [put_lit,List.set]))
     (refine tk (i:=9) (v:=?_) rfl rfl (Or.inl ⟨by rfl,?_⟩) ?_;rotate_left;(focus (intro w hSw;(try dsimp only at hSw);go_simp;(try with_reducible rfl)));(simp only [put_lit,List.set]))
     (refine tk (i:=10) (v:=?_) rfl rfl (Or.inl ⟨by rfl,?_⟩) ?_;rotate_left;(focus (intro w hSw;(try dsimp only at hSw);go_simp;(try with_reducible rfl)));(simp only [put_lit,List.set]))
     (refine tk (i:=11) (v:=?_) rfl rfl (Or.inl ⟨by rfl,?_⟩) ?_;rotate_left;(focus (intro w hSw;(try dsimp only at hSw);go_simp;(try with_reducible rfl)));(simp only [put_lit,List.set]))
     (refine tk (i:=12) (v:=?_) rfl rfl (Or.inl ⟨by rfl,?_⟩) ?_;rotate_left;(focus (intro w hSw;(try dsimp only at hSw);go_simp;(try with_reducible rfl)));(simp only [put_lit,List.set]))
     (refine tk (i:=13) (v:=?_) rfl rfl (Or.inl ⟨by rfl,?_⟩) ?_;rotate_left;(focus (intro w hSw;(try dsimp only at hSw);go_simp;(try with_reducible rfl)));(simp only [put_lit,List.set]))
     (refine tk (i:=14) (v:=?_) rfl rfl (Or.inl ⟨by rfl,?_⟩) ?_;rotate_left;(focus (intro w hSw;(try dsimp only at hSw);go_simp;(try with_reducible rfl)));(simp only [put_lit,List.set]))
     (refine tk (i:=15) (v:=?_) rfl rfl (Or.inl ⟨by rfl,?_⟩) ?_;rotate_left;(focus (intro w hSw;(try dsimp only at hSw);go_simp;(try with_reducible rfl)));(simp only [put_lit,List.set]))
     (refine tk (i:=16) (v:=?_) rfl rfl (Or.inl ⟨by rfl,?_⟩) ?_;rotate_left;(focus (intro w hSw;(try dsimp only at hSw);go_simp;(try with_reducible rfl)));(simp only [put_lit,List.set]))
     (refine tk (i:=17) (v:=?_) rfl rfl (Or.inl ⟨by rfl,?_⟩) ?_;rotate_left;(focus (intro w hSw;(try dsimp only at hSw);go_simp;(try with_reducible rfl)));(simp only [put_lit,List.set]))
     (refine tk (i:=18) (v:=?_) rfl rfl (Or.inl ⟨by rfl,?_⟩) ?_;rotate_left;(focus (intro w hSw;(try dsimp only at hSw);go_simp;(try with_reducible rfl)));(simp only [put_lit,List.set]))
     (refine tk (i:=19) (v:=?_) rfl rfl (Or.inl ⟨by rfl,?_⟩) ?_;rotate_left;(focus (intro w hSw;(try dsimp only at hSw);go_simp;(try with_reducible rfl)));(simp only [put_lit,List.set]))
     (refine tk (i:=20) (v:=?_) rfl rfl (Or.inl ⟨by rfl,?_⟩) ?_;rotate_left;(focus (intro w hSw;(try dsimp only at hSw);go_simp;(try with_reducible rfl)));(simp only [put_lit,List.set]))
     (refine tk (i:=21) (v:=?_) rfl rfl (Or.inl ⟨by rfl,?_⟩) ?_;rotate_left;(focus (intro w hSw;(try dsimp only at hSw);go_simp;(try with_reducible rfl)));(simp only [put_lit,List.set]))
     refine wpAnyH_done (by kernel_rfl) ?_ _
     clear hHeld i1 i2 i3 f1 f2 f3
     by_cases cd:0<y1-y3
     ·rw [if_pos cd] at HP
      have cd':y3<y1:=by omega
      by_cases c0:x0<0
      ·rw [if_pos c0] at HP
       rw [HP.out] at HT
       go_wp2
       go_roundw
       case rel=>exact ⟨i+1,Hlt.out,by rw [HT.out];congr 1;omega,by go_num,below_drewn Hbw.out _⟩
       case measure=>have:=Hlt.out;simp [intOf];omega
      ·rw [if_neg c0] at HP
       by_cases c1:x1<0
       ·rw [if_pos c1] at HP
        rw [HP.out] at HT
        go_wp2
        go_roundw
        case rel=>exact ⟨i+1,Hlt.out,by rw [HT.out];congr 1;omega,by go_num,below_drewn Hbw.out _⟩
        case measure=>have:=Hlt.out;simp [intOf];omega
       ·rw [if_neg c1] at HP
        rw [HP.out] at HT
        go_wp2
        go_roundw
        case rel=>exact ⟨i+1,Hlt.out,by rw [HT.out];congr 1;omega,by go_num,below_drewn Hbw.out _⟩
        case measure=>have:=Hlt.out;simp [intOf];omega
     ·rw [if_neg cd] at HP
      rw [HP.out] at HT
      have cd':¬ y3<y1:=by omega
      go_wp2
      go_roundw
      case rel=>exact ⟨i+1,Hlt.out,by rw [HT.out];congr 1;omega,by go_num,below_drewn Hbw.out _⟩
      case measure=>have:=Hlt.out;simp [intOf];omega
  ·have ti:¬ (i:Int)<(l:Int):=by omega
   have HE:fs.take i=fs:=by rw [List.take_of_length_le (by rw [Hll.out];omega)]
   rw [HE] at HN
   clear hi hlt hN2 hlen
   go_wp2
   go_ret
   exact ⟨by rw [← HN.out];rfl,Hbw.out⟩
set_option maxRecDepth 100000 in
set_option maxHeartbeats 4000000 in
theorem law_descartes (A:Option Addr) (la ca:Nat) (qs:List (List Int)) (w:World) (h:TrAt w A la ca qs) (hlm:la≤9223372036854775807) :
  Calls Try.prog 3 #[.slice A la ca] w fun e w'=>e=.returned (.bool true)∧Below w.heap.size w w':=by
 have H:=Lib.hid h
 have HT3:=Lib.hid h.three
 have Hll:=Lib.hid h.length
 clear h
 go_enter Try.func3,Try.ntmps3
 go_wp2_with fail
 refine (awake_any _).mono ?_
 rintro e w1 ⟨rfl,hb1⟩
 have H1:=Lib.hid (H.out.below hb1)
 have Hb1:=Lib.hid hb1
 clear hb1
 go_wp2_with fail
 refine (few_any H1.out 5 (by omega) hlm).mono ?_
 rintro e w2 ⟨rfl,hw2⟩
 obtain rfl:=hw2
 by_cases hfew:qs.length≤5∧∀ i,i<qs.length→Sma (qs.getD i [])
 ·have ef:fewb 5 qs=true:=by unfold fewb;exact @decide_eq_true _ (Classical.propDecidable _) hfew
  have ht:Tri qs:=fun q hq=>⟨(HT3.out q hq).1,by
   obtain ⟨i,hi,e⟩:=List.getElem_of_mem hq
   have:=hfew.2 i hi
   rw [List.getD_eq_getElem?_getD,List.getElem?_eq_getElem hi,e] at this
   exact this⟩
  have HT:=Lib.hid ht
  have h5:la≤5:=by rw [← Hll.out];exact hfew.1
  have H5:=Lib.hid hfew.1
  rw [ef]
  clear hfew ht ef
  go_wp2_with fail
  refine (factors_any H1.out h5 HT.out).mono ?_
  rintro e w3 ⟨⟨u,A3,l3,c3,fs,rfl,hu,hF,hf0,hf1⟩,hb3⟩
  have H3:=Lib.hid (H1.out.below hb3)
  have HF:=Lib.hid hF
  have Hb3:=Lib.hid (Hb1.out.trans (hb3.mono Hb1.out.size))
  have HU:=Lib.hid hu
  have Hf1:=Lib.hid hf1
  clear hb3 hF hu hf0 hf1
  by_cases hu0:u=0
  ·subst hu0
   go_wp2
   go_ret
   exact ⟨rfl,Hb3.out⟩
  ·have bu:(u == 0)=false:=by rw [beq_eq_false_iff_ne];exact hu0
   have hfs:=Hf1.out hu0
   rw [hfs] at HF
   have HZ:=Lib.hid (show ¬ Zer qs from fun hz=>hu0 (HU.out.2 hz))
   clear hu0 hfs
   go_wp2_with fail
   refine (fprod_any H3.out h5 HT.out).mono ?_
   rintro e w4 ⟨⟨A4,l4,c4,rfl,h4⟩,hb4⟩
   have H4:=Lib.hid h4
   have HF4:=Lib.hid (fs_below HF.out hb4)
   have Hb4:=Lib.hid (Hb3.out.trans (hb4.mono Hb3.out.size))
   have hP:=prodf_bd qs [1] 1 HT.out one_abs
   have hPl:=prodf_len qs [1] 0 HT.out (by decide) (by decide)
   have h27:27^qs.length≤27^5:=Nat.pow_le_pow_right (by decide) H5.out
   have HP:=Lib.hid (show ∀ j,((prodf [1] qs).getD j 0).natAbs≤14348907 from fun j=>by have:=hP j;omega)
   have HPt:=Lib.hid (prodf_trim qs [1] (by decide))
   have hl4:l4≤11:=by rw [← h4.length];have:=H5.out;omega
   have HL4:=Lib.hid h4.length
   have H64:=Lib.hid (show ∀ c∈prodf [1] qs,I64 c from fun c hc=>by
    obtain ⟨i,hi,e⟩:=List.getElem_of_mem hc
    have:=HP.out i
    rw [List.getD_eq_getElem?_getD,List.getElem?_eq_getElem hi,e] at this
    simp at this
    unfold I64
    omega)
   clear h4 hb4 hP hPl h27
   go_wp2_with fail
   refine (poly_any _ _ _ (prodf [1] qs) _ H4.out H64.out (by omega)).mono ?_
   rintro e w5 ⟨A5,l5,c5,rfl,h5',hb5⟩
   have H5':=Lib.hid h5'
   have HF5:=Lib.hid (fs_below HF4.out hb5)
   have Hb5:=Lib.hid (Hb4.out.trans (hb5.mono Hb4.out.size))
   have hl5:l5=(prodf [1] qs).length:=by rw [← h5'.length,HPt.out]
   have HL5:=Lib.hid hl5
   have hl5b:l5≤11:=by rw [hl5,HL4.out];exact hl4
   clear hb5 h5' hl5
   have HSM:=Lib.hid (show SmP (ptrim (prodf [1] qs)) by rw [HPt.out];exact fun j hj=>SmI.of64 (H64.out j hj))
   go_wp2_with fail
   refine (rvar_any _ _ _ _ _ (PolyP.at_ ikN H5'.out) HSM.out (by omega)).mono ?_
   rintro e w6 ⟨rfl,hb6⟩
   rw [HPt.out] at *
   have HF6:=Lib.hid (fs_below HF5.out hb6)
   have Hb6:=Lib.hid (Hb5.out.trans (hb6.mono Hb5.out.size))
   have hv:=vst_dvar (prodf [1] qs)
   rw [← HL5.out] at hv
   have hpos:=positive_spec (qs:=qs) (fun q hq=>⟨fun e=>HZ.out ⟨q,hq,e⟩,by have:=plen_le q;have:=(HT.out q hq).1;omega⟩)
   rw [← hv] at hpos
   have hfb:=fsum_posc_bd (facs [] qs) fun x hx=>by
    have:=facs_pow (qs:=qs) (l:=[]) (N:=0) (fun x hx=>by cases hx) x hx
    have:=H5.out
    omega
   have hfl:=facs_len qs []
   have hfo:=Lib.hid (show ∀ x∈facs [] qs,(isLin x.1∨isQd x.1)∧(∀ j,(x.1.getD j 0).natAbs≤29)∧x.2≤100 from fun x hx=>⟨(facs_irr' (fun q hq=>⟨fun e=>HZ.out ⟨q,hq,e⟩,by have:=plen_le q;have:=(HT.out q hq).1;omega⟩) x hx),(facs_fsm HT.out x hx).bd,by
    have:=facs_pow (qs:=qs) (l:=[]) (N:=0) (fun x hx=>by cases hx) x hx
    have:=H5.out
    omega⟩)
   have hl3:l3≤100:=by rw [← HF.out.length];have:=H5.out;simp at hfl;omega
   obtain ⟨V,hV⟩:∃ V,V=(vst (prodf [1] qs) l5).1:=⟨_,rfl⟩
   rw [← hV] at hpos ⊢
   have hVb:V≤l5:=by rw [hV];exact (vst_le _ _).1
   obtain ⟨P,hP⟩:∃ P,P=fsum posc (facs [] qs):=⟨_,rfl⟩
   rw [← hP] at hpos hfb
   obtain ⟨hp1,hp2⟩:=hpos
   have HPP:=Lib.hid hP
   have h5':=H5.out
   have hPb:0≤P∧P≤100000:=by simp at hfl;omega
   clear hv hV hb6 hP hfb hfl
   go_wp2_with fail
   refine (positive_any HF6.out hl3 hfo.out).mono ?_
   rintro e w7 ⟨rfl,hb7⟩
   rw [← HPP.out]
   have Hb7:=Lib.hid (Hb6.out.trans (hb7.mono Hb6.out.size))
   clear hb7
   have j1:IntKind.i64.wrap ((V:Int)-P)=(V:Int)-P:=IntWalk.i64_in _ (by omega)
   have j2:((V:Int)-P).tmod 2=0:=by rw [Int.tmod_eq_emod_of_nonneg (by omega)];exact hp2
   have j3:decide (P≤(V:Int))=true:=decide_eq_true hp1
   go_wp2
   go_ret
   exact ⟨rfl,Hb7.out⟩
 ·have ef:fewb 5 qs=false:=by unfold fewb;exact @decide_eq_false _ (Classical.propDecidable _) hfew
  rw [ef]
  clear hfew ef
  go_wp2_with fail
  refine (awake_any _).mono ?_
  rintro e w2 ⟨rfl,hb2⟩
  have Hb2:=Lib.hid (Hb1.out.trans (hb2.mono Hb1.out.size))
  clear hb2
  go_wp2
  go_ret
  exact ⟨rfl,Hb2.out⟩
end Go.Proofs.Ytipocabbjinbhaa
