/- The reference cylinderref11: Split and Product. -/
import Derived.Test.YtipocabbjinbhaaFca
import Derived.Test.YtipocabbjinbhaaFcp
import Derived.Test.YtipocabbjinbhaaAp0
namespace Go.Proofs.Ytipocabbjinbhaa
open Go Go.RowKit
def PsE (w:World) (p:List Int) (vs:List Value):Prop:=∃ A l c,vs=[.slice A l c]∧I64At w A l c p
theorem PsE.below {w w':World} {p:List Int} {vs:List Value} (h:PsE w p vs) (hb:Below w.heap.size w w'):PsE w' p vs:=by
 obtain ⟨A,l,c,e,h⟩:=h
 exact ⟨A,l,c,e,h.below hb⟩
abbrev PsAt (w:World) (A:Option Addr) (l c:Nat) (ps:List (List Int)):Prop:=SlE 1 PsE w A l c ps
theorem ps_below {w w':World} {A:Option Addr} {l c:Nat} {ps:List (List Int)} (h:PsAt w A l c ps) (hb:Below w.heap.size w w'):PsAt w' A l c ps:=h.below hb fun _ _ hx=>hx.below hb
theorem ps_one {w:World} {t:TypeId} {A:Option Addr} {l c:Nat} {p:List Int} (h:I64At w A l c p):PsAt (w.alloc (.cells #[.slice A l c] t)) (some ⟨w.heap.size,0,none⟩) 1 1 [p]:=by
 have hb:=below_new w (.cells #[.slice A l c] t)
 refine ⟨rfl,Nat.le_refl _,.inr ⟨w.heap.size,0,rfl,by simp,fun i x hx=>?_⟩⟩
 match i,hx with
 | 0,hx =>
   simp at hx
   subst hx
   refine ⟨_,⟨A,l,c,rfl,h.below hb⟩,fun j v hv=>?_⟩
   match j,hv with
   | 0,hv=>simp at hv;subst hv;simp
   | j+1,hv=>simp at hv
 | i+1,hx=>simp at hx
theorem ps_two {w:World} {t:TypeId} {A:Option Addr} {l c:Nat} {p:List Int} {B:Option Addr} {m d:Nat} {q:List Int} (h:I64At w A l c p) (k:I64At w B m d q):PsAt (w.alloc (.cells #[.slice A l c,.slice B m d] t)) (some ⟨w.heap.size,0,none⟩) 2 2 [p,q]:=by
 have hb:=below_new w (.cells #[.slice A l c,.slice B m d] t)
 refine ⟨rfl,Nat.le_refl _,.inr ⟨w.heap.size,0,rfl,by simp,fun i x hx=>?_⟩⟩
 match i,hx with
 | 0,hx =>
   simp at hx
   subst hx
   refine ⟨_,⟨A,l,c,rfl,h.below hb⟩,fun j v hv=>?_⟩
   match j,hv with
   | 0,hv=>simp at hv;subst hv;simp
   | j+1,hv=>simp at hv
 | 1,hx =>
   simp at hx
   subst hx
   refine ⟨_,⟨B,m,d,rfl,k.below hb⟩,fun j v hv=>?_⟩
   match j,hv with
   | 0,hv=>simp at hv;subst hv;simp
   | j+1,hv=>simp at hv
 | i+2,hx=>simp at hx
theorem rnu_le {p:List Int} {M:Nat} (_h:plen p≠0) (hM:∀ j,(p.getD j 0).natAbs≤M):(rnu p).natAbs≤M:=by
 have h1:=rgc_bd hM (plen p)
 rw [rgc_eq] at h1
 unfold rnu
 split<;>omega
theorem gd3 {a b c:Int} {M:Nat} (ha:a.natAbs≤M) (hb:b.natAbs≤M) (hc:c.natAbs≤M) (j:Nat):(([a,b,c]:List Int).getD j 0).natAbs≤M:=by
 match j with
 | 0=>exact ha
 | 1=>exact hb
 | 2=>exact hc
 | j+3=>exact Nat.zero_le _
theorem gd2 {a b:Int} {M:Nat} (ha:a.natAbs≤M) (hb:b.natAbs≤M) (j:Nat):(([a,b]:List Int).getD j 0).natAbs≤M:=by
 match j with
 | 0=>exact ha
 | 1=>exact hb
 | j+2=>exact Nat.zero_le _
theorem rnrm_two (A:Option Addr) (len cap:Nat) (p:List Int) (w:World) (h:I64At w A len cap p) (hm:len≤1000) (h2:plen p=2) (hM:∀ j,(p.getD j 0).natAbs≤2305843009213693952) :
  Calls Try.prog 60 #[.slice A len cap] w fun e w'=>(∃ A',e=.returned (.tuple #[.int .i64 (rnu p),.slice A' 2 2])∧I64At w' A' 2 2 (nrm p))∧Below w.heap.size w w':=by
 refine (rnrm_any A len cap p w h hm (by omega) hM).mono ?_
 rintro e w1 ⟨rfl,hk,hb⟩
 have hk':IRow w1 w.heap.size (nrm p):=hk
 have:=hk'.at_ (cap:=2) (by rw [nrm_len,h2];exact Nat.le_refl _)
 rw [nrm_len,h2] at this
 rw [h2]
 exact ⟨⟨_,rfl,this⟩,hb⟩
set_option maxRecDepth 100000 in
set_option maxHeartbeats 8000000 in
theorem split_any (A:Option Addr) (ca:Nat) (a b c:Int) (w:World) (h:I64At w A 3 ca [a,b,c]) (ha:a.natAbs≤9) (hb:b.natAbs≤9) (hc:c.natAbs≤9) :
  Calls Try.prog 29 #[.slice A 3 ca] w fun e w'=>(∃ u A' l' c',e=.returned (.tuple #[.int .i64 u,.slice A' l' c'])∧(u=0↔plen [a,b,c]=0)∧u.natAbs≤9∧PsAt w' A' l' c' (spl [a,b,c]))∧Below w.heap.size w w':=by
 have hM:=gd3 ha hb hc
 obtain ⟨q,hq⟩:∃ q,q=[a,b,c]:=⟨_,rfl⟩
 have hp3:plen [a,b,c]≤3:=plen_le [a,b,c]
 rw [← hq] at h hM hp3 ⊢
 clear hq
 go_enter Try.func29,Try.ntmps29
 by_cases h0:plen q=0
 ·go_wp2_with fail
  refine (rnrm_zero _ _ _ _ _ h (by omega) h0).mono ?_
  rintro e w1 ⟨rfl,rfl⟩
  have Hsp:=Lib.hid (show spl q=[] by unfold spl;rw [if_pos (by omega)])
  have H0:=Lib.hid h0
  clear h h0
  go_wp2
  refine bodyPost_ret (v:=.tuple #[.int .i64 0,.slice none 0 0]) (by simp [results,Try.results29,go_sem]) rfl ⟨⟨0,none,0,0,rfl,⟨fun _=>H0.out,fun _=>rfl⟩,Nat.zero_le _,by rw [Hsp.out];exact ⟨rfl,Nat.le_refl _,.inl ⟨rfl,rfl,rfl⟩⟩⟩,Bel.go⟩
 go_wp2_with fail
 refine (rnrm_any _ _ _ _ _ h (by omega) h0 (fun j=>by have:=hM j;omega)).mono ?_
 rintro e w1 ⟨rfl,hk,hb1⟩
 have hk':IRow w1 w.heap.size (nrm q):=hk
 have HM:=Lib.hid (nrm_le hM)
 have HU:=Lib.hid (show (rnu q=0↔plen q=0)∧(rnu q).natAbs≤9 from ⟨⟨fun e=>absurd e (rnu_ne h0),fun e=>absurd e h0⟩,rnu_le h0 hM⟩)
 have HL:=Lib.hid (nrm_len q)
 have HSP:=Lib.hid (show spl q=spl q from rfl)
 have HK:=Lib.hid hk'
 have Hb:=Lib.hid hb1
 obtain ⟨G,hG⟩:∃ G,G=w.heap.size:=⟨_,rfl⟩
 rw [← hG] at HK
 have HG:=Lib.hid hG
 obtain ⟨u,hu⟩:∃ u,u=rnu q:=⟨_,rfl⟩
 rw [← hu] at HU ⊢
 have hGl:G<w1.heap.size:=HK.out.lt
 clear hk hk' hb1 h hM hu
 rcases (show plen q=1∨plen q=2∨plen q=3 by omega) with e1 | e1 | e1
 ·have Hsp:=Lib.hid (show spl q=[] by unfold spl;rw [if_pos (by omega)])
  rw [e1,← hG]
  clear h0 e1 hp3 hG
  go_wp2
  refine bodyPost_ret (v:=.tuple #[.int .i64 u,.slice none 0 0]) (by simp [results,Try.results29,go_sem]) rfl ⟨⟨u,none,0,0,rfl,HU.out.1,HU.out.2,by rw [Hsp.out];exact ⟨rfl,Nat.le_refl _,.inl ⟨rfl,rfl,rfl⟩⟩⟩,Hb.out⟩
 ·have Hsp:=Lib.hid (show spl q=[nrm q] by unfold spl;rw [if_neg (by omega),if_pos e1])
  have HA:=Lib.hid (show I64At w1 (some ⟨G,0,none⟩) 2 2 (nrm q) by have:=HK.out.at_ (cap:=2) (by rw [HL.out,e1];exact Nat.le_refl _);rwa [HL.out,e1] at this)
  rw [e1,← hG]
  clear h0 e1 hp3 hG
  go_wp2
  refine bodyPost_ret (v:=.tuple #[.int .i64 u,.slice (some ⟨w1.heap.size,0,none⟩) 1 1]) (by simp [results,Try.results29,go_sem]) rfl ⟨⟨u,_,_,_,rfl,HU.out.1,HU.out.2,by rw [Hsp.out];exact ps_one HA.out⟩,Hb.out.trans ((below_new _ _).mono Hb.out.size)⟩
 ·have HA:=Lib.hid (show I64At w1 (some ⟨G,0,none⟩) 3 3 (nrm q) by have:=HK.out.at_ (cap:=3) (by rw [HL.out,e1];exact Nat.le_refl _);rwa [HL.out,e1] at this)
  have SN:=Lib.hid (show ∀ hn:(∀ s:Nat,(s:Int)*(s:Int)≠dsc (nrm q)),spl q=[nrm q] from fun hn=>by unfold spl;rw [if_neg (by omega),if_neg (by omega),sqd_none hn])
  have SS:=Lib.hid (show ∀ s:Nat,(s:Int)*(s:Int)=dsc (nrm q)→spl q=[lin1 (nrm q) (-(s:Int)),lin1 (nrm q) (s:Int)] from fun s hs=>by unfold spl;rw [if_neg (by omega),if_neg (by omega),sqd_some hs])
  have hln:(nrm q).length=3:=by rw [HL.out,e1]
  have hpos:0<(nrm q).getD 2 0:=by have:=nrm_lead h0;rwa [e1] at this
  have c0:=HK.out.cell (i:=0) (by omega)
  have c1:=HK.out.cell (i:=1) (by omega)
  have c2:=HK.out.cell (i:=2) (by omega)
  have b0:=HM.out 0
  have b1:=HM.out 1
  have b2:=HM.out 2
  obtain ⟨x0,hx0⟩:∃ x,x=(nrm q).getD 0 0:=⟨_,rfl⟩
  obtain ⟨x1,hx1⟩:∃ x,x=(nrm q).getD 1 0:=⟨_,rfl⟩
  obtain ⟨x2,hx2⟩:∃ x,x=(nrm q).getD 2 0:=⟨_,rfl⟩
  rw [← hx0] at c0 b0
  rw [← hx1] at c1 b1
  rw [← hx2] at c2 b2 hpos
  have HX:=Lib.hid (And.intro hx0 (And.intro hx1 hx2))
  obtain ⟨y1,hy1⟩:∃ y,y=x1*x1:=⟨_,rfl⟩
  obtain ⟨y2,hy2⟩:∃ y,y=4*x2:=⟨_,rfl⟩
  obtain ⟨y3,hy3⟩:∃ y,y=y2*x0:=⟨_,rfl⟩
  have m1:y1.natAbs≤81:=by rw [hy1,Int.natAbs_mul];exact Nat.mul_le_mul b1 b1
  have m3:y3.natAbs≤36*9:=by rw [hy3,Int.natAbs_mul];exact Nat.mul_le_mul (by omega) b0
  have i1:IntKind.i64.wrap y1=y1:=IntWalk.i64_in _ (by omega)
  have i2:IntKind.i64.wrap y2=y2:=IntWalk.i64_in _ (by omega)
  have i3:IntKind.i64.wrap y3=y3:=IntWalk.i64_in _ (by omega)
  have i4:IntKind.i64.wrap (y1-y3)=y1-y3:=IntWalk.i64_in _ (by omega)
  have f1:x1*x1=y1:=hy1.symm
  have f2:4*x2=y2:=hy2.symm
  have f3:y2*x0=y3:=hy3.symm
  have HD:=Lib.hid (show dsc (nrm q)=y1-y3 by unfold dsc;rw [← hx0,← hx1,← hx2,f1,f2,f3])
  rw [e1,← hG]
  clear hx0 hx1 hx2 hy1 hy2 hy3 e1 h0 hp3 hG hln
  go_wp2_with fail
  refine wp_region_held_drew (S:=fun w'=>w'.cell? ⟨G,0,none⟩=some (.int .i64 x0)∧w'.cell? ⟨G,1,none⟩=some (.int .i64 x1)∧w'.cell? ⟨G,2,none⟩=some (.int .i64 x2)) (by kernel_rfl) (by (try dsimp only);go_keep) (fun hHeld=>?_)
  (refine tk (i:=0) (v:=?_) rfl rfl (Or.inl ⟨by rfl,?_⟩) ?_;rotate_left;(focus (intro w hSw;(try dsimp only at hSw);go_simp;(try with_reducible rfl)));(simp only [put_lit,List.set]))
  (refine tk (i:=1) (v:=?_) rfl rfl (Or.inl ⟨by rfl,?_⟩) ?_;rotate_left;(focus (intro w hSw;(try dsimp only at hSw);go_simp;(try with_reducible rfl)));(simp only [put_lit,List.set]))
  (refine tk (i:=2) (v:=?_) rfl rfl (Or.inl ⟨by rfl,?_⟩) ?_;rotate_left;(focus (intro w hSw;(try dsimp only at hSw);go_simp;(try with_reducible rfl)));(simp only [put_lit,List.set]))
  (refine tk (i:=3) (v:=?_) rfl rfl (Or.inl ⟨by rfl,?_⟩) ?_;rotate_left;(focus (intro w hSw;(try dsimp only at hSw);go_simp;(try with_reducible rfl)));(simp only [put_lit,List.set]))
  (refine tk (i:=4) (v:=?_) rfl rfl (Or.inl ⟨by rfl,?_⟩) ?_;rotate_left;(focus (intro w hSw;(try dsimp only at hSw);go_simp;(try with_reducible rfl)));(simp only [put_lit,List.set]))
  (refine tk (i:=5) (v:=?_) rfl rfl (Or.inl ⟨by rfl,?_⟩) ?_;rotate_left;(focus (intro w hSw;(try dsimp only at hSw);go_simp;(try with_reducible rfl)));(simp only [put_lit,List.set]))
  (refine tk (i:=6) (v:=?_) rfl rfl (Or.inl ⟨by rfl,?_⟩) ?_;rotate_left;(focus (intro w hSw;(try dsimp only at hSw);go_simp;(try with_reducible rfl)));(simp only [put_lit,List.set]))
  (refine tk (i:=7) (v:=?_) rfl rfl (Or.inl ⟨by rfl,?_⟩) ?_;rotate_left;(focus (intro w hSw;(try dsimp only at hSw);go_simp;(try with_reducible rfl)));(simp only [put_lit,List.set]))
  (refine tk (i:=8) (v:=?_) rfl rfl (Or.inl ⟨by rfl,?_⟩) ?_;rotate_left;(focus (intro w hSw;(try dsimp only at hSw);go_simp;(try with_reducible rfl)));(simp only [put_lit,List.set]))
  (refine tk (i:=9) (v:=?_) rfl rfl (Or.inl ⟨by rfl,?_⟩) ?_;rotate_left;(focus (intro w hSw;(try dsimp only at hSw);go_simp;(try with_reducible rfl)));(simp only [put_lit,List.set]))
  (refine tk (i:=10) (v:=?_) rfl rfl (Or.inl ⟨by rfl,?_⟩) ?_;rotate_left;(focus (intro w hSw;(try dsimp only at hSw);go_simp;(try with_reducible rfl)));(simp only [put_lit,List.set]))
  (refine tk (i:=11) (v:=?_) rfl rfl (Or.inl ⟨by rfl,?_⟩) ?_;rotate_left;(focus (intro w hSw;(try dsimp only at hSw);go_simp;(try with_reducible rfl)));(simp only [put_lit,List.set]))
  (refine tk (i:=12) (v:=?_) rfl rfl (Or.inl ⟨by rfl,?_⟩) ?_;rotate_left;(focus (intro w hSw;(try dsimp only at hSw);go_simp;(try with_reducible rfl)));(simp only [put_lit,List.set]))
  (refine tk (i:=13) (v:=?_) rfl rfl (Or.inl ⟨by rfl,?_⟩) ?_;rotate_left;(focus (intro w hSw;(try dsimp only at hSw);go_simp;(try with_reducible rfl)));(simp only [put_lit,List.set]))
  (refine tk (i:=14) (v:=?_) rfl rfl (Or.inl ⟨by rfl,?_⟩) ?_;rotate_left;(focus (intro w hSw;(try dsimp only at hSw);go_simp;(try with_reducible rfl)));(simp only [put_lit,List.set]))
  (refine tk (i:=15) (v:=?_) rfl rfl (Or.inl ⟨by rfl,?_⟩) ?_;rotate_left;(focus (intro w hSw;(try dsimp only at hSw);go_simp;(try with_reducible rfl)));(simp only [put_lit,List.set]))
  (refine wpAnyH_ready (rs:=[16]) (by kernel_rfl) (by simp) ?_;refine AllReadyH.cons rfl (fun K hK=>?_) AllReadyH.nil;go_simp)
  refine (iroot_any (y1-y3) _ (by omega)).mono ?_
  rintro e w5 ⟨⟨s,rfl,hs,hsn,hst⟩,hw5⟩
  generalize hB:decide (0≤y1-y3∧(s:Int)*(s:Int)=y1-y3)=B
  have HB:=Lib.hid hB
  clear hB
  obtain rfl:=hw5
  have hsl:(s:Int)≤1000:=by omega
  refine hK.out _ _ ?_ (fun _=>?_);(focus ((try dsimp only);go_keep));clear hHeld hK K;rename_i hHeld;(try (simp only [put_lit,List.set]))
  (refine tk (i:=17) (v:=?_) rfl rfl (Or.inl ⟨by rfl,?_⟩) ?_;rotate_left;(focus (intro w hSw;(try dsimp only at hSw);go_simp;(try with_reducible rfl)));(simp only [put_lit,List.set]))
  (refine tk (i:=18) (v:=?_) rfl rfl (Or.inl ⟨by rfl,?_⟩) ?_;rotate_left;(focus (intro w hSw;(try dsimp only at hSw);go_simp;(try with_reducible rfl)));(simp only [put_lit,List.set]))
  (refine tk (i:=19) (v:=?_) rfl rfl (Or.inl ⟨by rfl,?_⟩) ?_;rotate_left;(focus (intro w hSw;(try dsimp only at hSw);go_simp;(try with_reducible rfl)));(simp only [put_lit,List.set]))
  (refine tk (i:=20) (v:=?_) rfl rfl (Or.inl ⟨by rfl,?_⟩) ?_;rotate_left;(focus (intro w hSw;(try dsimp only at hSw);go_simp;(try with_reducible rfl)));(simp only [put_lit,List.set]))
  (refine tk (i:=21) (v:=?_) rfl rfl (Or.inl ⟨by rfl,?_⟩) ?_;rotate_left;(focus (intro w hSw;(try dsimp only at hSw);go_simp;(try with_reducible rfl)));(simp only [put_lit,List.set]))
  refine wpAnyH_done (by kernel_rfl) ?_ _
  by_cases hbt:B=true
  ·subst hbt
   have hok:=of_decide_eq_true HB.out
   clear HB
   have Hsp:=Lib.hid (SS.out s (hok.2.trans HD.out.symm))
   have hs20:s≤20:=by
    refine Nat.le_of_not_lt fun hlt=>?_
    have h1:21*21≤s*s:=Nat.mul_le_mul hlt hlt
    have h2:((s*s:Nat):Int)=y1-y3:=by rw [Int.natCast_mul];exact hok.2
    omega
   have HE1:=Lib.hid (show ([x1-(s:Int),2*x2]:List Int)=[(nrm q).getD 1 0 + -(s:Int),2*(nrm q).getD 2 0] by rw [← HX.out.2.1,← HX.out.2.2];rfl)
   have HE2:=Lib.hid (show ([x1+(s:Int),2*x2]:List Int)=[(nrm q).getD 1 0+(s:Int),2*(nrm q).getD 2 0] by rw [← HX.out.2.1,← HX.out.2.2])
   have P1:=Lib.hid (show plen [x1-(s:Int),2*x2]=2 by rw [plen_cons_succ (by rw [plen_cons_one rfl (by omega)];omega),plen_cons_one rfl (by omega)])
   have P2:=Lib.hid (show plen [x1+(s:Int),2*x2]=2 by rw [plen_cons_succ (by rw [plen_cons_one rfl (by omega)];omega),plen_cons_one rfl (by omega)])
   have j1:IntKind.i64.wrap (x1-(s:Int))=x1-(s:Int):=IntWalk.i64_in _ (by omega)
   have j2:IntKind.i64.wrap (x1+(s:Int))=x1+(s:Int):=IntWalk.i64_in _ (by omega)
   have j3:IntKind.i64.wrap (2*x2)=2*x2:=IntWalk.i64_in _ (by omega)
   have D1:=Lib.hid (show ∀ j,(([x1-(s:Int),2*x2]:List Int).getD j 0).natAbs≤2305843009213693952 from fun j=>gd2 (by omega) (by omega) j)
   have D2:=Lib.hid (show ∀ j,(([x1+(s:Int),2*x2]:List Int).getD j 0).natAbs≤2305843009213693952 from fun j=>gd2 (by omega) (by omega) j)
   clear hok hHeld c0 HX hst hsn i1 i2 i3 i4 f1 f2 f3 m1 m3 b0 hsl HD SN SS
   go_wp2_with fail
   refine wp_region_held_drew (S:=fun w'=>w'.cell? ⟨G,1,none⟩=some (.int .i64 x1)∧w'.cell? ⟨G,2,none⟩=some (.int .i64 x2)) (by kernel_rfl) (by (try dsimp only);go_keep) (fun hHeld=>?_)
   (refine tk (i:=0) (v:=?_) rfl rfl (Or.inl ⟨by rfl,?_⟩) ?_;rotate_left;(focus (intro w hSw;(try dsimp only at hSw);go_simp;(try with_reducible rfl)));(simp only [put_lit,List.set]))
   (refine tk (i:=1) (v:=?_) rfl rfl (Or.inl ⟨by rfl,?_⟩) ?_;rotate_left;(focus (intro w hSw;(try dsimp only at hSw);go_simp;(try with_reducible rfl)));(simp only [put_lit,List.set]))
   (refine tk (i:=2) (v:=?_) rfl rfl (Or.inl ⟨by rfl,?_⟩) ?_;rotate_left;(focus (intro w hSw;(try dsimp only at hSw);go_simp;(try with_reducible rfl)));(simp only [put_lit,List.set]))
   (refine tk (i:=3) (v:=?_) rfl rfl (Or.inl ⟨by rfl,?_⟩) ?_;rotate_left;(focus (intro w hSw;(try dsimp only at hSw);go_simp;(try with_reducible rfl)));(simp only [put_lit,List.set]))
   (refine tk (i:=4) (v:=?_) rfl rfl (Or.inl ⟨by rfl,?_⟩) ?_;rotate_left;(focus (intro w hSw;(try dsimp only at hSw);go_simp;(try with_reducible rfl)));(simp only [put_lit,List.set]))
   (refine tk (i:=5) (v:=?_) rfl rfl (Or.inl ⟨by rfl,?_⟩) ?_;rotate_left;(focus (intro w hSw;(try dsimp only at hSw);go_simp;(try with_reducible rfl)));(simp only [put_lit,List.set]))
   (refine tk (i:=6) (v:=?_) rfl rfl (Or.inl ⟨by rfl,?_⟩) ?_;rotate_left;(focus (intro w hSw;(try dsimp only at hSw);go_simp;(try with_reducible rfl)));(simp only [put_lit,List.set]))
   (refine tk (i:=7) (v:=?_) rfl rfl (Or.inl ⟨by rfl,?_⟩) ?_;rotate_left;(focus (intro w hSw;(try dsimp only at hSw);go_simp;(try with_reducible rfl)));(simp only [put_lit,List.set]))
   (refine tk (i:=8) (v:=?_) rfl rfl (Or.inl ⟨by rfl,?_⟩) ?_;rotate_left;(focus (intro w hSw;(try dsimp only at hSw);go_simp;(try with_reducible rfl)));(simp only [put_lit,List.set]))
   refine wpAnyH_ready (rs:=[9]) (by kernel_rfl) (by simp) ?_;refine AllReadyH.cons rfl (fun K hK=>?_) AllReadyH.nil;go_simp;refine hK.out _ _ ?_ (fun _=>?_);(focus ((try dsimp only);go_keep));clear hHeld hK K;rename_i hHeld;(try (simp only [put_lit,List.set]))
   (refine wpAnyH_ready (rs:=[10]) (by kernel_rfl) (by simp) ?_;refine AllReadyH.cons rfl (fun K hK=>?_) AllReadyH.nil;go_simp)
   refine (rnrm_two _ _ _ [x1-(s:Int),2*x2] _ ((I64At.two w1 _ _).below Bel.go) (by omega) P1.out D1.out).mono ?_
   rintro e w5 ⟨⟨A5,rfl,h5⟩,hb5⟩
   have hb15:Below w1.heap.size w1 w5:=(Below.trans Bel.go (hb5.mono (by simp<;>omega)))
   have H5:=Lib.hid h5
   have c1':=(hb15.cell (p:=⟨G,1,none⟩) hGl).trans c1
   have c2':=(hb15.cell (p:=⟨G,2,none⟩) hGl).trans c2
   have hG5:G<w5.heap.size:=Nat.lt_of_lt_of_le hGl hb15.size
   have Hb5:=Lib.hid (Hb.out.trans (hb15.mono Hb.out.size))
   clear h5 hb15
   obtain ⟨hcx,hfx⟩:=bcellS hb5;refine hK.out _ _ ?_ (fun _=>?_);(focus (((try dsimp only);repeat' apply And.intro)<;>(rw [hcx _ (by go_simp)];go_simp)));clear hHeld hK K hcx hfx;rename_i hHeld;clear hb5
   (refine tk (i:=11) (v:=?_) rfl rfl (Or.inl ⟨by rfl,?_⟩) ?_;rotate_left;(focus (intro w hSw;(try dsimp only at hSw);go_simp;(try with_reducible rfl)));(simp only [put_lit,List.set]))
   (refine tk (i:=12) (v:=?_) rfl rfl (Or.inl ⟨by rfl,?_⟩) ?_;rotate_left;(focus (intro w hSw;(try dsimp only at hSw);go_simp;(try with_reducible rfl)));(simp only [put_lit,List.set]))
   (refine tk (i:=13) (v:=?_) rfl rfl (Or.inl ⟨by rfl,?_⟩) ?_;rotate_left;(focus (intro w hSw;(try dsimp only at hSw);go_simp;(try with_reducible rfl)));(simp only [put_lit,List.set]))
   (refine tk (i:=14) (v:=?_) rfl rfl (Or.inl ⟨by rfl,?_⟩) ?_;rotate_left;(focus (intro w hSw;(try dsimp only at hSw);go_simp;(try with_reducible rfl)));(simp only [put_lit,List.set]))
   (refine tk (i:=15) (v:=?_) rfl rfl (Or.inl ⟨by rfl,?_⟩) ?_;rotate_left;(focus (intro w hSw;(try dsimp only at hSw);go_simp;(try with_reducible rfl)));(simp only [put_lit,List.set]))
   refine wpAnyH_done (by kernel_rfl) ?_ _
   clear hHeld c1 c2 hGl
   go_wp2_with fail
   refine wp_region_held_drew (S:=fun w'=>w'.cell? ⟨G,1,none⟩=some (.int .i64 x1)∧w'.cell? ⟨G,2,none⟩=some (.int .i64 x2)) (by kernel_rfl) (by (try dsimp only);go_keep) (fun hHeld=>?_)
   (refine tk (i:=0) (v:=?_) rfl rfl (Or.inl ⟨by rfl,?_⟩) ?_;rotate_left;(focus (intro w hSw;(try dsimp only at hSw);go_simp;(try with_reducible rfl)));(simp only [put_lit,List.set]))
   (refine tk (i:=1) (v:=?_) rfl rfl (Or.inl ⟨by rfl,?_⟩) ?_;rotate_left;(focus (intro w hSw;(try dsimp only at hSw);go_simp;(try with_reducible rfl)));(simp only [put_lit,List.set]))
   (refine tk (i:=2) (v:=?_) rfl rfl (Or.inl ⟨by rfl,?_⟩) ?_;rotate_left;(focus (intro w hSw;(try dsimp only at hSw);go_simp;(try with_reducible rfl)));(simp only [put_lit,List.set]))
   (refine tk (i:=3) (v:=?_) rfl rfl (Or.inl ⟨by rfl,?_⟩) ?_;rotate_left;(focus (intro w hSw;(try dsimp only at hSw);go_simp;(try with_reducible rfl)));(simp only [put_lit,List.set]))
   (refine tk (i:=4) (v:=?_) rfl rfl (Or.inl ⟨by rfl,?_⟩) ?_;rotate_left;(focus (intro w hSw;(try dsimp only at hSw);go_simp;(try with_reducible rfl)));(simp only [put_lit,List.set]))
   (refine tk (i:=5) (v:=?_) rfl rfl (Or.inl ⟨by rfl,?_⟩) ?_;rotate_left;(focus (intro w hSw;(try dsimp only at hSw);go_simp;(try with_reducible rfl)));(simp only [put_lit,List.set]))
   (refine tk (i:=6) (v:=?_) rfl rfl (Or.inl ⟨by rfl,?_⟩) ?_;rotate_left;(focus (intro w hSw;(try dsimp only at hSw);go_simp;(try with_reducible rfl)));(simp only [put_lit,List.set]))
   (refine tk (i:=7) (v:=?_) rfl rfl (Or.inl ⟨by rfl,?_⟩) ?_;rotate_left;(focus (intro w hSw;(try dsimp only at hSw);go_simp;(try with_reducible rfl)));(simp only [put_lit,List.set]))
   (refine tk (i:=8) (v:=?_) rfl rfl (Or.inl ⟨by rfl,?_⟩) ?_;rotate_left;(focus (intro w hSw;(try dsimp only at hSw);go_simp;(try with_reducible rfl)));(simp only [put_lit,List.set]))
   refine wpAnyH_ready (rs:=[9]) (by kernel_rfl) (by simp) ?_;refine AllReadyH.cons rfl (fun K hK=>?_) AllReadyH.nil;go_simp;refine hK.out _ _ ?_ (fun _=>?_);(focus ((try dsimp only);go_keep));clear hHeld hK K;rename_i hHeld;(try (simp only [put_lit,List.set]))
   (refine wpAnyH_ready (rs:=[10]) (by kernel_rfl) (by simp) ?_;refine AllReadyH.cons rfl (fun K hK=>?_) AllReadyH.nil;go_simp)
   refine (rnrm_two _ _ _ [x1+(s:Int),2*x2] _ ((I64At.two w5 _ _).below Bel.go) (by omega) P2.out D2.out).mono ?_
   rintro e w6 ⟨⟨A6,rfl,h6⟩,hb6⟩
   have hb56:Below w5.heap.size w5 w6:=(Below.trans Bel.go (hb6.mono (by simp<;>omega)))
   have H6:=Lib.hid h6
   have H56:=Lib.hid (H5.out.below hb56)
   have Hb6:=Lib.hid (Hb5.out.trans (hb56.mono Hb5.out.size))
   clear h6 hb56
   obtain ⟨hcx,hfx⟩:=bcellS hb6;refine hK.out _ _ ?_ (fun _=>?_);(focus (((try dsimp only);repeat' apply And.intro)<;>(rw [hcx _ (by go_simp)];go_simp)));clear hHeld hK K hcx hfx;rename_i hHeld;clear hb6
   (refine tk (i:=11) (v:=?_) rfl rfl (Or.inl ⟨by rfl,?_⟩) ?_;rotate_left;(focus (intro w hSw;(try dsimp only at hSw);go_simp;(try with_reducible rfl)));(simp only [put_lit,List.set]))
   (refine tk (i:=12) (v:=?_) rfl rfl (Or.inl ⟨by rfl,?_⟩) ?_;rotate_left;(focus (intro w hSw;(try dsimp only at hSw);go_simp;(try with_reducible rfl)));(simp only [put_lit,List.set]))
   (refine tk (i:=13) (v:=?_) rfl rfl (Or.inl ⟨by rfl,?_⟩) ?_;rotate_left;(focus (intro w hSw;(try dsimp only at hSw);go_simp;(try with_reducible rfl)));(simp only [put_lit,List.set]))
   (refine tk (i:=14) (v:=?_) rfl rfl (Or.inl ⟨by rfl,?_⟩) ?_;rotate_left;(focus (intro w hSw;(try dsimp only at hSw);go_simp;(try with_reducible rfl)));(simp only [put_lit,List.set]))
   (refine tk (i:=15) (v:=?_) rfl rfl (Or.inl ⟨by rfl,?_⟩) ?_;rotate_left;(focus (intro w hSw;(try dsimp only at hSw);go_simp;(try with_reducible rfl)));(simp only [put_lit,List.set]))
   refine wpAnyH_done (by kernel_rfl) ?_ _
   clear hHeld c1' c2' hG5
   go_wp2
   have HF:=Lib.hid (show spl q=[nrm [x1-(s:Int),2*x2],nrm [x1+(s:Int),2*x2]] by rw [Hsp.out,HE1.out,HE2.out];rfl)
   refine bodyPost_ret (v:=.tuple #[.int .i64 u,.slice (some ⟨w6.heap.size,0,none⟩) 2 2]) (by simp [results,Try.results29,go_sem]) rfl ⟨⟨u,_,_,_,rfl,HU.out.1,HU.out.2,by rw [HF.out];exact ps_below (ps_two H56.out H6.out) Bel.go⟩,Hb6.out.trans ((below_new _ _).mono Hb6.out.size)⟩
  ·obtain rfl:B=false:=by simpa using hbt
   have hok:=of_decide_eq_false HB.out
   clear HB hbt
   have Hsp:=Lib.hid (SN.out fun t ht=>by
    rw [HD.out] at ht
    rcases Nat.lt_trichotomy t s with c | c | c
    ·have:=hst t c;omega
    ·subst c
     exact hok ⟨by rw [← ht];exact Int.mul_nonneg (by omega) (by omega),ht⟩
    ·have h1:s*s<t*t:=Nat.mul_self_lt_mul_self c
     have h2:((s*s:Nat):Int)<((t*t:Nat):Int):=by omega
     rw [Int.natCast_mul,Int.natCast_mul] at h2
     omega)
   clear hok hHeld c0 c1 c2 HX hst hsn
   go_wp2
   refine bodyPost_ret (v:=.tuple #[.int .i64 u,.slice (some ⟨w1.heap.size,0,none⟩) 1 1]) (by simp [results,Try.results29,go_sem]) rfl ⟨⟨u,_,_,_,rfl,HU.out.1,HU.out.2,by rw [Hsp.out];exact ps_below (ps_one HA.out) ((Below.refl _ _).drew)⟩,Hb.out.trans (((below_new _ _).mono Hb.out.size).drew)⟩
theorem rmul_comm (f g:List Int):rmul f g=rmul g f:=by
 rw [← rmul_trim f g,← rmul_trim g f]
 exact ptrim_ext fun k=>by
  rw [rmul_get,rmul_get]
  have h:∀ t,ev (polymul f g) t=ev (polymul g f) t:=fun t=>by rw [ev_mul,ev_mul,Int.mul_comm]
  have:=ev_inj h k
  rwa [polymul_getD,polymul_getD] at this
theorem rmul_bd3 {f g:List Int} {X Y:Nat} (hg3:g.length≤3) (hf:∀ j,(f.getD j 0).natAbs≤X) (hg:∀ j,(g.getD j 0).natAbs≤Y) (k:Nat):((rmul f g).getD k 0).natAbs≤3*(Y*X):=by
 rw [rmul_comm,rmul_get]
 have key:∀ m,(pcs g f k m).natAbs≤min m 3*(Y*X):=fun m=>by
  induction m with
  | zero=>exact Nat.zero_le _
  | succ m ih =>
    rw [pcs]
    by_cases h:m<3
    ·have h2:(g.getD m 0*f.getD (k-m) 0).natAbs≤Y*X:=by rw [Int.natAbs_mul];exact Nat.mul_le_mul (hg m) (hf (k-m))
     have h3:=Int.natAbs_add_le (pcs g f k m) (g.getD m 0*f.getD (k-m) 0)
     rw [Nat.min_eq_left (by omega)] at ih ⊢
     rw [Nat.succ_mul]
     omega
    ·rw [getD_out g (by omega),Int.zero_mul,Int.add_zero]
     rw [Nat.min_eq_right (by omega)] at ih ⊢
     exact ih
 unfold pc
 refine Nat.le_trans (key _) (Nat.mul_le_mul_right _ (Nat.min_le_right _ _))
theorem sma_abs {q:List Int} (h3:q.length=3) (h:Sma q) (j:Nat):(q.getD j 0).natAbs≤9:=by
 by_cases c:j<3
 ·have:=h j c
  omega
 ·rw [getD_out q (by omega)]
  exact Nat.zero_le _
def Tri (qs:List (List Int)):Prop:=∀ q∈qs,q.length=3∧Sma q
theorem prodf_app (P:List Int):∀ (qs:List (List Int)) (q:List Int),prodf P (qs ++ [q])=rmul (prodf P qs) q:=fun qs q=>by
 induction qs generalizing P with
 | nil=>rfl
 | cons r rs ih=>exact ih _
theorem prodf_bd:∀ (qs:List (List Int)) (P:List Int) (X:Nat),Tri qs→(∀ j,(P.getD j 0).natAbs≤X)→∀ j,((prodf P qs).getD j 0).natAbs≤27^qs.length*X
 | [],P,X,_,h,j=>by show (P.getD j 0).natAbs≤27^0*X;rw [Nat.pow_zero,Nat.one_mul];exact h j
 | q :: qs,P,X,ht,h,j=>by
   have hq:=ht q List.mem_cons_self
   have h1:=prodf_bd qs (rmul P q) (27*X) (fun r hr=>ht r (List.mem_cons_of_mem _ hr)) (fun k=>by
    have:=rmul_bd3 (X:=X) (Y:=9) (Nat.le_of_eq hq.1) h (sma_abs hq.1 hq.2) k
    omega) j
   show ((prodf (rmul P q) qs).getD j 0).natAbs≤27^(qs.length+1)*X
   rw [Nat.pow_succ,Nat.mul_assoc]
   exact h1
theorem prodf_len:∀ (qs:List (List Int)) (P:List Int) (a:Nat),Tri qs→plen P≤a+1→P.length≤a+1→(prodf P qs).length≤a+2*qs.length+1
 | [],P,a,_,_,h=>h
 | q :: qs,P,a,ht,h,_=>by
   have hq:=ht q List.mem_cons_self
   have h1:(rmul P q).length≤a+2+1:=rmul_len h (by have:=plen_le q;have:=hq.1;omega)
   have h2:=prodf_len qs (rmul P q) (a+2) (fun r hr=>ht r (List.mem_cons_of_mem _ hr)) (by have:=plen_le (rmul P q);omega) h1
   show (prodf (rmul P q) qs).length≤a+2*(qs.length+1)+1
   omega
theorem prodf_trim:∀ (qs:List (List Int)) (P:List Int),ptrim P=P→ptrim (prodf P qs)=prodf P qs
 | [],_,h=>h
 | q :: qs,_,_=>prodf_trim qs (rmul _ q) (rmul_trim _ q)
theorem one_abs (j:Nat):(([1]:List Int).getD j 0).natAbs≤1:=by
 match j with
 | 0=>exact Nat.le_refl _
 | j+1=>exact Nat.zero_le _
set_option maxRecDepth 100000 in
set_option maxHeartbeats 4000000 in
theorem fprod_any {w:World} {A:Option Addr} {la ca:Nat} {qs:List (List Int)} (h:TrAt w A la ca qs) (hl:la≤5) (ht:Tri qs) :
  Calls Try.prog 10 #[.slice A la ca] w fun e w'=>(∃ A' l' c',e=.returned (.slice A' l' c')∧I64At w' A' l' c' (prodf [1] qs))∧Below w.heap.size w w':=by
 have H:=Lib.hid h
 have Hl:=Lib.hid h.length
 have HT:=Lib.hid ht
 clear h ht
 go_enter Try.func10,Try.ntmps10
 go_wp2
 go_loopw [3,4] (fun s3 s4 wr=>∃ (i:Nat) (A':Option Addr) (l' c':Nat),i≤la∧s3=.slice A' l' c'∧s4=.int .i64 (i:Int)∧I64At wr A' l' c' (prodf [1] (qs.take i))∧Below w.heap.size w wr) (fun _ s4 _=>la-(intOf s4).toNat)
 case atStart=>exact ⟨0,_,_,_,Nat.zero_le _,rfl,rfl,I64At.one _ _,Bel.go⟩
 case round =>
  obtain ⟨i,A',l',c',hi,rfl,rfl,hat,hbw⟩:=hrel
  obtain ⟨wo,rfl⟩:∃ wo:World,wo=wr:=⟨_,rfl⟩
  have Hat:=Lib.hid hat
  have Hbw:=Lib.hid hbw
  by_cases hlt:i<la
  ·have Hlt:=Lib.hid hlt
   obtain ⟨b,o,rfl,hbl,hc⟩:=(H.out.below hbw).at (by omega)
   have hq:=HT.out (qs.getD i []) (by rw [List.getD_eq_getElem?_getD,List.getElem?_eq_getElem (by rw [Hl.out];exact hlt)];exact List.getElem_mem _)
   have e0:=hc i hlt 0 (by omega)
   have e1:=hc i hlt 1 (by omega)
   have e2:=hc i hlt 2 (by omega)
   rw [Nat.add_zero] at e0
   have hl3:=list3 hq.1
   have s0:=hq.2 0 (by omega)
   have s1:=hq.2 1 (by omega)
   have s2:=hq.2 2 (by omega)
   have HA:=Lib.hid (sma_abs hq.1 hq.2)
   have HN:=Lib.hid (show prodf [1] (qs.take (i+1))=rmul (prodf [1] (qs.take i)) (qs.getD i []) by rw [List.take_add_one,List.getElem?_eq_getElem (by rw [Hl.out];exact hlt),Option.toList_some,prodf_app,List.getD_eq_getElem?_getD,List.getElem?_eq_getElem (by rw [Hl.out];exact hlt)];rfl)
   obtain ⟨x0,hx0⟩:∃ x,x=(qs.getD i []).getD 0 0:=⟨_,rfl⟩
   obtain ⟨x1,hx1⟩:∃ x,x=(qs.getD i []).getD 1 0:=⟨_,rfl⟩
   obtain ⟨x2,hx2⟩:∃ x,x=(qs.getD i []).getD 2 0:=⟨_,rfl⟩
   rw [← hx0] at e0 s0 hl3
   rw [← hx1] at e1 s1 hl3
   rw [← hx2] at e2 s2 hl3
   rw [hl3] at HN HA
   have ti:(i:Int)<(la:Int):=by omega
   have tw:IntKind.i64.wrap ((i:Int)+1)=(i:Int)+1:=IntWalk.i64_in _ (by omega)
   have HTI:=Lib.hid (show Tri (qs.take i) from fun q h=>HT.out q (List.mem_of_mem_take h))
   have HLI:=Lib.hid (show (qs.take i).length≤5 by rw [List.length_take];omega)
   clear hx0 hx1 hx2 hc hq hl3 hat hbw
   clear hi hlt
   go_wp2_with fail
   refine (wid_any x0 x1 x2 _ ⟨by omega,by omega⟩ ⟨by omega,by omega⟩ ⟨by omega,by omega⟩).mono ?_
   rintro e w1 ⟨A1,c1,rfl,h1,hb1⟩
   have H1:=Lib.hid h1
   have hat1:=Lib.hid (Hat.out.below hb1)
   replace Hbw:=Lib.hid (Hbw.out.trans (hb1.mono Hbw.out.size))
   have hll:=Lib.hid (show l'≤1000 by rw [← Hat.out.length];have:=prodf_len _ [1] 0 HTI.out (by decide) (by decide);have:=HLI.out;omega)
   clear hb1 h1
   go_wp2_with fail
   refine (rmul_any _ _ _ (prodf [1] (qs.take i)) _ _ _ [x0,x1,x2] _ hat1.out H1.out hll.out (by omega) (X:=27^5) (Y:=9) (fun j=>by
    have h:=prodf_bd _ [1] 1 HTI.out one_abs j
    have h2:27^(qs.take i).length≤27^5:=Nat.pow_le_pow_right (by decide) HLI.out
    omega) HA.out (by decide)).mono ?_
   rintro e w2 ⟨A2,l2,c2,rfl,h2,_,hb2⟩
   have H2:=Lib.hid h2
   replace Hbw:=Lib.hid (Hbw.out.trans (hb2.mono Hbw.out.size))
   clear hb2 h2
   go_wp2
   go_roundw
   case rel=>exact ⟨i+1,_,_,_,Hlt.out,rfl,by go_num,by rw [HN.out];exact H2.out,Hbw.out⟩
   case measure=>have:=Hlt.out;simp [intOf];omega
  ·have ti:¬ (i:Int)<(la:Int):=by omega
   have HE:=Lib.hid (show qs.take i=qs by rw [List.take_of_length_le (by rw [Hl.out];omega)])
   clear hat hbw hi hlt
   go_wp2
   go_ret
   exact ⟨⟨_,_,_,rfl,by rw [← HE.out];exact Hat.out⟩,Hbw.out⟩
end Go.Proofs.Ytipocabbjinbhaa
