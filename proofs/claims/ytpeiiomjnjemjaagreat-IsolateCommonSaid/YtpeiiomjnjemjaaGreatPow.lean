/- The walks of unipoly.Pow at constants, unidiv.power, unipoly.Scale. -/
import Derived.Test.YtpeiiomjnjemjaaGreatGcdA
import Derived.Test.YtpeiiomjnjemjaaGreatIdP
import Derived.Test.YtpeiiomjnjemjaaGreatQuo
import Derived.Test.YtpeiiomjnjemjaaGreatRbH
namespace Go.Proofs.YtpeiiomjnjemjaaGreat
open Go.RowKit
def pcont (p:List Int):Nat:=p.foldr (fun a g=>Nat.gcd a.natAbs g) 0
theorem pcont_drop (p:List Int) {j:Nat} (h:j<p.length):pcont (p.drop j)=Nat.gcd (p.getD j 0).natAbs (pcont (p.drop (j+1))):=by
 rw[List.drop_eq_getElem_cons h,List.getD_eq_getElem?_getD,List.getElem?_eq_getElem h];rfl
theorem pcont_dvd (p:List Int):∀ j,pcont p∣pcont (p.drop j):=by
 intro j
 induction j with
 | zero=>exact Nat.dvd_refl _
 | succ j ih =>
   rcases Nat.lt_or_ge j p.length with h | h
   ·rw[pcont_drop p h] at ih
    exact Nat.dvd_trans ih (Nat.gcd_dvd_right _ _)
   ·rw[List.drop_eq_nil_of_le (by omega)];exact Nat.dvd_zero _
def pconts (g0:Nat) (ps:List (List Int)):Nat:=ps.foldl (fun g p=>Nat.gcd g (pcont p)) g0
theorem pconts_take (ps:List (List Int)) {k:Nat} (h:k<ps.length):pconts 0 (ps.take (k+1))=Nat.gcd (pconts 0 (ps.take k)) (pcont (ps.getD k [])):=by
 rw[List.take_succ_eq_append_getElem h,pconts,List.foldl_append,List.getD_eq_getElem?_getD,List.getElem?_eq_getElem h];rfl
theorem pconts_dvd_acc (ps:List (List Int)):∀ g,pconts g ps∣g:=by
 induction ps with
 | nil=>intro g;exact Nat.dvd_refl _
 | cons p ps ih=>intro g;exact Nat.dvd_trans (ih _) (Nat.gcd_dvd_left _ _)
theorem pconts_dvd (ps:List (List Int)) (k:Nat):pconts 0 ps∣pconts 0 (ps.take k):=by
 have e:pconts 0 ps=pconts (pconts 0 (ps.take k)) (ps.drop k):=by
  show List.foldl _ _ _=List.foldl _ (List.foldl _ _ _) _
  rw[<- List.foldl_append,List.take_append_drop]
 rw[e]
 exact pconts_dvd_acc _ _
theorem pconts_one (ps:List (List Int)) {k j:Nat} (hk:k<ps.length) (h:Nat.gcd (pconts 0 (ps.take k)) (pcont ((ps.getD k []).drop j))=1):pconts 0 ps=1:=by
 have h1:=pconts_dvd ps k
 have h2:=pconts_dvd ps (k+1)
 rw[pconts_take ps hk] at h2
 have h3:pconts 0 ps∣Nat.gcd (pconts 0 (ps.take k)) (pcont ((ps.getD k []).drop j)) :=
  Nat.dvd_gcd h1 (Nat.dvd_trans (Nat.dvd_trans h2 (Nat.gcd_dvd_right _ _)) (pcont_dvd _ _))
 rw[h] at h3
 exact Nat.dvd_one.1 h3
structure PLst (w:World) (A:Option Addr) (len cap:Nat) (ps:List (List Int)):Prop where
 length:ps.length=len
 elems:len=0∨∃ b off,A=some ⟨b,off,none⟩/\b<w.heap.size/\∀ j,j<len->∃ Aj lj cj,w.cell? ⟨b,off+j,none⟩=some (.slice Aj lj cj)/\PolyAt w Aj lj cj (ps.getD j [])
theorem PLst.below {w w':World} {A:Option Addr} {len cap:Nat} {ps:List (List Int)} (h:PLst w A len cap ps) (hb:Below w.heap.size w w'):PLst w' A len cap ps:=by
 refine ⟨h.length,?_⟩
 rcases h.elems with h0 | ⟨b,off,hA,hlt,hc⟩
 ·exact .inl h0
 ·refine .inr ⟨b,off,hA,Nat.lt_of_lt_of_le hlt hb.size,fun j hj=>?_⟩
  obtain ⟨Aj,lj,cj,h1,h2⟩:=hc j hj
  exact ⟨Aj,lj,cj,(hb.cell (p:=⟨b,off+j,none⟩) hlt).trans h1,h2.below ikAt hb⟩
theorem sm_gcd {a b:Nat} (ha:Sm a) (hb:Sm b):Sm (Nat.gcd a b):=by
 rcases Nat.eq_zero_or_pos b with h | h
 ·rw[h,Nat.gcd_zero_right];exact ha
 ·exact hb.mono (Nat.gcd_le_right _ h)
structure CtI (w wr:World) (gr g1 gc:Nat) (n1:Bool) (A1:Option Addr) (l1 c1:Nat) (nc:Bool) (Ac:Option Addr) (lc cc:Nat) (G:Nat):Prop where
 r:IBox wr gr false none 0 0 0
 one:IBox wr g1 n1 A1 l1 c1 1
 c:IBox wr gc nc Ac lc cc (G:Int)
 sm:Sm G
 below:Below w.heap.size w wr
section
variable {w wr w':World} {gr g1 gc:Nat} {n1:Bool} {A1:Option Addr} {l1 c1:Nat} {nc:Bool} {Ac:Option Addr} {lc cc:Nat} {G:Nat}
theorem CtI.move (h:CtI w wr gr g1 gc n1 A1 l1 c1 nc Ac lc cc G) (hb:Below wr.heap.size wr w') :
  CtI w w' gr g1 gc n1 A1 l1 c1 nc Ac lc cc G:=⟨h.r.move hb,h.one.move hb,h.c.move hb,h.sm,h.below.trans (hb.mono h.below.size)⟩
theorem CtI.put (h:CtI w wr gr g1 gc n1 A1 l1 c1 nc Ac lc cc G) {n':Bool} {A':Option Addr} {l' c' G':Nat} (hz:IntN wr n' A' l' c' (G':Int)) (hs:Sm G') (h1:gr≠gc) (h2:g1≠gc) (hg:w.heap.size<=gc) :
  CtI w (put2 wr gc n' A' l' c') gr g1 gc n1 A1 l1 c1 n' A' l' c' G' :=
 ⟨h.r.far h.c h1 _ _,h.one.far h.c h2 _ _,h.c.put hz,hs,(h.below.setCell (p:=⟨gc,0,none⟩) hg _).setCell (p:=⟨gc,1,none⟩) hg _⟩
end
set_option maxRecDepth 100000 in
set_option maxHeartbeats 4000000 in
theorem contents_any (A:Option Addr) (len cap:Nat) (ps:List (List Int)) (w:World) (h:PLst w A len cap ps) (hs:∀ p∈ps,SmP p) (hl:∀ p∈ps,p.length<=1000000000) (hm:len<=1000000000) :
  Calls Tryz.prog 70 #[.slice A len cap] w fun e w'=>∃ n1 A1 l1 c1,e=.returned (.agg #[.bool n1,.slice A1 l1 c1])/\IntN w' n1 A1 l1 c1 (pconts 0 ps:Nat)/\Below w.heap.size w w':=by
 have hb0:Below w.heap.size w (w.alloc (ibox false none 0 0)):=(Below.refl _ _).alloc (Nat.le_refl _) _
 have HR:=Lh (IBox.nil w)
 have Hb0:=Lh hb0
 have hlen:=Lh h.length
 have Hh:=Lh h
 clear h hb0
 go_enter Tryz.func70,Tryz.ntmps70
 go_wp2_with fail
 refine (iof_any 1 _ (by unfold I64;omega)).mono ?_
 rintro e w1 ⟨n1,A1,l1,c1,rfl,h1,hb1⟩
 have hba:Below w1.heap.size w1 (w1.alloc (ibox n1 A1 l1 c1)):=(Below.refl _ _).alloc (Nat.le_refl _) _
 have hbb:Below (w1.alloc (ibox n1 A1 l1 c1)).heap.size (w1.alloc (ibox n1 A1 l1 c1)) ((w1.alloc (ibox n1 A1 l1 c1)).alloc (ibox false none 0 0)):=(Below.refl _ _).alloc (Nat.le_refl _) _
 have hbc:=hba.trans (hbb.mono hba.size)
 have hc:=IBox.nil (w1.alloc (ibox n1 A1 l1 c1))
 simp only[World.size_alloc] at hc
 have hinv:CtI w ((w1.alloc (ibox n1 A1 l1 c1)).alloc (ibox false none 0 0)) w.heap.size w1.heap.size (w1.heap.size+1) n1 A1 l1 c1 false none 0 0 (pconts 0 (ps.take 0)) :=
  ⟨(HR.out.move hb1).move hbc,(IBox.make h1).move hbb,hc,by show dlen 0<=_;rw[dlen_zero];omega,(Hb0.out.trans (hb1.mono Hb0.out.size)).trans (hbc.mono (Hb0.out.trans (hb1.mono Hb0.out.size)).size)⟩
 have hlt1:=(HR.out.move hb1).lt
 obtain ⟨gr,hgr⟩:∃ g,g=w.heap.size:=⟨_,rfl⟩
 obtain ⟨g1,hg1⟩:∃ g,g=w1.heap.size:=⟨_,rfl⟩
 have ne1:gr≠g1:=by omega
 have ne2:g1≠gr:=by omega
 obtain ⟨gc,hgc⟩:∃ g,g=g1+1:=⟨_,rfl⟩
 have ne3:gr≠gc:=by omega
 have ne4:g1≠gc:=by omega
 have ne5:gc≠gr:=by omega
 have ne6:gc≠g1:=by omega
 rw[<- hg1,<- hgc,<- hgr] at hinv
 have HI0:=Lh hinv
 have Hgr:=Lh (show w.heap.size<=gr by omega)
 have Hgc:=Lh (show w.heap.size<=gc by omega)
 clear hinv h1 hb1 hba hbb hbc hc HR Hb0 hlt1
 go_wp2
 rw[<- hg1,<- hgc,<- hgr]
 clear hg1 hgc hgr
 go_loopw [12] (fun i wr=>∃ k nc Ac lc cc,k<=len/\i=.int .i64 (k:Int)/\CtI w wr gr g1 gc n1 A1 l1 c1 nc Ac lc cc (pconts 0 (ps.take k))) (fun i _=>len-(intOf i).toNat)
 case atStart=>exact ⟨0,_,_,_,_,Nat.zero_le _,rfl,HI0.out⟩
 case round =>
  clear HI0
  obtain ⟨k,nc,Ac,lc,cc,hk,rfl,hI⟩:=hrel
  by_cases hlt:k<len
  ·obtain ⟨b,off,hA,hbw,hc⟩:=Hh.out.elems.resolve_left (by omega)
   subst hA
   obtain ⟨Af,lf,cf,e0w,hpf⟩:=hc k hlt
   have e0:=(hI.below.cell (p:=⟨b,off+k,none⟩) hbw).trans e0w
   have hmem:ps.getD k []∈ps:=by
    rw[List.getD_eq_getElem?_getD,List.getElem?_eq_getElem (by rw[hlen.out];exact hlt)]
    exact List.getElem_mem _
   have hsp:=hs _ hmem
   have hlp:=hl _ hmem
   have HI:=Lh hI
   have Hpt:=Lh (pconts_take ps (k:=k) (by rw[hlen.out];exact hlt))
   have Hone:=Lh (fun j=>pconts_one ps (k:=k) (j:=j) (by rw[hlen.out];exact hlt))
   obtain ⟨p,hp⟩:∃ p,p=ps.getD k []:=⟨_,rfl⟩
   rw[<- hp] at hpf hsp hlp Hpt Hone
   have hlf:=hpf.length
   rw[hlf] at hlp
   have Hpf:=Lh hpf
   have Hlf:=Lh hlf
   obtain ⟨Gk,hGk⟩:∃ G,G=pconts 0 (ps.take k):=⟨_,rfl⟩
   rw[<- hGk] at HI Hpt Hone
   clear hI hpf hp hmem hlf hc hbw hGk e0w
   go_wp2
   go_loopw [7] (fun j wx=>∃ t nc Ac lc cc,t<=lf/\j=.int .i64 ((t:Int)-1)/\CtI w wx gr g1 gc n1 A1 l1 c1 nc Ac lc cc (Nat.gcd Gk (pcont (p.drop t)))) (fun j _=>(intOf j+1).toNat)
   case atStart=>exact ⟨lf,_,_,_,_,Nat.le_refl _,by simp,by rw[List.drop_eq_nil_of_le (by rw[Hlf.out];exact Nat.le_refl _)];show CtI _ _ _ _ _ _ _ _ _ _ _ _ _ (Nat.gcd Gk 0);rw[Nat.gcd_zero_right];exact HI.out⟩
   case round =>
    clear HI e0
    obtain ⟨t,nc,Ac,lc,cc,htl,rfl,hI⟩:=hrel
    rcases t with _ | t
    ·have hneg:¬ ((0:Int)<=((0:Nat):Int)-1):=by omega
     rw[List.drop_zero,<- Hpt.out] at hI
     have HI:=Lh hI
     clear hI
     go_wp2
     go_roundw
     case rel=>exact ⟨k+1,_,_,_,_,by omega,by go_num,HI.out⟩
     case measure=>simp[intOf];omega
    ·rw[show (((t+1:Nat):Int)-1)=(t:Int) by omega]
     have htp:t<p.length:=by rw[Hlf.out];omega
     have htl2:t<lf:=by omega
     obtain ⟨bf,of,hBf,hbf,hcf⟩:=Hpf.out.get (by omega)
     subst hBf
     obtain ⟨na,Aa,la,ca,e0w,e1w,za⟩:=hcf t (by omega)
     have e0:=(hI.below.cell (p:=⟨bf,of+t*2,none⟩) hbf).trans e0w
     have e1:=(hI.below.cell (p:=⟨bf,of+t*2+1,none⟩) hbf).trans e1w
     have nbf:gc≠bf:=by have:=Hgc.out;omega
     have b0:=hI.c.c0
     have b1:=hI.c.c1
     have hsa:SmI (p.getD t 0):=hsp.getD t
     have hsG:SmI ((Nat.gcd Gk (pcont (p.drop (t+1))):Nat):Int):=by
      show Sm _
      rw[Int.natAbs_natCast]
      exact hI.sm
     have hge:Nat.gcd (Nat.gcd Gk (pcont (p.drop (t+1)))) (p.getD t 0).natAbs=Nat.gcd Gk (pcont (p.drop t)):=by
      rw[pcont_drop p htp,Nat.gcd_assoc,Nat.gcd_comm (pcont _)]
     have hsg2:=Lh (sm_gcd (b:=(p.getD t 0).natAbs) hI.sm hsa)
     rw[hge] at hsg2
     have Hge:=Lh hge
     have HI:=Lh hI
     have Hza:=Lh (za.below hI.below)
     have Hone2:=Lh (Hone.out t)
     obtain ⟨G1,hG1⟩:∃ G,G=Nat.gcd Gk (pcont (p.drop (t+1))):=⟨_,rfl⟩
     obtain ⟨G2,hG2⟩:∃ G,G=Nat.gcd Gk (pcont (p.drop t)):=⟨_,rfl⟩
     rw[<- hG1] at HI hsG Hge
     rw[<- hG2] at Hge hsg2 Hone2
     have HG2:=Lh hG2
     generalize p.getD t 0=x at *
     clear hI e0w e1w za hcf hbf hge hG1 hG2
     go_wp2_with fail
     refine wp_region_last (S:=fun w'=>w'.cell? ⟨gc,0,none⟩=some (.bool nc)/\w'.cell? ⟨gc,1,none⟩=some (.slice Ac lc cc)/\w'.cell? ⟨bf,of+t*2,none⟩=some (.bool na)/\w'.cell? ⟨bf,of+t*2+1,none⟩=some (.slice Aa la ca)) (by kernel_rfl) (by kernel_rfl) (by (try dsimp only);go_keep) (fun hHeld=>?_)
     simp only[List.pop_toArray,List.dropLast]
     (refine tq 0 ?_;simp only[put_lit,List.set])
     (refine tq 1 ?_;simp only[put_lit,List.set])
     (refine tq 2 ?_;simp only[put_lit,List.set])
     (refine tq 3 ?_;simp only[put_lit,List.set])
     (refine tq 4 ?_;simp only[put_lit,List.set])
     refine rdy 5 (fun K hK=>?_);go_simp
     refine (gcd_all _ _ _ _ _ _ _ _ _ _ _ ?_ ?_ hsG hsa).mono ?_
     ·exact HI.out.c.hz.at_.below Bel.go
     ·exact Hza.out.below Bel.go
     rintro e w7 ⟨n8,A8,l8,c8,rfl,h8,hb8⟩
     rw[Int.natAbs_natCast,Hge.out] at h8
     obtain ⟨hcx,hfx⟩:=bcellS hb8
     replace HI:=Lh (HI.out.move (Below.trans Bel.go (hb8.mono (by simp<;>omega))))
     have H8:=Lh h8
     refine hK.out _ _ ?_ (fun _=>?_)
     ·((try dsimp only);repeat' apply And.intro)<;>(rw[hcx _ (by go_simp)];go_simp)
     clear hHeld hK K hcx hfx;rename_i hHeld
     refine wpAnyH_done (by kernel_rfl) (lastQ_list rfl ?_) _
     have p0:=hHeld.1
     have p1:=hHeld.2.1
     have p2:=HI.out.c.f0
     have p3:=HI.out.c.f1
     have p4:=HI.out.one.c0
     have p5:=HI.out.one.c1
     have HP:=Lh (HI.out.put H8.out hsg2.out ne3 ne4 Hgc.out)
     have s2:SmI (G2:Int):=by show Sm _;rw[Int.natAbs_natCast];exact hsg2.out
     have s1:SmI 1:=SmI.of64 (by unfold I64;omega)
     clear hHeld h8 hb8 Hza e0 e1 b0 b1 HI
     go_wp2_with fail
     refine (isame_any _ _ _ _ _ _ _ _ _ _ _ HP.out.c.hz.at_ HP.out.one.hz.at_ s2 s1).mono ?_
     rintro e w9 ⟨rfl,hb9⟩
     have HP9:=Lh (HP.out.move hb9)
     clear hb9 HP p0 p1 p2 p3 p4 p5
     by_cases h1:G2=1
     ·rw[show decide ((G2:Int)=1)=true from decide_eq_true (by omega)]
      have hfin:=Hone2.out h1
      have HR:=Lh (HP9.out.r.put HP9.out.c.hz)
      have d0:=HP9.out.r.c0
      have d1:=HP9.out.r.c1
      have d2:=HP9.out.r.f0
      have d3:=HP9.out.r.f1
      have d4:=HP9.out.c.c0
      have d5:=HP9.out.c.c1
      have Hfin:=Lh (show G2=pconts 0 ps by rw[hfin];exact h1)
      have Hbl:=Lh ((HP9.out.below.setCell (p:=⟨gr,0,none⟩) Hgr.out (.bool n8)).setCell (p:=⟨gr,1,none⟩) Hgr.out (.slice A8 l8 c8))
      clear hfin h1
      go_wp2
      refine bodyPost_ret (v:=.agg #[.bool n8,.slice A8 l8 c8]) (by simp[results,Tryz.results70,go_sem,d0,d1]) rfl ⟨_,_,_,_,rfl,?_,Hbl.out⟩
      rw[<- Hfin.out];exact HR.out.hz
     ·rw[show decide ((G2:Int)=1)=false from decide_eq_false (by omega)]
      clear h1
      go_wp2
      go_roundw
      case rel=>exact ⟨t,_,_,_,_,by omega,rfl,by rw[<- HG2.out];exact HP9.out⟩
      case measure=>simp[intOf]
  ·have hkk:len=k:=by omega
   rw[List.take_of_length_le (by rw[hlen.out];omega)] at hI
   subst hkk
   have HR:=Lh (hI.r.put hI.c.hz)
   have d0:=hI.r.c0
   have d1:=hI.r.c1
   have d2:=hI.r.f0
   have d3:=hI.r.f1
   have d4:=hI.c.c0
   have d5:=hI.c.c1
   have Hbl:=Lh ((hI.below.setCell (p:=⟨gr,0,none⟩) Hgr.out (.bool nc)).setCell (p:=⟨gr,1,none⟩) Hgr.out (.slice Ac lc cc))
   clear hI
   go_wp2
   refine bodyPost_ret (v:=.agg #[.bool nc,.slice Ac lc cc]) (by simp[results,Tryz.results70,go_sem,d0,d1]) rfl ⟨_,_,_,_,rfl,HR.out.hz,Hbl.out⟩
end Go.Proofs.YtpeiiomjnjemjaaGreat
namespace Go.Proofs.YtpeiiomjnjemjaaGreat
open Go.RowKit
theorem plst_one {w:World} {A:Option Addr} {la ca:Nat} {p:List Int} (h:PolyAt w A la ca p):PLst (w.alloc (.cells #[.slice A la ca] 26)) (some ⟨w.heap.size,0,none⟩) 1 1 [p]:=by
 refine ⟨rfl,.inr ⟨w.heap.size,0,rfl,by simp,fun j hj=>?_⟩⟩
 have hj0:j=0:=by omega
 subst hj0
 exact ⟨A,la,ca,by go_simp,h.below ikAt ((Below.refl _ _).alloc (Nat.le_refl _) _)⟩
set_option maxHeartbeats 1000000 in
theorem content_any {I:IntPred} (hI:IK I) (A:Option Addr) (len cap:Nat) (p:List Int) (w:World) (h:PolyP I w A len cap p) (hs:SmP p) (hm:len<=1000000000) :
  Calls Tryz.prog 66 #[.slice A len cap] w fun e w'=>∃ n1 A1 l1 c1,e=.returned (.agg #[.bool n1,.slice A1 l1 c1])/\IntN w' n1 A1 l1 c1 (pcont p:Nat)/\Below w.heap.size w w':=by
 have hb0:Below w.heap.size w (w.alloc (ibox false none 0 0)):=(Below.refl _ _).alloc (Nat.le_refl _) _
 have hb1:Below (w.alloc (ibox false none 0 0)).heap.size (w.alloc (ibox false none 0 0)) ((w.alloc (ibox false none 0 0)).alloc (.cells #[.slice A len cap] 26)):=(Below.refl _ _).alloc (Nat.le_refl _) _
 have hp:=plst_one ((h.below hI hb0).at_ hI)
 simp only[World.size_alloc] at hp
 have Hp:=Lh hp
 have HR:=Lh ((IBox.nil w).move hb1)
 have Hb0:=Lh (hb0.trans (hb1.mono hb0.size))
 have hlen:=h.length
 have he:pconts 0 [p]=pcont p:=by show Nat.gcd 0 (pcont p)=_;rw[Nat.gcd_zero_left]
 have He:=Lh he
 clear h hb0 hb1 hp he
 go_enter Tryz.func66,Tryz.ntmps66
 go_wp2_with fail
 refine (contents_any _ _ _ _ _ Hp.out (by intro q hq;rw[List.mem_singleton.1 hq];exact hs) (by intro q hq;rw[List.mem_singleton.1 hq];omega) (by omega)).mono ?_
 rintro e w2 ⟨n2,A2,l2,c2,rfl,h2,hb2⟩
 rw[He.out] at h2
 have hR2:=HR.out.move hb2
 have HP:=Lh (hR2.put h2)
 have Hb2:=Lh (((Hb0.out.trans (hb2.mono Hb0.out.size)).setCell (p:=⟨w.heap.size,0,none⟩) (Nat.le_refl _) (.bool n2)).setCell (p:=⟨w.heap.size,1,none⟩) (Nat.le_refl _) (.slice A2 l2 c2))
 have d0:=hR2.c0
 have d1:=hR2.c1
 have d2:=hR2.f0
 have d3:=hR2.f1
 clear h2 hb2 hR2 Hp HR Hb0
 go_wp2
 refine bodyPost_ret (v:=.agg #[.bool n2,.slice A2 l2 c2]) (by simp[results,Tryz.results66,go_sem,d0,d1]) rfl ⟨_,_,_,_,rfl,HP.out.hz,Hb2.out⟩
def dvs (c:Int) (q:List Int) (k:Nat):List Int:=(List.range q.length).map fun j=>if j<k then (q.getD j 0).tdiv c else q.getD j 0
theorem dvs_length (c:Int) (q:List Int) (k:Nat):(dvs c q k).length=q.length:=by simp[dvs]
theorem dvs_getE (c:Int) (q:List Int) (k:Nat) {t:Nat} (h:t<q.length):(dvs c q k)[t]?=some (if t<k then (q.getD t 0).tdiv c else q.getD t 0):=by
 rw[dvs,List.getElem?_map,List.getElem?_range h];rfl
theorem dvs_get (c:Int) (q:List Int) (k:Nat) {t:Nat} (h:t<q.length):(dvs c q k).getD t 0=if t<k then (q.getD t 0).tdiv c else q.getD t 0:=by
 rw[List.getD_eq_getElem?_getD,dvs_getE c q k h];rfl
theorem dvs_zero (c:Int) (q:List Int):dvs c q 0=q:=by
 refine List.ext_getElem? fun t=>?_
 rcases Nat.lt_or_ge t q.length with h | h
 ·rw[dvs_getE c q 0 h,if_neg (by omega),List.getD_eq_getElem?_getD,List.getElem?_eq_getElem h];rfl
 ·rw[List.getElem?_eq_none (by rw[dvs_length];exact h),List.getElem?_eq_none h]
theorem dvs_set (c:Int) (q:List Int) {j:Nat} (hj:j<q.length):(dvs c q j).set j ((q.getD j 0).tdiv c)=dvs c q (j+1):=by
 refine List.ext_getElem? fun t=>?_
 rcases Nat.lt_or_ge t q.length with h | h
 ·rw[dvs_getE c q (j+1) h]
  rcases Nat.decEq t j with hne | heq
  ·rw[List.getElem?_set_ne (by omega),dvs_getE c q j h]
   congr 1
   by_cases h1:t<j
   ·rw[if_pos h1,if_pos (by omega)]
   ·rw[if_neg h1,if_neg (by omega)]
  ·subst heq
   rw[List.getElem?_set_self (by rw[dvs_length];exact h),if_pos (by omega)]
 ·rw[List.getElem?_eq_none (by rw[List.length_set,dvs_length];exact h),List.getElem?_eq_none (by rw[dvs_length];exact h)]
theorem dvs_full (c:Int) (q:List Int):dvs c q q.length=q.map (·.tdiv c):=by
 refine List.ext_getElem? fun t=>?_
 rcases Nat.lt_or_ge t q.length with h | h
 ·rw[dvs_getE c q _ h,if_pos h,List.getElem?_map,List.getD_eq_getElem?_getD,List.getElem?_eq_getElem h];rfl
 ·rw[List.getElem?_eq_none (by rw[dvs_length];exact h),List.getElem?_eq_none (by rw[List.length_map];exact h)]
set_option maxRecDepth 100000 in
set_option maxHeartbeats 4000000 in
theorem over_any {I:IntPred} (hI:IK I) (A:Option Addr) (len cap:Nat) (p:List Int) (nb:Bool) (B:Option Addr) (lb cb:Nat) (c:Int) (w:World) (h:PolyP I w A len cap p) (hc:IntN w nb B lb cb c) (hs:SmP p) (hsc:SmI c) (h0:c≠0) (hm:len<=1000000000) :
  Calls Tryz.prog 67 #[.slice A len cap,.agg #[.bool nb,.slice B lb cb]] w fun e w'=>∃ g,e=.returned (.slice (some ⟨g,0,none⟩) (plen p) (plen p))/\PRow w' g ((ptrim p).map (·.tdiv c))/\w.heap.size<=g/\Below w.heap.size w w':=by
 have hb0:Below w.heap.size w (w.alloc (ibox nb B lb cb)):=(Below.refl _ _).alloc (Nat.le_refl _) _
 have h1:=h.below hI hb0
 have hB0:=Lh (IBox.make hc)
 have hpl:plen p<=1000000000:=by have:=plen_le p;have:=h.length;omega
 have Hb0:=Lh hb0
 clear h hb0 hc
 go_enter Tryz.func67,Tryz.ntmps67
 go_wp2_with fail
 refine (pnormal_any hI _ _ _ _ _ h1 hs (by omega)).mono ?_
 rintro e w1 ⟨g,rfl,hrow,hg,hb1⟩
 have hB1:=Lh (hB0.out.move hb1)
 have hlB:=hB0.out.lt
 simp only[World.size_alloc] at hg
 have Hb1:=Lh (Hb0.out.trans (hb1.mono Hb0.out.size))
 have hpt:=Lh (ptrim_length p)
 obtain ⟨q,hq⟩:∃ q,q=ptrim p:=⟨_,rfl⟩
 have hsq:SmP q:=by rw[hq];exact hs.ptrim
 rw[<- hq] at hrow hpt
 have Hq:=Lh hq
 obtain ⟨n,hn⟩:∃ n,n=plen p:=⟨_,rfl⟩
 rw[<- hn] at hpl hpt ⊢
 have Hn:=Lh hn
 obtain ⟨gb,hgb⟩:∃ b,b=w.heap.size:=⟨_,rfl⟩
 rw[<- hgb] at hB1 ⊢
 have ne1:g≠gb:=by omega
 have ne2:gb≠g:=by omega
 have Hg:=Lh (show w.heap.size<=g by omega)
 have Hrow:=Lh hrow
 clear hrow hb1 h1 hB0 Hb0 hq hn hg hgb hlB
 go_wp2
 go_loopw [11] (fun i wr=>∃ k,k<=n/\i=.int .i64 (k:Int)/\PRow wr g (dvs c q k)/\IBox wr gb nb B lb cb c/\Below w.heap.size w wr) (fun i _=>n-(intOf i).toNat)
 case atStart=>exact ⟨0,Nat.zero_le _,rfl,by rw[dvs_zero];exact Hrow.out,hB1.out,Hb1.out⟩
 case round =>
  clear Hrow hB1 Hb1
  obtain ⟨k,hkn,rfl,hr,hB,hb⟩:=hrel
  by_cases hk:k<n
  ·have hkq:k<q.length:=by rw[hpt.out];exact hk
   obtain ⟨n1,A1,l1,c1,e10,e11,z1⟩:=hr.elems k (by rw[dvs_length];exact hkq)
   rw[dvs_get _ _ _ hkq,if_neg (by omega)] at z1
   have f0:=hr.frozen (k*2)
   have f1:=hr.frozen (k*2+1)
   have b0:=hB.c0
   have b1:=hB.c1
   have hst:=Lh (dvs_set c q hkq)
   have hsz:SmI (q.getD k 0):=hsq.getD k
   have Hz1:=Lh z1
   have Hr:=Lh hr
   have HB:=Lh hB
   have Hb:=Lh hb
   have Hk:=Lh (show k<(dvs c q k).length by rw[dvs_length];exact hkq)
   generalize q.getD k 0=zk at *
   clear z1 hr hB hb hkq
   go_wp2_with fail
   refine wp_region_held_drew (S:=fun w'=>w'.cell? ⟨gb,0,none⟩=some (.bool nb)/\w'.cell? ⟨gb,1,none⟩=some (.slice B lb cb)) (by kernel_rfl) (by (try dsimp only);go_keep) (fun hHeld=>?_)
   (refine tq 0 ?_;simp only[put_lit,List.set])
   (refine tq 1 ?_;simp only[put_lit,List.set])
   (refine tq 2 ?_;simp only[put_lit,List.set])
   (refine tq 3 ?_;simp only[put_lit,List.set])
   (refine tq 4 ?_;simp only[put_lit,List.set])
   (refine tq 6 ?_;simp only[put_lit,List.set])
   refine rdy 5 (fun K hK=>?_);go_simp
   refine hK.out _ _ ?_ (fun _=>?_)
   ·(try dsimp only);go_keep
   clear hHeld hK K
   rename_i hHeld
   (try (simp only[put_lit,List.set]))
   refine rdy 7 (fun K hK=>?_);go_simp
   refine (quo_all _ _ _ _ _ _ _ _ _ _ _ ?_ ?_ hsz hsc h0).mono ?_
   ·exact Hz1.out.at_.below Bel.go
   ·exact HB.out.hz.at_.below Bel.go
   rintro e w7 ⟨n8,A8,l8,c8,n9,A9,l9,c9,rfl,h8,h9,hb8⟩
   obtain ⟨hcx,hfx⟩:=bcellS hb8
   replace Hr:=Lh (Hr.out.below (Below.trans Bel.go (hb8.mono (by simp<;>omega))))
   replace HB:=Lh (HB.out.move (Below.trans Bel.go (hb8.mono (by simp<;>omega))))
   replace Hb:=Lh (Hb.out.trans ((Below.trans Bel.go (hb8.mono (by simp<;>omega))).mono Hb.out.size))
   have H8:=Lh h8
   refine hK.out _ _ ?_ (fun _=>?_)
   ·((try dsimp only);repeat' apply And.intro)<;>(rw[hcx _ (by go_simp)];go_simp)
   have p0:w7.cell? ⟨g,k*2,none⟩=some (.bool n1):=(hcx _ (by go_simp)).trans (by go_simp)
   have p1:w7.cell? ⟨g,k*2+1,none⟩=some (.slice A1 l1 c1):=(hcx _ (by go_simp)).trans (by go_simp)
   clear hHeld hK K hcx hfx;rename_i hHeld
   (refine tq 8 ?_;simp only[put_lit,List.set])
   (refine tq 9 ?_;simp only[put_lit,List.set])
   (refine tq 10 ?_;simp only[put_lit,List.set])
   (refine tq 11 ?_;simp only[put_lit,List.set])
   (refine tq 12 ?_;simp only[put_lit,List.set])
   have p2:=Hr.out.frozen (k*2)
   have p3:=Hr.out.frozen (k*2+1)
   have q0:=HB.out.c0
   have q1:=HB.out.c1
   refine rdy 13 (fun K hK=>?_);go_simp
   refine hK.out _ _ ?_ (fun _=>?_)
   ·(try dsimp only);go_keep
   clear hHeld hK K
   refine wpAnyH_done (by kernel_rfl) ?_ _
   go_wp2
   go_roundw
   case rel =>
    refine ⟨k+1,by omega,by go_num,?_,HB.out.row Hr.out Hk.out ne2 _ _,(Hb.out.setCell (p:=⟨g,k*2,none⟩) Hg.out _).setCell (p:=⟨g,k*2+1,none⟩) Hg.out _⟩
    rw[<- hst.out]
    exact Hr.out.set_ Hk.out H8.out
   case measure=>simp[intOf];omega
  ·have hkn2:n=k:=by omega
   subst hkn2
   rw[show n=q.length from hpt.out.symm,dvs_full] at hr
   have Hr:=Lh hr
   have Hb:=Lh hb
   clear hr hB hb
   go_wp2
   go_ret
   exact ⟨g,by rw[<- Hn.out];rfl,by rw[<- Hq.out];exact Hr.out,Hg.out,Hb.out⟩
def pprim (f:List Int):List Int:=if plen f=0 then [] else (ptrim f).map (·.tdiv (sg (plead f)*(pcont f:Int)))
theorem plead_zero {f:List Int}:plead f=0↔plen f=0:=by
 constructor
 ·intro h
  rcases Nat.eq_zero_or_pos (plen f) with h0 | h0
  ·exact h0
  ·exact absurd h (plead_ne (by omega))
 ·intro h
  exact getD_ge_plen f _ (by omega)
theorem pcont_get (p:List Int) (k:Nat):pcont p∣(p.getD k 0).natAbs:=by
 rcases Nat.lt_or_ge k p.length with h | h
 ·have h1:=pcont_dvd p k
  rw[pcont_drop p h] at h1
  exact Nat.dvd_trans h1 (Nat.gcd_dvd_left _ _)
 ·rw[getD_out p h];exact Nat.dvd_zero _
theorem pcont_ne {p:List Int} (h:plen p≠0):pcont p≠0:=by
 intro e
 have h1:=pcont_get p (plen p-1)
 rw[e,Nat.zero_dvd] at h1
 exact plead_ne h (by show p.getD _ 0=0;omega)
theorem pcont_sm {p:List Int} (h:SmP p):Sm (pcont p):=by
 induction p with
 | nil=>show dlen 0<=_;rw[dlen_zero];omega
 | cons a t ih=>exact sm_gcd (h a (List.mem_cons_self)) (ih fun c hc=>h c (List.mem_cons_of_mem _ hc))
set_option maxRecDepth 100000 in
set_option maxHeartbeats 4000000 in
theorem primitive_any {I:IntPred} (hI:IK I) (A:Option Addr) (len cap:Nat) (p:List Int) (w:World) (h:PolyP I w A len cap p) (hs:SmP p) (hm:len<=1000000000) :
  Calls Tryz.prog 37 #[.slice A len cap] w fun e w'=>∃ A' l' c',e=.returned (.slice A' l' c')/\PolyN w' A' l' c' (pprim p)/\Below w.heap.size w w':=by
 have hsc:=pcont_sm hs
 have Hp:=Lh h
 go_enter Tryz.func37,Tryz.ntmps37
 go_wp2_with fail
 refine (content_any hI _ _ _ _ _ h hs hm).mono ?_
 rintro e w1 ⟨n1,A1,l1,c1,rfl,h1,hb1⟩
 have hba:Below w1.heap.size w1 (w1.alloc (ibox n1 A1 l1 c1)):=(Below.refl _ _).alloc (Nat.le_refl _) _
 have HC:=Lh (IBox.make h1)
 have Hb1:=Lh (hb1.trans (hba.mono hb1.size))
 have h2:=(h.below hI hb1).below hI hba
 have Hsz:=Lh hb1.size
 clear h h1 hb1 hba
 go_wp2_with fail
 refine (lead_any _ _ _ _ _ (h2.at_ hI) hs (by omega)).mono ?_
 rintro e w2 ⟨n2,A2,l2,c2,rfl,hL,hb2⟩
 have h3:=h2.below hI hb2
 have HC2:=Lh (HC.out.move hb2)
 have Hb2:=Lh (Hb1.out.trans (hb2.mono Hb1.out.size))
 clear h2 hb2 HC Hb1
 have hsl:SmI (plead p):=hs.getD _
 go_wp2_with fail
 refine (isign_any _ _ _ _ _ _ hL.at_ hsl).mono ?_
 rintro e w3 ⟨rfl,rfl⟩
 have hba:Below w2.heap.size w2 (w2.alloc (Obj.cells #[Value.bool n2,Value.slice A2 l2 c2] 38)):=(Below.refl _ _).alloc (Nat.le_refl _) _
 have h4:=h3.below hI hba
 have HC3:=Lh (HC2.out.move hba)
 have Hb3:=Lh (Hb2.out.trans (hba.mono Hb2.out.size))
 clear h3 hba HC2 Hb2 hL
 generalize w2.alloc (Obj.cells #[Value.bool n2,Value.slice A2 l2 c2] 38)=W at *
 obtain ⟨gb,hgb⟩:∃ g,g=w1.heap.size:=⟨_,rfl⟩
 rw[<- hgb] at HC3 ⊢
 have Hgb:=Lh (show w.heap.size<=gb by have:=Hsz.out;omega)
 have Hl0:=Lh (plead_zero (f:=p))
 have Hcn:=Lh (fun h=>pcont_ne (p:=p) h)
 have hcs:SmI (pcont p:Int):=by show Sm _;rw[Int.natAbs_natCast];exact hsc
 clear hgb
 rcases sg_cases (plead p) with ⟨hp,hsg⟩ | ⟨hp,hsg⟩ | ⟨hp,hsg⟩
 ·rw[hsg]
  have hpl:plen p≠0:=fun h=>by have:=Hl0.out.2 h;omega
  have hne:-(pcont p:Int)≠0:=by have:=Hcn.out hpl;omega
  have hsn:SmI (-(pcont p:Int)):=by show Sm _;rw[Int.natAbs_neg,Int.natAbs_natCast];exact hsc
  have b0:=HC3.out.c0
  have b1:=HC3.out.c1
  have H4:=Lh h4
  have Hpp:=Lh (show pprim p=(ptrim p).map (·.tdiv (-(pcont p:Int))) by unfold pprim;rw[if_neg hpl,hsg,Int.neg_one_mul])
  clear h4 hp hsg hpl hsl
  go_wp2_with fail
  refine (ineg_any _ _ _ _ _ _ HC3.out.hz.at_ hcs).mono ?_
  rintro e w5 ⟨n5,A5,l5,c5,rfl,h5,hb5⟩
  have hC5:=HC3.out.move hb5
  have H5:=Lh (H4.out.below hI hb5)
  have Hb5:=Lh (Hb3.out.trans (hb5.mono Hb3.out.size))
  have HP:=Lh (hC5.put h5)
  have hbp:Below w.heap.size w (put2 w5 gb n5 A5 l5 c5):=(Hb5.out.setCell (p:=⟨gb,0,none⟩) Hgb.out _).setCell (p:=⟨gb,1,none⟩) Hgb.out _
  have c50:=hC5.c0
  have c51:=hC5.c1
  have f50:=hC5.f0
  have f51:=hC5.f1
  have H6:=Lh (Hp.out.below hI hbp)
  have Hbp:=Lh hbp
  clear h5 hb5 hC5 b0 b1 HC3 H4 hbp H5 Hb5
  go_wp2_with fail
  refine (over_any hI _ _ _ _ _ _ _ _ _ _ H6.out HP.out.hz hs hsn hne hm).mono ?_
  rintro e w7 ⟨g7,rfl,h7,-,hb7⟩
  have hq7:=h7.poly (cap:=plen p) (by rw[List.length_map,ptrim_length];exact Nat.le_refl _)
  rw[List.length_map,ptrim_length] at hq7
  have Hq7:=Lh hq7
  have Hb7:=Lh (Hbp.out.trans (hb7.mono Hbp.out.size))
  clear h7 hb7 hq7 HP H6 Hbp c50 c51 f50 f51
  go_wp2
  go_ret
  exact ⟨_,_,_,rfl,by rw[Hpp.out];exact Hq7.out,Hb7.out⟩
 ·rw[hsg]
  have hpl:plen p=0:=Hl0.out.1 hp
  have Hpp:=Lh (show pprim p=[] by unfold pprim;rw[if_pos hpl])
  clear h4 hp hsg hpl hsl
  go_wp2
  go_ret
  exact ⟨_,_,_,rfl,by rw[Hpp.out];exact PolyP.nil _ _ _ _,Hb3.out⟩
 ·rw[hsg]
  have hpl:plen p≠0:=fun h=>by have:=Hl0.out.2 h;omega
  have hne:(pcont p:Int)≠0:=by have:=Hcn.out hpl;omega
  have b0:=HC3.out.c0
  have b1:=HC3.out.c1
  have H4:=Lh h4
  have Hpp:=Lh (show pprim p=(ptrim p).map (·.tdiv (pcont p:Int)) by unfold pprim;rw[if_neg hpl,hsg,Int.one_mul])
  clear h4 hp hsg hpl hsl
  go_wp2_with fail
  refine (over_any hI _ _ _ _ _ _ _ _ _ _ H4.out HC3.out.hz hs hcs hne hm).mono ?_
  rintro e w7 ⟨g7,rfl,h7,-,hb7⟩
  have hq7:=h7.poly (cap:=plen p) (by rw[List.length_map,ptrim_length];exact Nat.le_refl _)
  rw[List.length_map,ptrim_length] at hq7
  have Hq7:=Lh hq7
  have Hb7:=Lh (Hb3.out.trans (hb7.mono Hb3.out.size))
  clear h7 hb7 hq7 HC3 H4 Hb3
  go_wp2
  go_ret
  exact ⟨_,_,_,rfl,by rw[Hpp.out];exact Hq7.out,Hb7.out⟩
end Go.Proofs.YtpeiiomjnjemjaaGreat
namespace Go.Proofs.YtpeiiomjnjemjaaGreat
open Go.RowKit
theorem polymul_const (a b:Int):polymul [a] [b]=[a*b]:=by
 unfold polymul
 rw[if_neg (by simp)]
 show [pc [a] [b] 0]=_
 simp[pc,pcs]
theorem pow_even (s:Int) (k:Nat):(s*s)^k=s^(2*k):=by rw[Int.pow_mul,Int.pow_succ,Int.pow_succ,Int.pow_zero,Int.one_mul]
theorem natAbs_le_of_mul {a b:Int} (hb:b≠0):a.natAbs<=(a*b).natAbs:=by
 rw[Int.natAbs_mul]
 exact Nat.le_mul_of_pos_right _ (by omega)
theorem ptrim_const {a:Int} (h:a≠0):ptrim [a]=[a]:=by
 have:plen [a]=1:=plen_eq _ 0 (by have:=plen_le [a];simpa using this) (by simpa using h)
 rw[ptrim,this];rfl
theorem fitp_const {a:Int} (h:Fit a):FitP [a]:=by
 intro k
 rcases k with _ | k
 ·exact h
 ·show Fit (([a]:List Int).getD (k+1) 0)
  rw[getD_out [a] (by simp)]
  show (0:Int).natAbs<_
  exact Nat.pow_pos BB_pos
theorem Fit.le {a b:Int} (h:Fit b) (hab:a.natAbs<=b.natAbs):Fit a:=Nat.lt_of_le_of_lt hab h
theorem bits_and_one {n:Nat} (h:n<9223372036854775808):bits BinOp.and IntKind.i64 (n:Int) 1=((n % 2:Nat):Int):=by
 have e1:(BitVec.ofInt IntKind.i64.bits (n:Int)).toNat=n:=by
  rw[BitVec.ofInt_natCast,BitVec.toNat_ofNat];exact Nat.mod_eq_of_lt (show n<2^64 by omega)
 have e2:(BitVec.ofInt IntKind.i64.bits (1:Int)).toNat=1:=rfl
 unfold bits
 simp only[BitVec.toNat_and,e1,e2]
 rw[Nat.and_one_is_mod,IntWalk.i64_in _ (by omega)]
set_option maxRecDepth 100000 in
set_option maxHeartbeats 4000000 in
theorem cpow_any (A:Option Addr) (ca:Nat) (a:Int) (n:Nat) (w:World) (h:PolyN w A 1 ca [a]) (h0:a≠0) (hf:Fit (a^n)) (hn:n<=1000000000) (hfa:Fit a) :
  Calls Tryz.prog 100 #[.slice A 1 ca,.int .i64 (n:Int)] w fun e w'=>∃ A' c',e=.returned (.slice A' 1 c')/\PolyN w' A' 1 c' [a^n]/\Below w.heap.size w w':=by
 have hbx:Below w.heap.size w (w.alloc (.cells #[.int .i64 1] 2)):=(Below.refl _ _).alloc (Nat.le_refl _) _
 have h1:=h.below ikN hbx
 have Hbx:=Lh hbx
 have hat:I64At (w.alloc (.cells #[.int .i64 1] 2)) (some ⟨w.heap.size,0,none⟩) 1 1 [1]:=by
  refine ⟨rfl,Nat.le_refl _,.inr ⟨w.heap.size,0,rfl,by simp,fun j hj=>?_⟩⟩
  have hj0:j=0:=by omega
  subst hj0
  go_simp
 have Hat:=Lh hat
 clear h hbx hat
 go_enter Tryz.func100,Tryz.ntmps100
 go_wp2_with fail
 refine (pof_any _ _ _ _ _ Hat.out (by intro c hc;rw[List.mem_singleton.1 hc];unfold I64;omega) (by omega)).mono ?_
 rintro e w1 ⟨A1,l1,c1,rfl,h2,hb1⟩
 rw[ptrim_const (by decide)] at h2
 have hl1:1=l1:=h2.length
 subst hl1
 have h3:=h1.below ikN hb1
 have Hb1:=Lh (Hbx.out.trans (hb1.mono Hbx.out.size))
 have H2:=Lh h2
 clear h1 hb1 Hbx Hat h2
 go_wp2_with fail
 refine (pnormal_any ikN _ _ _ _ _ h3 (fitp_const hfa).smp (by omega)).mono ?_
 rintro e w2 ⟨g2,rfl,h4,-,hb2⟩
 have hp1:plen [a]=1:=by have:=ptrim_length [a];rw[ptrim_const h0] at this;exact this.symm
 rw[hp1]
 rw[ptrim_const h0] at h4
 have h5:=h4.poly (cap:=1) (Nat.le_refl _)
 have hinv:∃ (R:Option Addr) (cR:Nat) (S:Option Addr) (cS:Nat) (r s:Int),(Value.slice A1 1 c1=.slice R 1 cR)/\(Value.slice (some ⟨g2,0,none⟩) 1 1=.slice S 1 cS)/\PolyN w2 R 1 cR [r]/\PolyN w2 S 1 cS [s]/\r≠0/\s≠0/\r*s^n=a^n/\Below w.heap.size w w2 :=
  ⟨_,_,_,_,1,a,rfl,rfl,H2.out.below ikN hb2,h5,by decide,h0,Int.one_mul _,Hb1.out.trans (hb2.mono Hb1.out.size)⟩
 have Hinv:=Lh hinv
 clear h3 h4 h5 hb2 hp1 H2 Hb1 hinv
 go_wp2
 go_loopw [1,5,6] (fun m R S wr=>∃ (k:Nat) (R':Option Addr) (cR:Nat) (S':Option Addr) (cS:Nat) (r s:Int),k<=n/\m=.int .i64 (k:Int)/\R=.slice R' 1 cR/\S=.slice S' 1 cS/\PolyN wr R' 1 cR [r]/\PolyN wr S' 1 cS [s]/\r≠0/\s≠0/\r*s^k=a^n/\Below w.heap.size w wr) (fun m _ _ _=>(intOf m).toNat)
 case atStart =>
  obtain ⟨R,cR,S,cS,r,s,e1,e2,hr,hs,hr0,hs0,hrs,hb⟩:=Hinv.out
  exact ⟨n,R,cR,S,cS,r,s,Nat.le_refl _,rfl,e1,e2,hr,hs,hr0,hs0,hrs,hb⟩
 case round =>
  clear Hinv
  obtain ⟨k,R,cR,S,cS,r,s,hk,rfl,rfl,rfl,hr,hs,hr0,hs0,hrs,hb⟩:=hrel
  have hsk:s^k≠0:=Int.pow_ne_zero hs0
  have fr:Fit r:=hf.le (by rw[<- hrs];exact natAbs_le_of_mul hsk)
  have Hrs:=Lh hrs
  by_cases hk0:k=0
  ·subst hk0
   have hfin:r=a^n:=by rw[<- Hrs.out,Int.pow_zero,Int.mul_one]
   have Hfin:=Lh hfin
   have Hr:=Lh hr
   have Hb:=Lh hb
   clear hr hs hb hfin hrs hsk
   go_wp2
   go_ret
   exact ⟨_,_,rfl,by rw[<- Hfin.out];exact Hr.out,Hb.out⟩
  ·have hk1:(0:Int)<(k:Int):=by omega
   obtain ⟨j,hj⟩:∃ j,j=k / 2:=⟨_,rfl⟩
   have hand:=bits_and_one (n:=k) (by omega)
   have hshr:(k:Int) / 2=(j:Int):=by omega
   have hjk:j<k:=by omega
   have hjn:j<=n:=by omega
   have fs:Fit s:=hf.le (by
    rw[<- hrs]
    have e:s^k=s*s^(k-1):=by rw[Int.mul_comm,<- Int.pow_succ];congr 1;omega
    rw[e,Int.mul_left_comm]
    exact natAbs_le_of_mul (Int.mul_ne_zero hr0 (Int.pow_ne_zero hs0)))
   have Hr:=Lh hr
   have Hs:=Lh hs
   have Hb:=Lh hb
   have Hj:=Lh hj
   rcases Nat.mod_two_eq_zero_or_one k with hm | hm
   ·rw[hm] at hand
    clear hr hs hb hj hrs hsk hk0
    by_cases hj0:j=0
    ·subst hj0
     go_wp2
     go_roundw
     case rel=>exact ⟨0,_,_,_,_,_,_,Nat.zero_le _,by go_num,rfl,rfl,Hr.out,Hs.out,hr0,hs0,by have h:=Hrs.out;have h2:=Hj.out;rw[show k=0 by omega] at h;exact h,Hb.out⟩
     case measure=>simp[intOf];omega
    ·have hj1:(0:Int)<(j:Int):=by omega
     go_wp2_with fail
     refine (polymul_any ikN ikN _ _ _ _ _ _ _ _ _ Hs.out Hs.out (fitp_const fs) (fitp_const fs) (by omega) (by omega)).mono ?_
     rintro e w4 ⟨A4,l4,c4,rfl,h4,hb4⟩
     rw[ptrim_const hs0,polymul_const] at h4
     have hl4:1=l4:=h4.length
     subst hl4
     have H4:=Lh h4
     have HR4:=Lh (Hr.out.below ikN hb4)
     have HB4:=Lh (Hb.out.trans (hb4.mono Hb.out.size))
     clear h4 hb4
     go_wp2
     go_roundw
     case rel=>exact ⟨j,_,_,_,_,_,_,by omega,by go_num,rfl,rfl,HR4.out,H4.out,hr0,Int.mul_ne_zero hs0 hs0,by rw[pow_even,show 2*j=k by have:=Hj.out;omega];exact Hrs.out,HB4.out⟩
     case measure=>simp[intOf];omega
   ·rw[hm] at hand
    clear hr hs hb hj hrs hsk hk0
    by_cases hj0:j=0
    ·subst hj0
     go_wp2_with fail
     refine (polymul_any ikN ikN _ _ _ _ _ _ _ _ _ Hr.out Hs.out (fitp_const fr) (fitp_const fs) (by omega) (by omega)).mono ?_
     rintro e w3 ⟨A3,l3,c3,rfl,h3,hb3⟩
     rw[ptrim_const hr0,ptrim_const hs0,polymul_const] at h3
     have hl3:1=l3:=h3.length
     subst hl3
     have H3:=Lh h3
     have HS3:=Lh (Hs.out.below ikN hb3)
     have HB3:=Lh (Hb.out.trans (hb3.mono Hb.out.size))
     clear h3 hb3
     go_wp2
     go_roundw
     case rel=>exact ⟨0,_,_,_,_,_,_,Nat.zero_le _,by go_num,rfl,rfl,H3.out,HS3.out,(Int.mul_ne_zero hr0 hs0),hs0,by have h:=Hrs.out;have h2:=Hj.out;rw[show k=0+1 by omega,Int.pow_succ] at h;rw[<- h,Int.mul_assoc,Int.mul_comm s],HB3.out⟩
     case measure=>simp[intOf];omega
    ·have hj1:(0:Int)<(j:Int):=by omega
     go_wp2_with fail
     refine (polymul_any ikN ikN _ _ _ _ _ _ _ _ _ Hr.out Hs.out (fitp_const fr) (fitp_const fs) (by omega) (by omega)).mono ?_
     rintro e w3 ⟨A3,l3,c3,rfl,h3,hb3⟩
     rw[ptrim_const hr0,ptrim_const hs0,polymul_const] at h3
     have hl3:1=l3:=h3.length
     subst hl3
     have H3:=Lh h3
     have HS3:=Lh (Hs.out.below ikN hb3)
     have HB3:=Lh (Hb.out.trans (hb3.mono Hb.out.size))
     clear h3 hb3
     go_wp2_with fail
     refine (polymul_any ikN ikN _ _ _ _ _ _ _ _ _ HS3.out HS3.out (fitp_const fs) (fitp_const fs) (by omega) (by omega)).mono ?_
     rintro e w4 ⟨A4,l4,c4,rfl,h4,hb4⟩
     rw[ptrim_const hs0,polymul_const] at h4
     have hl4:1=l4:=h4.length
     subst hl4
     have H4:=Lh h4
     have HR4:=Lh (H3.out.below ikN hb4)
     have HB4:=Lh (HB3.out.trans (hb4.mono HB3.out.size))
     clear h4 hb4
     go_wp2
     go_roundw
     case rel=>exact ⟨j,_,_,_,_,_,_,by omega,by go_num,rfl,rfl,HR4.out,H4.out,(Int.mul_ne_zero hr0 hs0),Int.mul_ne_zero hs0 hs0,by have h:=Hrs.out;have h2:=Hj.out;rw[show k=2*j+1 by omega,Int.pow_succ] at h;rw[pow_even,<- h,Int.mul_assoc,Int.mul_comm s],HB4.out⟩
     case measure=>simp[intOf];omega
theorem plead_const {a:Int} (h:a≠0):plead [a]=a:=by
 have:plen [a]=1:=plen_eq _ 0 (by have:=plen_le [a];simpa using this) (by simpa using h)
 unfold plead
 rw[this];rfl
theorem poly_ibox {w:World} {n:Bool} {A:Option Addr} {l c:Nat} {z:Int} (h:IntN w n A l c z):PolyN (w.alloc (ibox n A l c)) (some ⟨w.heap.size,0,none⟩) 1 1 [z]:=by
 have hb:=IBox.make h
 refine ⟨rfl,Nat.le_refl _,.inr ⟨w.heap.size,0,rfl,by simp,fun j hj=>?_⟩⟩
 have hj0:j=0:=by omega
 subst hj0
 exact ⟨n,A,l,c,by simp,by simp,hb.hz⟩
set_option maxRecDepth 100000 in
set_option maxHeartbeats 4000000 in
theorem power_any (na:Bool) (A:Option Addr) (la ca:Nat) (a:Int) (n:Nat) (w:World) (h:IntN w na A la ca a) (h0:a≠0) (hf:Fit (a^n)) (hn:n<=1000000000) (hfa:Fit a) :
  Calls Tryz.prog 90 #[.agg #[.bool na,.slice A la ca],.int .i64 (n:Int)] w fun e w'=>∃ n1 A1 l1 c1,e=.returned (.agg #[.bool n1,.slice A1 l1 c1])/\IntN w' n1 A1 l1 c1 (a^n)/\Below w.heap.size w w':=by
 have hba:Below w.heap.size w (w.alloc (ibox na A la ca)):=(Below.refl _ _).alloc (Nat.le_refl _) _
 have hbb:Below (w.alloc (ibox na A la ca)).heap.size (w.alloc (ibox na A la ca)) ((w.alloc (ibox na A la ca)).alloc (ibox false none 0 0)):=(Below.refl _ _).alloc (Nat.le_refl _) _
 have hab:=hba.trans (hbb.mono hba.size)
 have hR:=IBox.nil (w.alloc (ibox na A la ca))
 simp only[World.size_alloc] at hR
 have h1:=h.below hab
 have hp:=poly_ibox h1
 have hbc:Below ((w.alloc (ibox na A la ca)).alloc (ibox false none 0 0)).heap.size ((w.alloc (ibox na A la ca)).alloc (ibox false none 0 0)) (((w.alloc (ibox na A la ca)).alloc (ibox false none 0 0)).alloc (ibox na A la ca)):=(Below.refl _ _).alloc (Nat.le_refl _) _
 have HR:=Lh (hR.move hbc)
 have Hb:=Lh (hab.trans (hbc.mono hab.size))
 simp only[World.size_alloc] at hp
 have Hp:=Lh hp
 clear h hba hbb hab hR h1 hp hbc
 go_enter Tryz.func90,Tryz.ntmps90
 go_wp2_with fail
 refine (cpow_any _ _ _ _ _ Hp.out h0 hf hn hfa).mono ?_
 rintro e w1 ⟨A1,c1,rfl,h2,hb1⟩
 have HR1:=Lh (HR.out.move hb1)
 have Hb1:=Lh (Hb.out.trans (hb1.mono Hb.out.size))
 have hpn:a^n≠0:=Int.pow_ne_zero h0
 clear hb1 Hp HR Hb
 go_wp2_with fail
 refine (lead_any _ _ _ _ _ (h2.at_ ikN) (fitp_const hf).smp (by omega)).mono ?_
 rintro e w2 ⟨n2,A2,l2,c2,rfl,h3,hb2⟩
 rw[plead_const hpn] at h3
 have hR2:=HR1.out.move hb2
 have HP:=Lh (hR2.put h3)
 have Hb2:=Lh (((Hb1.out.trans (hb2.mono Hb1.out.size)).setCell (p:=⟨w.heap.size+1,0,none⟩) (by first | (simp;done) | (simp;omega) | omega) (.bool n2)).setCell (p:=⟨w.heap.size+1,1,none⟩) (by first | (simp;done) | (simp;omega) | omega) (.slice A2 l2 c2))
 have d0:=hR2.c0
 have d1:=hR2.c1
 have d2:=hR2.f0
 have d3:=hR2.f1
 clear h2 h3 hb2 hR2 HR1 Hb1
 go_wp2
 refine bodyPost_ret (v:=.agg #[.bool n2,.slice A2 l2 c2]) (by simp[results,Tryz.results90,go_sem,d0,d1]) rfl ⟨_,_,_,_,rfl,HP.out.hz,Hb2.out⟩
end Go.Proofs.YtpeiiomjnjemjaaGreat
