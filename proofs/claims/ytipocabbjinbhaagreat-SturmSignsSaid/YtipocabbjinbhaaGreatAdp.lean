/- The law SturmAdds, plain: counts and queries add up over neighbouring intervals; the signs at the roots; the roots below a number. No program. -/
import Derived.Test.YtipocabbjinbhaaGreatTkr
namespace Go.Proofs.YtipocabbjinbhaaGreat
open Go.RowKit
theorem lin2_plen {z q:Int} (hq:0<q):plen [-z,q]=2:=plen_eq _ 1 (by have:=plen_le [-z,q];simpa using this) (by show q≠0;omega)
theorem lin2_at {z q:Int} (hq:0<q):sgp [-z,q] (Pt.of ((z:Rat) / (q:Rat)))=0:=by
 unfold sgp
 rw [sgf_of (lp_pv _)]
 have hq':(0:Rat)<(q:Rat):=by exact_mod_cast hq
 have e:pv [-z,q] ((z:Rat) / (q:Rat))=0:=by
  show ((-z:Int):Rat)+(z:Rat) / (q:Rat)*(((q:Int):Rat)+(z:Rat) / (q:Rat)*0)=0
  rw [Rat.mul_zero,Rat.add_zero,Rat.intCast_neg,Rat.div_def]
  generalize (z:Rat)=u at *
  generalize (q:Rat)=v at *
  grind
 rw [e]
 rfl
theorem lin2_root {z q:Int} (hq:0<q) (x:Pt):sgp [-z,q] x=0↔x=Pt.of ((z:Rat) / (q:Rat)):=by
 constructor
 ·intro h
  have h0:=lin2_at (z:=z) hq
  have hp:=lin2_plen (z:=z) hq
  rcases Pt.tri x (Pt.of ((z:Rat) / (q:Rat))) with c | c | c
  ·have:=rts_le 1 _ hp [x,Pt.of ((z:Rat) / (q:Rat))] (by simp [c]) (by intro y hy;simp at hy;rcases hy with rfl | rfl<;>assumption)
   simp at this
  ·exact c
  ·have:=rts_le 1 _ hp [Pt.of ((z:Rat) / (q:Rat)),x] (by simp [c]) (by intro y hy;simp at hy;rcases hy with rfl | rfl<;>assumption)
   simp at this
 ·rintro rfl;exact lin2_at hq
open Classical in
theorem lin2_mult {z q:Int} (hq:0<q) (x:Pt):mult x [-z,q]=if x=Pt.of ((z:Rat) / (q:Rat)) then 1 else 0:=by
 have hp:=lin2_plen (z:=z) hq
 split
 ·rename_i h
  have h0:=(lin2_root hq x).2 h
  have h1:=(mult_pder (by omega) h0).1
  have e:∀ t,ev (pder [-z,q]) t=ev [q] t:=fun t=>ev_congr (fun k=>by
   rw [pder_getD]
   match k with
   | 0=>show q*((0:Int)+1)=q;omega
   | k+1 =>
     rw [getD_ge_plen [-z,q] (k+1+1) (by omega),Int.zero_mul]
     rfl) t
  have h2:mult x (pder [-z,q])=0:=by
   rw [mult_ev e (by rw [plen_ev e,plen_one (by omega)];decide)]
   exact mult_const (by omega) x
  omega
 ·rename_i h
  rw [mult_zero (by omega)]
  exact fun e=>h ((lin2_root hq x).1 e)
theorem lin2_div {f:List Int} {z q:Int} (hq:0<q) (hg:Nat.gcd z.natAbs q.natAbs=1) (h0:sgp f (Pt.of ((z:Rat) / (q:Rat)))=0):∃ s:List Int,∀ x,ev f x=ev [-z,q] x*ev s x:=by
 have hp:=lin2_plen (z:=z) hq
 have hl:plead [-z,q]=q:=by unfold plead;rw [hp];rfl
 have hps:=fun x=>rps_ev f [-z,q] (by omega) x
 rw [hp,hl] at hps
 have hrl:=psr_plen f [-z,q] (by omega)
 have hr0:plen (psr f [-z,q])=0:=by
  refine Classical.byContradiction fun hc=>?_
  have h1:plen (psr f [-z,q])=1:=by omega
  have h2:=sgp_one h1 (Pt.of ((z:Rat) / (q:Rat)))
  have hv:Van (Pt.of ((z:Rat) / (q:Rat))) 1 (psr f [-z,q]):=by
   have vf:Van (Pt.of ((z:Rat) / (q:Rat))) 1 f:=fun i hi=>by
    obtain rfl:i=0:=by omega
    exact h0
   have vl:Van (Pt.of ((z:Rat) / (q:Rat))) 1 [-z,q]:=fun i hi=>by
    obtain rfl:i=0:=by omega
    exact lin2_at hq
   refine ((vf.psc (q^(plen f-(2-1)))).add ((vl.mul (psq f [-z,q])).psc (-1))).ev fun t=>?_
   rw [ev_padd,ev_psc,ev_psc,ev_mul,hps t]
   omega
  have h3:sgp (psr f [-z,q]) (Pt.of ((z:Rat) / (q:Rat)))=0:=hv 0 (by omega)
  rw [h3] at h2
  exact sg_ne (plead_ne (by omega)) h2.symm
 have hz:∀ x,ev (psr f [-z,q]) x=0:=fun x=>by rw [ev_congr (p:=psr f [-z,q]) (q:=[]) (fun k=>by rw [getD_ge_plen _ k (by omega)];rfl),ev_nil]
 have hc:pcont [-z,q]=1:=by
  show Nat.gcd (-z).natAbs (Nat.gcd q.natAbs 0)=1
  rw [Int.natAbs_neg,Nat.gcd_zero_right]
  exact hg
 refine gauss_div (l:=[-z,q]) (f:=f) (r:=psq f [-z,q]) (c:=q^(plen f-(2-1))) hc (Int.ne_of_gt (Int.pow_pos hq)) fun x=>?_
 have:=hps x
 rw [hz x,Int.add_zero] at this
 rw [this,Int.mul_comm]
theorem rz_facts {z:Int} {q:Nat} (hq:0<q) (z8:z.natAbs≤ZB) (q8:q≤ZB):0<(rq z q:Int)∧Nat.gcd (rz z q).natAbs ((rq z q:Int)).natAbs=1∧(rz z q).natAbs≤ZB∧rq z q≤ZB∧((rz z q:Int):Rat) / (((rq z q:Nat):Int):Rat)=(z:Rat) / (q:Rat):=by
 obtain ⟨g,hg⟩:∃ g,g=Nat.gcd z.natAbs q:=⟨_,rfl⟩
 have hg0:0<g:=by rw [hg];exact Nat.gcd_pos_of_pos_right _ hq
 have hd1:(g:Int)∣z:=by rw [hg,← Int.natAbs_dvd_natAbs,Int.natAbs_natCast];exact Nat.gcd_dvd_left _ _
 have hd2:g∣q:=by rw [hg];exact Nat.gcd_dvd_right _ _
 obtain ⟨a,ha⟩:=hd1
 obtain ⟨b,hb⟩:=hd2
 have e1:rz z q=a:=by unfold rz;rw [← hg,ha,Int.mul_tdiv_cancel_left _ (by omega)]
 have e2:rq z q=b:=by unfold rq;rw [← hg,hb,Nat.mul_div_cancel_left _ hg0]
 have hb0:0<b:=Nat.pos_of_ne_zero fun h=>by rw [h,Nat.mul_zero] at hb;omega
 rw [e1,e2]
 refine ⟨by omega,?_,?_,?_,?_⟩
 ·rw [Int.natAbs_natCast]
  have h1:Nat.gcd z.natAbs q=g*Nat.gcd a.natAbs b:=by
   rw [ha,hb,Int.natAbs_mul,Int.natAbs_natCast,Nat.gcd_mul_left]
  rw [← hg] at h1
  exact Nat.eq_of_mul_eq_mul_left hg0 (by rw [← h1,Nat.mul_one])
 ·have:z.natAbs=g*a.natAbs:=by rw [ha,Int.natAbs_mul,Int.natAbs_natCast]
  have h2:a.natAbs≤g*a.natAbs:=Nat.le_mul_of_pos_left _ hg0
  omega
 ·have h2:b≤g*b:=Nat.le_mul_of_pos_left _ hg0
  omega
 ·have hbr:(0:Rat)<((b:Nat):Rat):=by exact_mod_cast hb0
  have hgr:(0:Rat)<((g:Nat):Rat):=by exact_mod_cast hg0
  have hgb:=Rat.mul_pos hgr hbr
  rw [ha,hb,Rat.intCast_mul,Rat.natCast_mul,Rat.intCast_natCast,Rat.intCast_natCast,Rat.div_def,Rat.div_def]
  generalize ((g:Nat):Rat)=x at *
  generalize ((b:Nat):Rat)=y at *
  generalize ((a:Int):Rat)=u at *
  grind
def wrt (Q:List Int) (z:Int) (q:Nat):List Int:=if sat z q Q=0 then pexq Q [-(rz z q),(rq z q:Int)] else Q
structure WrF (Q:List Int) (k:Nat) (z:Int) (q:Nat):Prop where
 ok:sat z q Q=0→ExOK 1000000000 Q [-(rz z q),(rq z q:Int)]
 f:SqF (wrt Q z q) (k+6)
 l:plen (wrt Q z q)≤plen Q
 r:∀ x,sgp (wrt Q z q) x=0↔sgp Q x=0∧x≠Pt.of ((z:Rat) / (q:Rat))
open Classical in
theorem wr_facts {Q:List Int} {k:Nat} (h:SqF Q k) (hk:k≤80) {z:Int} {q:Nat} (hq:0<q) (z8:z.natAbs≤ZB) (q8:q≤ZB):WrF Q k z q:=by
 obtain ⟨a1,a2,a3,a4,a5⟩:=rz_facts hq z8 q8
 have hs:=sat_eq (z:=z) hq Q
 by_cases c:sat z q Q=0
 ·have h0:sgp Q (Pt.of (((rz z q:Int):Rat) / (((rq z q:Nat):Int):Rat)))=0:=by rw [a5,← hs];exact c
  have ew:wrt Q z q=pexq Q [-(rz z q),(rq z q:Int)]:=by unfold wrt;rw [if_pos c]
  obtain ⟨u,hu⟩:∃ u,u=rz z q:=⟨_,rfl⟩
  obtain ⟨v,hv⟩:∃ v,v=(rq z q:Int):=⟨_,rfl⟩
  have a4':v.natAbs≤ZB:=by rw [hv,Int.natAbs_natCast];exact a4
  rw [← hu,← hv] at h0 a5 ew a2
  rw [← hv] at a1
  rw [← hu] at a3
  obtain ⟨s,hs'⟩:=lin2_div a1 a2 h0
  have hp:=lin2_plen (z:=u) a1
  obtain ⟨R,hR⟩:∃ R,R=ptrim s:=⟨_,rfl⟩
  have hRs:∀ x,ev Q x=ev [-u,v] x*ev R x:=fun x=>by rw [hR,ev_ptrim];exact hs' x
  have tR:ptrim R=R:=by rw [hR,ptrim_ptrim]
  have R0:plen R≠0:=fun e=>h.q0 (by rw [plen_ev (r:=polymul [-u,v] R) fun x=>by rw [ev_mul,hRs]];exact rmul_zero (.inr e))
  have bR:∀ j,(R.getD j 0).natAbs≤BB^(k+6):=factor_le (by have:=h.len;omega) h.q0 h.b hRs
  have fR:FitP R:=fun j=>Nat.lt_of_le_of_lt (bR j) (Nat.pow_lt_pow_right (by rw [BB_eq];decide) (by rw [FW_eq];omega))
  have fL:FitP [-u,v]:=fun j=>by
   match j with
   | 0=>exact zb_fit (by show (-u).natAbs≤_;omega)
   | 1=>exact zb_fit (by show v.natAbs≤_;omega)
   | j+2=>rw [getD_ge_plen [-u,v] (j+2) (by omega)];exact fit_lt2 (by decide)
  have hRl:plen R≤plen Q:=dvq_plen ⟨1,[-u,v],by decide,fun x=>by rw [Int.one_mul,hRs]⟩ h.q0
  obtain ⟨x1,x2⟩:=exact_prod (f:=Q) (g:=[-u,v]) (q:=R) (ev_inj2 hRs) tR R0 (by omega) fR fL (by have:=h.len;omega)
  have hm:∀ x,mult x Q=mult x R+mult x [-u,v]:=fun x=>mult_ev_mul (fun t=>by rw [hRs,Int.mul_comm]) R0 (by omega) x
  rw [x2] at ew
  refine ⟨fun _=>by rw [← hu,← hv];exact x1,by rw [ew];exact ⟨tR,R0,by have:=h.len;omega,bR,fun x=>by have:=hm x;have:=h.s x;omega⟩,by rw [ew];exact hRl,fun x=>?_⟩
  rw [ew]
  have h1:=hm x
  rw [lin2_mult a1,a5] at h1
  have h2:=h.s x
  have h3:=mult_zero R0 (x:=x)
  have h4:=mult_zero h.q0 (x:=x)
  by_cases e:x=Pt.of ((z:Rat) / (q:Rat))
  ·rw [if_pos e] at h1
   exact ⟨fun hr=>absurd (h3.1 (by omega)) (fun hn=>hn hr),fun hr=>absurd e hr.2⟩
  ·rw [if_neg e] at h1
   exact ⟨fun hr=>⟨Classical.byContradiction fun hn=>by have:=h4.2 hn;exact h3.1 (by omega) hr,e⟩,fun hr=>Classical.byContradiction fun hn=>by have:=h3.2 hn;exact h4.1 (by omega) hr.1⟩
 ·have ew:wrt Q z q=Q:=by unfold wrt;rw [if_neg c]
  rw [hs] at c
  refine ⟨fun e=>absurd e (by rw [hs];exact c),by rw [ew];exact ⟨h.t,h.q0,h.len,fun j=>Nat.le_trans (h.b j) (bbk_le (by omega)),h.s⟩,by rw [ew];omega,fun x=>?_⟩
  rw [ew]
  exact ⟨fun e=>⟨e,fun hx=>c (by rw [← hx];exact e)⟩,fun e=>e.1⟩
noncomputable def nquery (f g:List Int) (z:Int) (q:Nat) (z':Int) (q':Nat):Int :=
 if plen f=0∨¬ z*(q':Int)<z'*(q:Int) then 0
 else (if sat z' q' (qpart f)=0 then sat z' q' g else 0)+nqi (wrt (wrt (qpart f) z' q') z q) g (Pt.of ((z:Rat) / (q:Rat))) (Pt.of ((z':Rat) / (q':Rat)))
theorem isum_app (J:Pt→Int):∀ xs ys:List Pt,isum ((xs ++ ys).map J)=isum (xs.map J)+isum (ys.map J)
 | [],ys=>by show isum (ys.map J)=0+_;omega
 | x :: xs,ys=>by
   rw [List.cons_append,List.map_cons,List.map_cons,isum_cons,isum_cons,isum_app J xs ys];omega
theorem SqF.dg {R g:List Int} {k:Nat} (h:SqF R k) (hk:k≤29) (l6:plen R+plen g≤12) (hg:G6 g):CP (dgm R g):=by
 have h2:=plen_pder R
 have h3:=hg.plen
 refine ⟨by rw [plen_congr (dgm_get R g)];exact mul_plen (by omega),fun j=>?_⟩
 rw [dgm_get]
 refine Nat.le_trans (mul_coef2 (i:=k+1) (k:=1) (fun j=>pder_abs (k:=k) (by omega) h.b j) (fun j=>by rw [Nat.pow_one];exact hg.b j) (by omega) j) (bbk_le (by omega))
theorem nquery_sum {f g:List Int} (h:P9 f) (l6:plen f+plen g≤12) (hg:G6 g) (h0:plen f≠0) {z z':Int} {q q':Nat} (hq:0<q) (hq':0<q') (z8:z.natAbs≤ZB) (q8:q≤ZB) (z8':z'.natAbs≤ZB) (q8':q'≤ZB) (hlt:z*(q':Int)<z'*(q:Int)) (hab:Pt.of ((z:Rat) / (q:Rat))<Pt.of ((z':Rat) / (q':Rat))) {xs:List Pt}
  (hx:Lst (fun x=>sgp f x=0∧Pt.of ((z:Rat) / (q:Rat))<x∧(x<Pt.of ((z':Rat) / (q':Rat))∨x=Pt.of ((z':Rat) / (q':Rat)))) xs):nquery f g z q z' q'=isum (xs.map (sgp g)):=by
 have s0:=SqF.of9 h h0
 have hqf:=q_facts h.q h0
 have w1:=wr_facts s0 (by omega) hq' z8' q8'
 have w2:=wr_facts w1.f (by omega) hq z8 q8
 have l2:plen (wrt (wrt (qpart f) z' q') z q)+plen g≤12:=by have:=w2.l;have:=w1.l;have:=hqf.l;omega
 obtain ⟨ys,hy⟩:=roots_lst w2.f.q0 (fun x=>Pt.of ((z:Rat) / (q:Rat))<x∧x<Pt.of ((z':Rat) / (q':Rat)))
 have ra:sgp (wrt (wrt (qpart f) z' q') z q) (Pt.of ((z:Rat) / (q:Rat)))≠0:=fun e=>((w2.r _).1 e).2 rfl
 have rb:sgp (wrt (wrt (qpart f) z' q') z q) (Pt.of ((z':Rat) / (q':Rat)))≠0:=fun e=>((w1.r _).1 ((w2.r _).1 e).1).2 rfl
 have hroots:∀ x,sgp (wrt (wrt (qpart f) z' q') z q) x=0↔(sgp f x=0∧x≠Pt.of ((z':Rat) / (q':Rat)))∧x≠Pt.of ((z:Rat) / (q:Rat)):=fun x=>by rw [w2.r,w1.r,hqf.root]
 unfold nquery
 rw [if_neg (by rintro (e | e);exact h0 e;exact e hlt),nqi_sum (w2.f.cp (by omega)) (w2.f.dg (by omega) l2 hg) hab ra rb hy]
 generalize Pt.of ((z:Rat) / (q:Rat))=a at *
 have hsat:∀ p,sat z' q' p=sgp p (Pt.of ((z':Rat) / (q':Rat))):=fun p=>sat_eq hq' p
 rw [hsat,hsat]
 generalize Pt.of ((z':Rat) / (q':Rat))=b at *
 have hy2:Lst (fun x=>(sgp f x=0∧a<x)∧x<b) ys:=hy.congr fun x=>by
  rw [hroots]
  constructor
  ·rintro ⟨⟨⟨h1,_⟩,_⟩,h2,h3⟩;exact ⟨⟨h1,h2⟩,h3⟩
  ·rintro ⟨⟨h1,h2⟩,h3⟩
   exact ⟨⟨⟨h1,fun e=>Pt.irr b (by rw [e] at h3;exact h3)⟩,fun e=>Pt.irr a (by rw [e] at h2;exact h2)⟩,h2,h3⟩
 by_cases c:sgp f b=0
 ·rw [if_pos ((hqf.root b).2 c)]
  have hy3:=(hy2.add_top ⟨c,hab⟩).congr (Q:=fun x=>sgp f x=0∧a<x∧(x<b∨x=b)) fun x=>by rw [and_assoc]
  rw [hx.uniq hy3,isum_app]
  show _=_+(sgp g b+0)
  omega
 ·rw [if_neg (fun e=>c ((hqf.root b).1 e))]
  have hy3:=hy2.congr (Q:=fun x=>sgp f x=0∧a<x∧(x<b∨x=b)) fun x=>⟨fun ⟨⟨h1,h2⟩,h3⟩=>⟨h1,h2,.inl h3⟩,fun ⟨h1,h2,h3⟩=>⟨⟨h1,h2⟩,by
   rcases h3 with h3 | h3
   ·exact h3
   ·exact absurd (h3 ▸ h1) c⟩⟩
  rw [hx.uniq hy3]
  omega
end Go.Proofs.YtipocabbjinbhaaGreat
namespace Go.Proofs.YtipocabbjinbhaaGreat
open Go.RowKit
theorem hf_ex {f:List Int} (h0:plen f≠0) (a b:Pt):∃ xs,Hf f a b xs:=roots_lst h0 (fun x=>a<x∧(x<b∨x=b))
theorem isum_ones:∀ xs:List Pt,isum (xs.map fun _=>1)=xs.length:=fun xs=>isum_one xs fun _ _=>rfl
theorem nint_nil (a b:Pt):nint [] a b=0:=rfl
theorem ncount_nil {f:List Int} (h0:plen f=0) (z z':Int) (q q':Nat):ncount f z q z' q'=0:=by
 unfold ncount
 rw [qpart_nil h0,nint_nil]
 split<;>rfl
theorem nquery_nil {f g:List Int} (h0:plen f=0) (z z':Int) (q q':Nat):nquery f g z q z' q'=0:=by unfold nquery;rw [if_pos (.inl h0)]
section
variable {f g:List Int} {za zb zc:Int} {qa qb qc:Nat}
noncomputable def nbelow (f:List Int) (z:Int) (q:Nat):Int :=
 if plen f=0 then 0 else chE true (pchain 12 (qpart f) (pder (qpart f)))-chv (pchain 12 (qpart f) (pder (qpart f))) (Pt.of ((z:Rat) / (q:Rat)))-(if sat z q (qpart f)=0 then 1 else 0)
theorem nbelow_len (h:P9 f) (h0:plen f≠0) {z:Int} {q:Nat} (hq:0<q) {xs:List Pt} (hx:Lst (fun x=>sgp f x=0∧x<Pt.of ((z:Rat) / (q:Rat))) xs):nbelow f z q=xs.length:=by
 have hf:=q_facts h.q h0
 unfold nbelow
 rw [if_neg h0]
 have hsat:=sat_eq (z:=z) hq (qpart f)
 rw [hsat]
 generalize Pt.of ((z:Rat) / (q:Rat))=b at *
 obtain ⟨ys,hy⟩:=roots_lst hf.q0 (fun x=>x<b∨x=b)
 rw [low_count hf.q0 hf.simple (chain_all h.part h.pder).1 hy]
 by_cases c:sgp f b=0
 ·rw [if_pos ((hf.root b).2 c)]
  have hy3:=(hx.add_top c).congr (Q:=fun x=>sgp (qpart f) x=0∧(x<b∨x=b)) fun x=>by rw [hf.root]
  rw [hy.uniq hy3,List.length_append,List.length_singleton]
  omega
 ·rw [if_neg (fun e=>c ((hf.root b).1 e))]
  have:xs=ys:=hx.uniq (hy.congr fun x=>by
   rw [hf.root]
   constructor
   ·rintro ⟨h1,h2 | h2⟩
    ·exact ⟨h1,h2⟩
    ·exact absurd (h2 ▸ h1) c
   ·rintro ⟨h1,h2⟩;exact ⟨h1,.inl h2⟩)
  rw [this]
  omega
end
theorem signs_list (S:Pt→Int) (hS:∀ x,S x=1∨S x=-1∨S x=0):∀ xs:List Pt,∃ m p:Nat,isum (xs.map S)=(p:Int)-(m:Int)∧xs.length=m+(xs.filter fun x=>decide (S x=0)).length+p
 | []=>⟨0,0,rfl,rfl⟩
 | x :: xs=>by
   obtain ⟨m,p,h1,h2⟩:=signs_list S hS xs
   rw [List.map_cons,isum_cons,h1]
   rcases hS x with h | h | h
   ·refine ⟨m,p+1,by rw [h];omega,?_⟩
    rw [List.filter_cons,if_neg (by simp [h]),List.length_cons];omega
   ·refine ⟨m+1,p,by rw [h];omega,?_⟩
    rw [List.filter_cons,if_neg (by simp [h]),List.length_cons];omega
   ·refine ⟨m,p,by rw [h];omega,?_⟩
    rw [List.filter_cons,if_pos (by simp [h]),List.length_cons,List.length_cons];omega
theorem dvq_root {d f:List Int} (h:Dvq d f) {x:Pt} (h0:sgp d x=0):sgp f x=0:=by
 obtain ⟨c,q,hc,e⟩:=h
 have h1:sgp (psc c f) x=0:=by
  rw [sgp_ev (r:=polymul q d) (fun t=>by rw [ev_psc,ev_mul,e]) x,sgp_mul,h0,Int.mul_zero]
 rw [sgp_psc] at h1
 rcases Int.mul_eq_zero.1 h1 with h2 | h2
 ·exact absurd h2 (sg_ne hc)
 ·exact h2
theorem comb_root {f g d:List Int} (h:Comb f g d) {x:Pt} (h1:sgp f x=0) (h2:sgp g x=0):sgp d x=0:=by
 obtain ⟨c,u,v,hc,e⟩:=h
 have v1:Van x 1 f:=fun i hi=>by obtain rfl:i=0:=by omega
                                 exact h1
 have v2:Van x 1 g:=fun i hi=>by obtain rfl:i=0:=by omega
                                 exact h2
 have h3:Van x 1 (psc c d):=((v1.mul u).add (v2.mul v)).ev fun t=>by rw [ev_psc,ev_padd,ev_mul,ev_mul,e]
 exact (h3.of_psc hc) 0 (by omega)
structure GdF (f g G:List Int):Prop where
 ga:GAny f g
 g0:plen G≠0
 fit:FitP G
 len:plen G≤9
 t:G.length≤9
 b:∀ j,((pprim G).getD j 0).natAbs≤BB^16
 r:∀ x,sgp G x=0↔sgp f x=0∧sgp g x=0
theorem gd_facts {f g:List Int} (h:P9 f) (l6:plen f+plen g≤12) (hg:G6 g) (h0:plen f≠0):GdF f g (gres f g):=by
 have b1:BB≤BB^80:=by have:BB^1≤BB^80:=bbk_le (by decide);rw [Nat.pow_one] at this;exact this
 have hf80:∀ j,(f.getD j 0).natAbs≤BB^80:=fun j=>Nat.le_trans (h.b j) (bbk_le (a:=10) (b:=80) (by decide))
 have hg80:∀ j,(g.getD j 0).natAbs≤BB^80:=fun j=>Nat.le_trans (hg.b j) b1
 have hs:plen f+plen g≤34:=by have:=hg.plen;omega
 have ga:=ga_big hs hf80 hg80
 have hgi:=gres_is ga
 have hi:IsGcd f g (gres f g):=hgi.resolve_left (fun h=>h0 h.1) |>.2
 have bd:=gres_bd2 hs hf80 hg80
 have dl:plen (gres f g)≤plen f:=dvq_plen hi.l h0
 have h9:=h.len
 refine ⟨ga,hi.ne,fun j=>Nat.lt_of_le_of_lt (bd j) (Nat.pow_lt_pow_right (by rw [BB_eq];decide) (by rw [GK_eq,FW_eq];decide)),by omega,by rw [← hi.trim,ptrim_length];omega,fun j=>?_,fun x=>⟨fun e=>⟨dvq_root hi.l e,dvq_root hi.r e⟩,fun e=>comb_root hi.c e.1 e.2⟩⟩
 obtain ⟨c,q,hc,e⟩:=hi.l
 have hk:=gp_ne hi.ne
 have e2:∀ x,ev (gres f g) x=(sg (plead (gres f g))*(pcont (gres f g):Int))*ev (pprim (gres f g)) x:=fun x=>by
  rw [← ev_psc]
  exact ev_congr (fun k=>by rw [psc_get];exact gp_get hi.ne k) x
 obtain ⟨s,hs'⟩:=gauss_div (l:=pprim (gres f g)) (f:=f) (r:=psc (sg (plead (gres f g))*(pcont (gres f g):Int)) q) (gp_cont hi.ne) hc (fun x=>by rw [e,e2,ev_psc];grind)
 exact factor_le (g:=s) (k:=10) (by omega) h0 h.b (fun x=>by rw [hs' x,Int.mul_comm]) j
structure SgV (f g:List Int) (a b c:Int):Prop where
 s:a+b+c=nall f
 d:c-a=nq f g
 a0:0≤a
 b0:0≤b
 c0:0≤c
 z:plen f≠0→b=nall (qpart (gres f g))
theorem gd_sizes {f g G:List Int} (h:GdF f g G):QOK G∧CP (qpart G)∧CP (pder (qpart G)):=by
 have hq:QOK G:=⟨by have:=h.len;omega,fun j=>Nat.le_trans (h.b j) (bbk_le (by decide))⟩
 have hf:=q_facts hq h.g0
 have hl:=h.len
 have l2:=hf.l
 have l3:=plen_pder (qpart G)
 exact ⟨hq,⟨by omega,fun j=>Nat.le_trans (hf.b 16 h.b j) (bbk_le (by decide))⟩,⟨by omega,fun j=>Nat.le_trans (pder_abs (k:=22) (by omega) (hf.b 16 h.b) j) (bbk_le (by decide))⟩⟩
theorem sgv {f g:List Int} (h:P9 f) (l6:plen f+plen g≤12) (hg:G6 g) (h0:plen f≠0):∃ m p:Nat,nall (qpart (gres f g))+(m:Int)+(p:Int)=nall f∧nq f g=(p:Int)-(m:Int)∧0≤nall (qpart (gres f g))∧nall f≤10:=by
 have hd:=gd_facts h l6 hg h0
 obtain ⟨k1,k2,k3⟩:=gd_sizes hd
 have hf:=q_facts k1 hd.g0
 obtain ⟨zs,hz⟩:=roots_lst h0 (fun _=>True)
 have hz1:Lst (fun x=>sgp f x=0) zs:=hz.congr fun x=>⟨fun h=>h.1,fun h=>⟨h,trivial⟩⟩
 obtain ⟨m,p,e1,e2⟩:=signs_list (sgp g) (sgp_or g) zs
 have hfl:(zs.filter fun x=>decide (sgp g x=0))=(zs.filter fun x=>@decide (sgp g x=0) (Classical.propDecidable _)):=List.filter_congr fun x _=>decide_eq_decide.2 Iff.rfl
 have hz2:Lst (fun x=>sgp (qpart (gres f g)) x=0) (zs.filter fun x=>decide (sgp g x=0)):=by
  rw [hfl]
  exact (hz1.filter (Q:=fun x=>sgp g x=0)).congr fun x=>by rw [hf.root,hd.r]
 have hl:zs.length≤8:=by
  have h99:=h.len
  have hp:plen f=(plen f-1)+1:=by omega
  have:=rts_le (plen f-1) f hp zs hz1.1 (fun x hx=>(hz1.2 x).1 hx)
  omega
 refine ⟨m,p,?_,?_,?_,?_⟩
 ·rw [nall_count k2 k3 hf.q0 hz2,nall_count h.cp h.der h0 hz1]
  have:((zs.filter fun x=>decide (sgp g x=0)).length:Int)+m+p=zs.length:=by omega
  exact this
 ·rw [nq_sum h.cp (h.dg l6 hg.b) h0 hz1,e1]
 ·rw [nall_count k2 k3 hf.q0 hz2];omega
 ·rw [nall_count h.cp h.der h0 hz1];omega
end Go.Proofs.YtipocabbjinbhaaGreat
