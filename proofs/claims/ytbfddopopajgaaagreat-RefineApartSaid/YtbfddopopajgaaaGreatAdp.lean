/- The law SturmAdds, plain: counts and queries add up over neighbouring intervals; the signs at the roots; the roots below a number. No program. -/
import Derived.Test.YtbfddopopajgaaaGreatTkr
namespace Go.Proofs.YtbfddopopajgaaaGreat
open Go.RowKit
end Go.Proofs.YtbfddopopajgaaaGreat
namespace Go.Proofs.YtbfddopopajgaaaGreat
open Go.RowKit
section
variable {f g:List Int} {za zb zc:Int} {qa qb qc:Nat}
end
theorem dvq_root {d f:List Int} (h:Dvq d f) {x:Pt} (h0:sgp d x=0):sgp f x=0:=by
 obtain ⟨c,q,hc,e⟩:=h
 have h1:sgp (psc c f) x=0:=by
  rw [sgp_ev (r:=polymul q d) (fun t=>by rw [ev_psc,ev_mul,e]) x,sgp_mul,h0,Int.mul_zero]
 rw [sgp_psc] at h1
 rcases Int.mul_eq_zero.1 h1 with h2 | h2
 ·exact absurd h2 (sg_ne hc)
 ·exact h2
theorem comb_root {f g d:List Int} (h:Comb f g d) {x:Pt} (h1:sgp f x=0) (h2:sgp g x=0):sgp d x=0:=by
 obtain ⟨c,u,v,hc,e⟩:=h
 have v1:Van x 1 f:=fun i hi=>by obtain rfl:i=0:=by omega
                                 exact h1
 have v2:Van x 1 g:=fun i hi=>by obtain rfl:i=0:=by omega
                                 exact h2
 have h3:Van x 1 (psc c d):=((v1.mul u).add (v2.mul v)).ev fun t=>by rw [ev_psc,ev_padd,ev_mul,ev_mul,e]
 exact (h3.of_psc hc) 0 (by omega)
structure GdF (f g G:List Int):Prop where
 ga:GAny f g
 g0:plen G≠0
 fit:FitP G
 len:plen G≤6
 t:G.length≤6
 b:∀ j,((pprim G).getD j 0).natAbs≤BB^16
 r:∀ x,sgp G x=0↔sgp f x=0∧sgp g x=0
theorem gd_facts {f g:List Int} (h:P9 f) (l6:plen f≤6) (hg:G6 g) (h0:plen f≠0):GdF f g (gres f g):=by
 have b1:BB≤BB^80:=by have:BB^1≤BB^80:=bbk_le (by decide);rw [Nat.pow_one] at this;exact this
 have hf80:∀ j,(f.getD j 0).natAbs≤BB^80:=fun j=>Nat.le_trans (h.b j) (bbk_le (a:=10) (b:=80) (by decide))
 have hg80:∀ j,(g.getD j 0).natAbs≤BB^80:=fun j=>Nat.le_trans (hg.b j) b1
 have hs:plen f+plen g≤34:=by have:=hg.plen;omega
 have ga:=ga_big hs hf80 hg80
 have hgi:=gres_is ga
 have hi:IsGcd f g (gres f g):=hgi.resolve_left (fun h=>h0 h.1) |>.2
 have bd:=gres_bd2 hs hf80 hg80
 have dl:plen (gres f g)≤plen f:=dvq_plen hi.l h0
 refine ⟨ga,hi.ne,fun j=>Nat.lt_of_le_of_lt (bd j) (Nat.pow_lt_pow_right (by rw [BB_eq];decide) (by rw [GK_eq,FW_eq];decide)),by omega,by rw [← hi.trim,ptrim_length];omega,fun j=>?_,fun x=>⟨fun e=>⟨dvq_root hi.l e,dvq_root hi.r e⟩,fun e=>comb_root hi.c e.1 e.2⟩⟩
 obtain ⟨c,q,hc,e⟩:=hi.l
 have hk:=gp_ne hi.ne
 have e2:∀ x,ev (gres f g) x=(sg (plead (gres f g))*(pcont (gres f g):Int))*ev (pprim (gres f g)) x:=fun x=>by
  rw [← ev_psc]
  exact ev_congr (fun k=>by rw [psc_get];exact gp_get hi.ne k) x
 obtain ⟨s,hs'⟩:=gauss_div (l:=pprim (gres f g)) (f:=f) (r:=psc (sg (plead (gres f g))*(pcont (gres f g):Int)) q) (gp_cont hi.ne) hc (fun x=>by rw [e,e2,ev_psc];grind)
 exact factor_le (g:=s) (k:=10) (by omega) h0 h.b (fun x=>by rw [hs' x,Int.mul_comm]) j
end Go.Proofs.YtbfddopopajgaaaGreat
