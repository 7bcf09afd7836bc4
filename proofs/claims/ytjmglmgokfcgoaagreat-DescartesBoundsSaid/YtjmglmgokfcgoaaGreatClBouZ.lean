/- For every slice of triples of int8s and any two pairs of int8s the law DescartesBounds returns true and its arguments read as before: Variations and Budan are the numbers of roots of the product in the open and the half-open interval, counted with multiplicity, or more by an even number. No condition. -/
import Derived.Test.YtjmglmgokfcgoaaGreatRowL
import Derived.Test.YtjmglmgokfcgoaaGreatDsc
import Derived.Test.YtjmglmgokfcgoaaGreatStg
import Derived.Test.YtjmglmgokfcgoaaGreatMob
import Derived.Test.YtjmglmgokfcgoaaGreatSte
import Derived.Test.YtjmglmgokfcgoaaGreatGti
import Derived.Test.YtjmglmgokfcgoaaGreatSta
import Derived.Test.YtjmglmgokfcgoaaGreatSft
import Derived.Test.YtjmglmgokfcgoaaGreatLes
import Derived.Test.YtjmglmgokfcgoaaGreatPow
import Derived.Test.YtjmglmgokfcgoaaGreatRbH
import Derived.Test.YtjmglmgokfcgoaaGreatSqw
import Derived.Test.YtjmglmgokfcgoaaGreatFca
import Derived.Test.YtjmglmgokfcgoaaGreatFcp
import Derived.Test.YtjmglmgokfcgoaaGreatAp0
import Derived.Test.YtjmglmgokfcgoaaGreatAdp
import Derived.Test.YtjmglmgokfcgoaaGreatNatS
import Derived.Deep.RegionHeld3
import Derived.Test.YtjmglmgokfcgoaaGreatLin
import Derived.Test.YtjmglmgokfcgoaaGreatAwd
namespace Go.Proofs.YtjmglmgokfcgoaaGreat
open Go.ChangeShapes Go.WideShapes Go.ChangeAt Go.RowKit
set_option maxRecDepth 100000 in
theorem lifted_trpp (f:Nat) (fn:Func) (hp:fn.params=#[22,66,66]) (hr:fn.resultTypes=#[4]) {H:Type} (enc:TypeId×Value→H) (spec:ChangeSpec) (hsv:spec.vars=[]) (hsf:∀ d d' d'',spec.fn H [d,d',d'']={ results:=[.lit (.bool true)],args:=[d,d',d''] })
 (walk:∀ A len cap p q0 q1 q2 q3 w,TrAt w A len cap p→len≤9223372036854775807→(-128≤q0∧q0≤127)→(-128≤q1∧q1≤127)→(-128≤q2∧q2≤127)→(-128≤q3∧q3≤127)→Calls Tryz.prog f #[.slice A len cap,.agg #[.int .i8 q0,.int .i8 q1],.agg #[.int .i8 q2,.int .i8 q3]] w fun e w'=>e=.returned (.bool true)∧Below w.heap.size w w')
 (W:World) (args:Array Value) (ds gs:List (DataW H)) (before:List MemPlace)
 (hval:∀ (j:Nat) t v,fn.params[j]?=some t→args[j]?=some v→Value.okWide Tryz.prog W .any 0 t v)
 (hW:DataW.Whole enc Tryz.prog fn.params.toList spec.vars false W args.toList ds gs before) :
 Calls Tryz.prog f args W fun e W'=>∃ v,e=Ending.returned v∧spec.post enc Tryz.prog fn false true false false W args v W':=by
 have hW':=hW
 obtain ⟨p,q,hA0,hV,rfl,_,_⟩:=hW
 have hA:DataW.TrodAll enc Tryz.prog W 0 (fun _=>true) true fn.params.toList args.toList ds p:=hA0
 rw [hp] at hA hval
 obtain ⟨v0,v1,v2,d0,d1,d2,p0,p1,p2,rfl,rfl,rfl,h0,h1,h2⟩:=trodAll_three hA
 rw [hsv] at hV
 obtain ⟨rfl,rfl⟩:=trodVars_none hV
 obtain ⟨a0,len,cap,rfl⟩:=okWide_slice Tryz.underlying22 (hval 0 22 v0 rfl rfl)
 obtain ⟨a,b,rfl,rfl,rfl,wa,wb⟩:=WideMaps.open_pair Tryz.pairKey Tryz.underlying65 (hval 1 66 v1 rfl rfl) h1
 obtain ⟨c,e,rfl,rfl,rfl,wc,we⟩:=WideMaps.open_pair Tryz.pairKey Tryz.underlying65 (hval 2 66 v2 rfl rfl) h2
 simp only [List.append_nil] at hW'
 have hlt:∀ x∈p0,x.block<W.heap.size:=fun x hx=>by simpa using hW'.lt x hx
 obtain ⟨hlm,zs,hat⟩:=open_trs h0 hlt
 refine (walk a0 len cap zs a b c e W hat hlm (i8_wf wa) (i8_wf wb) (i8_wf wc) (i8_wf we)).mono fun e W' ⟨he,hb⟩=>?_
 subst he
 refine ⟨_,rfl,post_below (pa:=p0) (pv:=[]) hW' (fun _ _ _=>?_) (fun sp hs=>?_) (fun _ _=>?_) (by simp) hb ?_⟩
 ·rw [List.append_nil,hsf,hr]
  exact trodAll_mk1 (shut_bool Tryz.underlying4 _)
 ·rw [List.append_nil,hsf,hp]
  have h3:=trodAll_mk3 (Go.WideElems.Trod_stays Tryz.laidOut (by kernel_rfl) (of_decide_eq_true (by kernel_rfl)) h0 (fun x hx=>hb.same (hlt x hx)) hs) (WideMaps.shut_pair (enc:=enc) (W:=W') (base:=0) (sp:=sp) (held:=true) Tryz.pairKey Tryz.underlying65 wa wb) (WideMaps.shut_pair (enc:=enc) (W:=W') (base:=0) (sp:=sp) (held:=true) Tryz.pairKey Tryz.underlying65 wc we)
  simpa using h3
 ·rw [hsv,List.append_nil,hsf]
  rfl
 ·exact ok_one hr rfl (okWide_bool_mk Tryz.underlying4 _)
end Go.Proofs.YtjmglmgokfcgoaaGreat
namespace Go.Proofs.YtjmglmgokfcgoaaGreat
def phi (a b t:Rat):Rat:=(a+b*t) / (1+t)
def psi (a b r:Rat):Rat:=(r-a) / (b-r)
theorem rlt_or (x y:Rat):x<y∨y≤x:=by
 rcases Classical.em (x<y) with c | c
 ·exact .inl c
 ·exact .inr (by grind)
theorem rpow_le {x y:Rat} (h0:0≤x) (h:x≤y):∀ n:Nat,x^n≤y^n
 | 0=>by rw [Rat.pow_zero,Rat.pow_zero];exact Rat.le_refl
 | n+1=>by
   rw [Rat.pow_succ,Rat.pow_succ]
   have h1:=rpow_le h0 h n
   have h2:0≤x^n:=Rat.pow_nonneg h0
   have h3:=Rat.mul_le_mul_of_nonneg_right h1 h0
   have h4:=Rat.mul_le_mul_of_nonneg_left h (show 0≤y^n by grind)
   grind
section
variable {a b:Rat}
theorem phi_eq {t:Rat} (ht:0<t):phi a b t*(1+t)=a+b*t:=Rat.div_mul_cancel (by grind)
theorem psi_eq {r:Rat} (hb:r<b):psi a b r*(b-r)=r-a:=Rat.div_mul_cancel (by grind)
theorem phi_lo (h:a<b) {t:Rat} (ht:0<t):a<phi a b t:=by
 unfold phi
 rw [Rat.lt_div_iff (by grind)]
 have:=Rat.mul_pos (show 0<b-a by grind) ht
 grind
theorem phi_hi (h:a<b) {t:Rat} (ht:0<t):phi a b t<b:=by
 unfold phi
 rw [Rat.div_lt_iff (by grind)]
 grind
theorem psi_pos {r:Rat} (ha:a<r) (hb:r<b):0<psi a b r:=by
 unfold psi
 rw [Rat.lt_div_iff (by grind)]
 grind
theorem phi_mono (h:a<b) {t u:Rat} (ht:0<t) (hu:t<u):phi a b t<phi a b u:=by
 have e1:=phi_eq (a:=a) (b:=b) ht
 have h2:=phi_hi h ht
 show phi a b t<(a+b*u) / (1+u)
 rw [Rat.lt_div_iff (by grind)]
 have:=Rat.mul_pos (show 0<b-phi a b t by grind) (show 0<u-t by grind)
 grind
theorem psi_mono {r s:Rat} (ha:a<r) (h:r<s) (hb:s<b):psi a b r<psi a b s:=by
 have e1:=psi_eq (a:=a) (b:=b) (r:=r) (by grind)
 have h2:=psi_pos ha (show r<b by grind)
 show psi a b r<(s-a) / (b-s)
 rw [Rat.lt_div_iff (by grind)]
 have:=Rat.mul_pos h2 (show 0<s-r by grind)
 grind
theorem phi_psi (_h:a<b) {r:Rat} (ha:a<r) (hb:r<b):phi a b (psi a b r)=r:=by
 have h1:=psi_eq (a:=a) hb
 have h2:=psi_pos ha hb
 have h3:=phi_eq (a:=a) (b:=b) h2
 generalize psi a b r=t at *
 have h4:(phi a b t-r)*(1+t)=0:=by grind
 rcases Rat.mul_eq_zero.1 h4 with e | e<;>grind
theorem psi_phi (h:a<b) {t:Rat} (ht:0<t):psi a b (phi a b t)=t:=by
 have h1:=phi_lo h ht
 have h2:=phi_hi h ht
 have h3:=phi_eq (a:=a) (b:=b) ht
 have h4:=psi_eq (a:=a) h2
 generalize phi a b t=r at *
 have h5:(psi a b r-t)*(b-r)=0:=by grind
 rcases Rat.mul_eq_zero.1 h5 with e | e<;>grind
def upt (a b:Rat) (h:a<b) (y:Pt) (ha:Pt.of a<y) (hb:y<Pt.of b):Pt where
 L t:=t≤0∨y.L (phi a b t)
 ne:=⟨0,.inl Rat.le_refl⟩
 bd:=by
  obtain ⟨u,hu,hub⟩:=(Pt.lt_of.1 hb).op
  have h1:a<u:=Pt.lu (Pt.of_lt.1 ha) hub
  refine ⟨psi a b u,fun hc=>?_⟩
  rcases hc with hc | hc
  ·have:=psi_pos h1 hu;grind
  ·rw [phi_psi h h1 hu] at hc
   exact hub.nL hc
 dn:=fun q r hq hr=>by
  by_cases h0:r≤0
  ·exact .inl h0
  ·refine .inr ?_
   rcases hq with hq | hq
   ·grind
   ·exact y.dn _ _ hq (phi_mono h (by grind) hr)
 op:=fun q hq=>by
  by_cases h0:q≤0
  ·obtain ⟨r,h1,h2⟩:=y.op a (Pt.of_lt.1 ha)
   have h3:r<b:=Pt.lu h2 (Pt.lt_of.1 hb)
   have h4:=psi_pos h1 h3
   exact ⟨psi a b r,by grind,.inr (by rw [phi_psi h h1 h3];exact h2)⟩
  ·have h1:0<q:=by grind
   rcases hq with hq | hq
   ·grind
   ·obtain ⟨r,h2,h3⟩:=y.op _ hq
    have h4:r<b:=Pt.lu h3 (Pt.lt_of.1 hb)
    have h5:=psi_mono (phi_lo h h1) h2 h4
    rw [psi_phi h h1] at h5
    have h6:a<r:=by have:=phi_lo h h1;grind
    exact ⟨psi a b r,h5,.inr (by rw [phi_psi h h6 h4];exact h3)⟩
theorem upt_pos (h:a<b) (y:Pt) (ha:Pt.of a<y) (hb:y<Pt.of b):Pt.of 0<upt a b h y ha hb:=Pt.of_lt.2 (.inl Rat.le_refl)
theorem upt_lt (h:a<b) {y z:Pt} (ha:Pt.of a<y) (hb:y<Pt.of b) (ha':Pt.of a<z) (hb':z<Pt.of b) (hyz:y<z):upt a b h y ha hb<upt a b h z ha' hb':=by
 obtain ⟨q,h1,h2⟩:=hyz
 have h3:q<b:=Pt.lu h2 (Pt.lt_of.1 hb')
 have h4:a<q:=by
  rcases rlt_or a q with c | c
  ·exact c
  ·exact absurd (Pt.Lle (Pt.of_lt.1 ha) c) h1
 refine ⟨psi a b q,fun hc=>?_,.inr (by rw [phi_psi h h4 h3];exact h2)⟩
 rcases hc with hc | hc
 ·have:=psi_pos h4 h3;grind
 ·rw [phi_psi h h4 h3] at hc
  exact h1 hc
theorem upt_fpos (h:a<b) {y:Pt} (ha:Pt.of a<y) (hb:y<Pt.of b) {F G:Rat→Rat} (n:Nat) {k:Rat} (hk:0<k) (he:∀ t,0<t→k*F t=(1+t)^n*G (phi a b t))
 (hp:fpos F (upt a b h y ha hb)):fpos G y:=by
 obtain ⟨e,l,u,he0,⟨hl,hu⟩,hq⟩:=hp
 obtain ⟨l1,hl1,hl2⟩:=(upt a b h y ha hb).op l hl
 obtain ⟨l2,hl3,hl4⟩:=(upt a b h y ha hb).op 0 (.inl Rat.le_refl)
 obtain ⟨m,hm1,hm2,hm3⟩:∃ m:Rat,l<m∧0<m∧(upt a b h y ha hb).L m:=by
  rcases Rat.le_total (a:=l1) (b:=l2) with c | c
  ·exact ⟨l2,by grind,hl3,hl4⟩
  ·exact ⟨l1,hl1,by grind,hl2⟩
 have hmu:m<u:=Pt.lu hm3 hu
 have hu0:0<u:=by grind
 have hyl:y.L (phi a b m):=by
  rcases hm3 with c | c
  ·grind
  ·exact c
 have hyu:y.U (phi a b u):=by
  obtain ⟨s,hs,hs1⟩:=hu
  have hs0:0<s:=by
   rcases rlt_or 0 s with c | c
   ·exact c
   ·exact absurd (.inl c) hs1
  exact ⟨phi a b s,phi_mono h hs0 hs,fun hc=>hs1 (.inr hc)⟩
 have hpw:0<(1+u)^n:=Rat.pow_pos (by grind)
 have hke:0<k*e:=Rat.mul_pos hk he0
 refine ⟨k*e / (1+u)^n,phi a b m,phi a b u,?_,⟨hyl,hyu⟩,fun r hr1 hr2=>?_⟩
 ·rw [Rat.lt_div_iff hpw,Rat.zero_mul];exact hke
 ·have hra:a<r:=by have:=phi_lo h hm2;grind
  have hrb:r<b:=by have:=phi_hi h hu0;grind
  have ht0:=psi_pos hra hrb
  have h1:=psi_mono (phi_lo h hm2) hr1 hrb
  rw [psi_phi h hm2] at h1
  have h2:=psi_mono hra hr2 (phi_hi h hu0)
  rw [psi_phi h hu0] at h2
  have h3:=hq (psi a b r) (by grind) h2
  have h4:=he _ ht0
  rw [phi_psi h hra hrb] at h4
  have h5:k*e≤(1+psi a b r)^n*G r:=by
   rw [← h4];exact Rat.mul_le_mul_of_nonneg_left h3 (by grind)
  have hpt:0<(1+psi a b r)^n:=Rat.pow_pos (by grind)
  have hG:0<G r:=by
   rcases rlt_or 0 (G r) with c | c
   ·exact c
   ·exfalso
    have:=Rat.mul_nonneg (Rat.le_of_lt hpt) (show 0≤-G r by grind)
    grind
  have h6:(1+psi a b r)^n≤(1+u)^n:=rpow_le (by grind) (by grind) n
  have h7:(1+psi a b r)^n*G r≤(1+u)^n*G r:=Rat.mul_le_mul_of_nonneg_right h6 (Rat.le_of_lt hG)
  rw [Rat.div_def]
  have h8:k*e*((1+u)^n)⁻¹≤(1+u)^n*G r*((1+u)^n)⁻¹:=Rat.mul_le_mul_of_nonneg_right (by grind) (Rat.le_of_lt (Rat.inv_pos.2 hpw))
  have h9:(1+u)^n*((1+u)^n)⁻¹=1:=Rat.mul_inv_cancel _ (by grind)
  have h10:(1+u)^n*G r*((1+u)^n)⁻¹=G r:=by rw [Rat.mul_comm ((1+u)^n) (G r),Rat.mul_assoc,h9,Rat.mul_one]
  rw [h10] at h8
  exact h8
end
end Go.Proofs.YtjmglmgokfcgoaaGreat
namespace Go.Proofs.YtjmglmgokfcgoaaGreat
def hv (f:List Int) (u v:Int):Nat→Int
 | 0=>f.getD (f.length-1) 0
 | k+1=>hv f u v k*u+f.getD (f.length-2-k) 0*v^(k+1)
theorem sg_mul_pos {c:Int} (hc:0<c) (y:Int):sg (c*y)=sg y:=by
 rcases sg_cases y with ⟨h,e⟩ | ⟨h,e⟩ | ⟨h,e⟩
 ·rw [e,sg_neg (Int.mul_neg_of_pos_of_neg hc h)]
 ·rw [h,Int.mul_zero]
 ·rw [e,sg_pos (Int.mul_pos hc h)]
theorem ev_two (a b x:Int):ev [a,b] x=a+b*x:=by simp [ev,evn,Int.pow_succ]
theorem tr_ev (f:List Int) (P Q D x:Int):∀ k,ev (trs f P Q D k).1 x=hv f (P+Q*x) (D+D*x) k∧ev (trs f P Q D k).2.1 x=(D+D*x)^k
 | 0=>⟨ev_const _ _,by rw [Int.pow_zero];exact ev_const 1 x⟩
 | k+1=>by
   obtain ⟨h1,h2⟩:=tr_ev f P Q D x k
   have h3:ev (polymul (ptrim (trs f P Q D k).2.1) (ptrim [D,D])) x=(D+D*x)^(k+1):=by
    rw [ev_mul,ev_trim,ev_trim,ev_two,h2,Int.pow_succ]
   refine ⟨?_,h3⟩
   show ev (ptrim (padd (polymul (ptrim (trs f P Q D k).1) (ptrim [P,Q])) (ptrim (psc (f.getD (f.length-2-k) 0) (polymul (ptrim (trs f P Q D k).2.1) (ptrim [D,D])))))) x=_
   rw [ev_trim,ev_padd,ev_mul,ev_trim,ev_trim,ev_two,ev_trim,ev_psc,h3,h1,hv]
theorem hv_below (f:List Int) (u:Int):∀ k,hv f u 0 k=f.getD (f.length-1) 0*u^k
 | 0=>by simp [hv]
 | k+1=>by
   rw [hv,hv_below f u k,Int.zero_pow (by omega),Int.mul_zero,Int.add_zero,Int.pow_succ,Int.mul_assoc]
theorem tr_ne {f:List Int} {P Q D:Int} (hf:f.getD (f.length-1) 0≠0) (h:P≠Q) (k:Nat):plen (trs f P Q D k).1≠0:=by
 intro h0
 have h1:=(tr_ev f P Q D (-1) k).1
 rw [show D+D * -1=0 by omega,hv_below] at h1
 have h2:ev (trs f P Q D k).1 (-1)=0:=by
  have h3:ptrim (trs f P Q D k).1=[]:=List.eq_nil_of_length_eq_zero (by rw [ptrim_length];exact h0)
  rw [← ev_trim,h3,ev_nil]
 rw [h2] at h1
 have h3:(P+Q * -1)^k≠0:=Int.pow_ne_zero (by omega)
 exact Int.mul_ne_zero hf h3 h1.symm
theorem pctd_mul (g:List Int) (k:Nat):g.getD k 0=(pcont g:Int)*(pctd g).getD k 0:=by
 rw [pctd_get]
 have h2:=pcont_get g k
 have h3:(pcont g:Int)∣g.getD k 0:=by rw [← Int.natAbs_dvd_natAbs,Int.natAbs_natCast];exact h2
 exact (Int.mul_tdiv_cancel' h3).symm
theorem pctd_cont {g:List Int} (h:plen g≠0):pcont (pctd g)=1:=by
 have h2:=pcont_psc (pcont g:Int) (pctd g)
 have h3:pcont (psc (pcont g:Int) (pctd g))=pcont g:=pcont_ext fun k=>by rw [psc_get,← pctd_mul]
 rw [h3,Int.natAbs_natCast] at h2
 have h5:=pcont_ne h
 exact Nat.eq_of_mul_eq_mul_left (Nat.pos_of_ne_zero h5) (by rw [Nat.mul_one];exact h2.symm)
theorem pctd_plen (g:List Int):plen (pctd g)≤plen g:=plen_le_of fun k hk=>by rw [pctd_get,getD_ge_plen g k hk,Int.zero_tdiv]
section
variable {f:List Int} {P Q D:Int}
theorem pmob_cont (hf:f.getD (f.length-1) 0≠0) (h:P≠Q):pcont (pmob f P Q D)=1:=by
 unfold pmob
 have h1:=pcont_ext (p:=ptrim (pctd (trs f P Q D (f.length-1)).1)) (q:=pctd (trs f P Q D (f.length-1)).1) fun k=>by rw [ptrim_getD]
 rw [h1]
 exact pctd_cont (tr_ne hf h _)
end
end Go.Proofs.YtjmglmgokfcgoaaGreat
namespace Go.Proofs.YtjmglmgokfcgoaaGreat
theorem pc_two {g:List Int} (hg:∀ j,2≤j→g.getD j 0=0):∀ (f:List Int) (k:Nat),pc f g k=f.getD k 0*g.getD 0 0+(if k=0 then 0 else f.getD (k-1) 0*g.getD 1 0)
 | [],k=>by rw [pc_nil];simp
 | a :: t,0=>by rw [pc_cons];simp
 | a :: t,1=>by
   rw [pc_cons,pc_two hg t 0]
   simp
   grind
 | a :: t,k+2=>by
   rw [pc_cons,show k+2-1=k+1 by omega,pc_two hg t (k+1),hg (k+2) (by omega)]
   simp
theorem two_zero (a b:Int):∀ j,2≤j→(ptrim [a,b]).getD j 0=0:=fun j h=>by rw [ptrim_getD];exact getD_out _ (by simpa using h)
theorem two_bound {f:List Int} {X:Nat} (hf:∀ j,(f.getD j 0).natAbs≤X) (a b:Int) (k:Nat):((polymul f (ptrim [a,b])).getD k 0).natAbs≤X*(a.natAbs+b.natAbs):=by
 rw [polymul_getD,pc_two (two_zero a b),ptrim_getD,ptrim_getD]
 have h1:(f.getD k 0*a).natAbs≤X*a.natAbs:=by rw [Int.natAbs_mul];exact Nat.mul_le_mul_right _ (hf k)
 have h2:(if k=0 then (0:Int) else f.getD (k-1) 0*b).natAbs≤X*b.natAbs:=by
  split
  ·simp
  ·rw [Int.natAbs_mul];exact Nat.mul_le_mul_right _ (hf _)
 rw [Nat.mul_add]
 exact Nat.le_trans (Int.natAbs_add_le _ _) (Nat.add_le_add h1 h2)
theorem two_len (f:List Int) (a b:Int):(polymul (ptrim f) (ptrim [a,b])).length≤f.length+1:=by
 unfold polymul
 split
 ·simp
 ·rw [pmul_length,ptrim_length,ptrim_length]
  have h1:=plen_le f
  have h2:=plen_le [a,b]
  simp at h2
  omega
theorem trs_bound (f:List Int) (P Q D:Int) {M B:Nat} (hM:∀ j,(f.getD j 0).natAbs≤M) (h1:P.natAbs+Q.natAbs≤B) (h2:D.natAbs+D.natAbs≤B):∀ k,
 (∀ j,((trs f P Q D k).1.getD j 0).natAbs≤M*(k+1)*B^k)∧(∀ j,((trs f P Q D k).2.1.getD j 0).natAbs≤B^k)∧(trs f P Q D k).2.2.natAbs≤B^k∧(trs f P Q D k).1.length≤k+1∧(trs f P Q D k).2.1.length≤k+1
 | 0=>by
   refine ⟨fun j=>?_,fun j=>?_,by simp [trs],by simp [trs],by simp [trs]⟩
   ·show ([f.getD (f.length-1) 0].getD j 0).natAbs≤_
    match j with
    | 0=>simpa using hM (f.length-1)
    | j+1=>simp
   ·show (([1]:List Int).getD j 0).natAbs≤_
    match j with
    | 0=>simp
    | j+1=>simp
 | k+1=>by
   obtain ⟨a1,a2,a3,a4,a5⟩:=trs_bound f P Q D hM h1 h2 k
   have b2:∀ j,((polymul (ptrim (trs f P Q D k).2.1) (ptrim [D,D])).getD j 0).natAbs≤B^(k+1):=fun j=>by
    refine Nat.le_trans (two_bound (X:=B^k) (fun i=>by rw [ptrim_getD];exact a2 i) D D j) ?_
    rw [Nat.pow_succ]
    exact Nat.mul_le_mul_left _ h2
   have b5:(polymul (ptrim (trs f P Q D k).2.1) (ptrim [D,D])).length≤k+1+1:=Nat.le_trans (two_len _ _ _) (by omega)
   refine ⟨fun j=>?_,b2,?_,?_,b5⟩
   ·show ((ptrim (padd (polymul (ptrim (trs f P Q D k).1) (ptrim [P,Q])) (ptrim (psc (f.getD (f.length-2-k) 0) (polymul (ptrim (trs f P Q D k).2.1) (ptrim [D,D])))))).getD j 0).natAbs≤_
    rw [ptrim_getD,padd_get,ptrim_getD,psc_get]
    have c1:=two_bound (X:=M*(k+1)*B^k) (fun i=>by rw [ptrim_getD];exact a1 i) P Q j
    have c2:(f.getD (f.length-2-k) 0*(polymul (ptrim (trs f P Q D k).2.1) (ptrim [D,D])).getD j 0).natAbs≤M*B^(k+1):=by
     rw [Int.natAbs_mul];exact Nat.mul_le_mul (hM _) (b2 j)
    refine Nat.le_trans (Int.natAbs_add_le _ _) (Nat.le_trans (Nat.add_le_add c1 c2) ?_)
    calc M*(k+1)*B^k*(P.natAbs+Q.natAbs)+M*B^(k+1)≤M*(k+1)*B^k*B+M*B^(k+1):=Nat.add_le_add_right (Nat.mul_le_mul_left _ h1) _
     _=M*(k+1)*B^(k+1)+M*B^(k+1):=by rw [Nat.mul_assoc,← Nat.pow_succ]
     _=M*(k+1+1)*B^(k+1):=by rw [← Nat.add_mul,← Nat.mul_succ]
   ·show ((trs f P Q D k).2.2*D).natAbs≤_
    rw [Int.natAbs_mul,Nat.pow_succ]
    exact Nat.mul_le_mul a3 (by omega)
   ·show (ptrim (padd (polymul (ptrim (trs f P Q D k).1) (ptrim [P,Q])) (ptrim (psc (f.getD (f.length-2-k) 0) (polymul (ptrim (trs f P Q D k).2.1) (ptrim [D,D])))))).length≤_
    rw [ptrim_length]
    refine Nat.le_trans (plen_le _) ?_
    rw [padd_length,ptrim_length]
    have d1:=two_len (trs f P Q D k).1 P Q
    have d2:=plen_le (psc (f.getD (f.length-2-k) 0) (polymul (ptrim (trs f P Q D k).2.1) (ptrim [D,D])))
    have d3:(psc (f.getD (f.length-2-k) 0) (polymul (ptrim (trs f P Q D k).2.1) (ptrim [D,D]))).length=(polymul (ptrim (trs f P Q D k).2.1) (ptrim [D,D])).length:=by unfold psc;rw [List.length_map]
    omega
theorem pmob_plen (f:List Int) (P Q D:Int) (h:1≤f.length):plen (pmob f P Q D)≤f.length:=by
 unfold pmob
 rw [plen_ptrim]
 have h1:=pctd_plen (trs f P Q D (f.length-1)).1
 have h2:=plen_le (trs f P Q D (f.length-1)).1
 have h3:(trs f P Q D (f.length-1)).1.length≤f.length-1+1:=by
  have hM:∃ M:Nat,∀ j,(f.getD j 0).natAbs≤M:=by
   refine ⟨f.foldr (fun a g=>a.natAbs+g) 0,fun j=>?_⟩
   clear h h1 h2
   induction f generalizing j with
   | nil=>simp
   | cons a t ih =>
     match j with
     | 0=>simp
     | j+1=>have:=ih j;simp at this ⊢;omega
  obtain ⟨M,hM⟩:=hM
  exact (trs_bound f P Q D (B:=P.natAbs+Q.natAbs+(D.natAbs+D.natAbs)) hM (by omega) (by omega) _).2.2.2.1
 omega
theorem cd_lo {q q':Nat} (z z':Int) (hq:0<q) (hq':0<q'):0<cdD q q' z z'∧cdP q q' z z'*(q:Int)=z*cdD q q' z z'∧cdQ q q' z z'*(q':Int)=z'*cdD q q' z z':=by
 have g1:Nat.gcd z.natAbs q∣q:=Nat.gcd_dvd_right _ _
 have g2:Nat.gcd z'.natAbs q'∣q':=Nat.gcd_dvd_right _ _
 have p1:0<q / Nat.gcd z.natAbs q:=Nat.div_pos (Nat.le_of_dvd hq g1) (Nat.gcd_pos_of_pos_right _ hq)
 have p2:0<q' / Nat.gcd z'.natAbs q':=Nat.div_pos (Nat.le_of_dvd hq' g2) (Nat.gcd_pos_of_pos_right _ hq')
 have hz:z.tdiv (Nat.gcd z.natAbs q)*((Nat.gcd z.natAbs q:Nat):Int)=z:=Int.tdiv_mul_cancel (by rw [← Int.natAbs_dvd_natAbs,Int.natAbs_natCast];exact Nat.gcd_dvd_left _ _)
 have hz':z'.tdiv (Nat.gcd z'.natAbs q')*((Nat.gcd z'.natAbs q':Nat):Int)=z':=Int.tdiv_mul_cancel (by rw [← Int.natAbs_dvd_natAbs,Int.natAbs_natCast];exact Nat.gcd_dvd_left _ _)
 have hqq:((q / Nat.gcd z.natAbs q:Nat):Int)*((Nat.gcd z.natAbs q:Nat):Int)=(q:Int):=by rw [← Int.natCast_mul,Nat.div_mul_cancel g1]
 have hqq':((q' / Nat.gcd z'.natAbs q':Nat):Int)*((Nat.gcd z'.natAbs q':Nat):Int)=(q':Int):=by rw [← Int.natCast_mul,Nat.div_mul_cancel g2]
 have hD:(0:Int)<cdD q q' z z':=by
  unfold cdD
  rw [lcd_eq]
  have:=lcd_pos p1 p2
  omega
 have l1:(cdD q q' z z').tdiv ((q / Nat.gcd z.natAbs q:Nat):Int)*((q / Nat.gcd z.natAbs q:Nat):Int)=cdD q q' z z':=Int.tdiv_mul_cancel (Int.dvd_of_tmod_eq_zero lcd_left)
 have l2:(cdD q q' z z').tdiv ((q' / Nat.gcd z'.natAbs q':Nat):Int)*((q' / Nat.gcd z'.natAbs q':Nat):Int)=cdD q q' z z':=Int.tdiv_mul_cancel (Int.dvd_of_tmod_eq_zero lcd_right)
 refine ⟨hD,?_,?_⟩
 ·unfold cdP
  generalize (cdD q q' z z').tdiv ((q / Nat.gcd z.natAbs q:Nat):Int)=T at *
  generalize cdD q q' z z'=D at *
  generalize z.tdiv (Nat.gcd z.natAbs q)=y at *
  calc y*T*(q:Int)=y*T*(((q / Nat.gcd z.natAbs q:Nat):Int)*((Nat.gcd z.natAbs q:Nat):Int)):=by rw [hqq]
   _=(y*((Nat.gcd z.natAbs q:Nat):Int))*(T*((q / Nat.gcd z.natAbs q:Nat):Int)):=by grind
   _=z*D:=by rw [hz,l1]
 ·unfold cdQ
  generalize (cdD q q' z z').tdiv ((q' / Nat.gcd z'.natAbs q':Nat):Int)=T at *
  generalize cdD q q' z z'=D at *
  generalize z'.tdiv (Nat.gcd z'.natAbs q')=y at *
  calc y*T*(q':Int)=y*T*(((q' / Nat.gcd z'.natAbs q':Nat):Int)*((Nat.gcd z'.natAbs q':Nat):Int)):=by rw [hqq']
   _=(y*((Nat.gcd z'.natAbs q':Nat):Int))*(T*((q' / Nat.gcd z'.natAbs q':Nat):Int)):=by grind
   _=z'*D:=by rw [hz',l2]
theorem cd_ne {q q':Nat} {z z':Int} (hq:0<q) (hq':0<q') (h:z*(q':Int)<z'*(q:Int)):cdP q q' z z'≠cdQ q q' z z':=by
 obtain ⟨hD,h1,h2⟩:=cd_lo z z' hq hq'
 intro e
 rw [e] at h1
 have h3:z*cdD q q' z z'*(q':Int)=z'*cdD q q' z z'*(q:Int):=by rw [← h1,← h2];grind
 have h4:cdD q q' z z'*(z*(q':Int))=cdD q q' z z'*(z'*(q:Int)):=by grind
 have h5:=Int.mul_lt_mul_of_pos_left h hD
 omega
theorem mobok_nine {f:List Int} {z z':Int} {q q':Nat} (hl:plen f≤9) (hM:∀ j,(f.getD j 0).natAbs≤1073741824) (hz:z.natAbs≤128) (hq:0<q) (hq1:q≤128) (hz':z'.natAbs≤128) (hq':0<q') (hq1':q'≤128):MobOK f q q' z z':=by
 intro h1 hlt
 obtain ⟨hD,hP,hQ⟩:=cd_lo z z' hq hq'
 have bD:(cdD q q' z z').natAbs≤16384:=by
  unfold cdD
  rw [lcd_eq,Int.natAbs_natCast]
  have a1:q / Nat.gcd z.natAbs q≤128:=Nat.le_trans (Nat.div_le_self _ _) hq1
  have a2:q' / Nat.gcd z'.natAbs q'≤128:=Nat.le_trans (Nat.div_le_self _ _) hq1'
  exact Nat.le_trans (Nat.mul_le_mul (Nat.le_trans (Nat.div_le_self _ _) a1) a2) (by omega)
 have bP:(cdP q q' z z').natAbs≤2097152:=by
  unfold cdP
  rw [Int.natAbs_mul,Int.natAbs_tdiv,Int.natAbs_tdiv]
  exact Nat.le_trans (Nat.mul_le_mul (Nat.le_trans (Nat.div_le_self _ _) hz) (Nat.le_trans (Nat.div_le_self _ _) bD)) (by omega)
 have bQ:(cdQ q q' z z').natAbs≤2097152:=by
  unfold cdQ
  rw [Int.natAbs_mul,Int.natAbs_tdiv,Int.natAbs_tdiv]
  exact Nat.le_trans (Nat.mul_le_mul (Nat.le_trans (Nat.div_le_self _ _) hz') (Nat.le_trans (Nat.div_le_self _ _) bD)) (by omega)
 have hlen:1≤(ptrim f).length:=by rw [ptrim_length];exact h1
 have hlen7:(ptrim f).length≤9:=by rw [ptrim_length];exact hl
 have hlead:(ptrim f).getD ((ptrim f).length-1) 0≠0:=by
  rw [ptrim_getD,ptrim_length]
  exact fun e=>by
   have:=plead_zero.1 (show plead f=0 from e)
   omega
 have hb:=trs_bound (ptrim f) (cdP q q' z z') (cdQ q q' z z') (cdD q q' z z') (M:=1073741824) (B:=4194304) (fun j=>by rw [ptrim_getD];exact hM j) (by omega) (by omega)
 refine ⟨⟨?_,?_,?_,fun k hk=>?_⟩,tr_ne hlead (cd_ne hq hq' hlt) _,hlen⟩
 ·exact Nat.lt_of_le_of_lt bP (lt_fw (by rw [BB_eq];decide))
 ·exact Nat.lt_of_le_of_lt bQ (lt_fw (by rw [BB_eq];decide))
 ·exact Nat.lt_of_le_of_lt bD (lt_fw (by rw [BB_eq];decide))
 ·obtain ⟨b1,b2,b3,b4,b5⟩:=hb k
  have hk6:k≤8:=by omega
  have p1:4194304^k≤4194304^8:=Nat.pow_le_pow_right (by omega) hk6
  have p2:1073741824*(k+1)*4194304^k≤1073741824*9*4194304^8:=Nat.mul_le_mul (Nat.mul_le_mul_left _ (by omega)) p1
  have l1:1073741824*9*4194304^8<BB^FW:=lt_fw (by rw [BB_eq];decide)
  have l2:4194304^8<BB^FW:=lt_fw (by rw [BB_eq];decide)
  exact ⟨fun j=>Nat.lt_of_le_of_lt (Nat.le_trans (b1 j) p2) l1,fun j=>Nat.lt_of_le_of_lt (Nat.le_trans (b2 j) p1) l2,Nat.lt_of_le_of_lt (Nat.le_trans b3 p1) l2,by omega,by omega⟩
theorem pmob_fit {f:List Int} {P Q D:Int} (h:TrOK f P Q D) (h1:1≤f.length):FitP (pmob f P Q D):=fun k=>by
 unfold pmob
 rw [ptrim_getD,pctd_get]
 exact Fit.le ((h.2.2.2 (f.length-1) (by omega)).1 k) (by rw [Int.natAbs_tdiv];exact Nat.div_le_self _ _)
theorem pmobius_at {f:List Int} {q q':Nat} {z z':Int} (h:plen f≠0) (hlt:z*(q':Int)<z'*(q:Int)) (tf:ptrim f=f):pmobius f q q' z z'=pmob f (cdP q q' z z') (cdQ q q' z z') (cdD q q' z z'):=by
 unfold pmobius
 rw [if_neg (fun e=>e.elim h (fun h1=>h1 hlt)),tf]
theorem pmobius_trim (f:List Int) (q q':Nat) (z z':Int):ptrim (pmobius f q q' z z')=pmobius f q q' z z':=by
 unfold pmobius
 split
 ·rfl
 ·unfold pmob;rw [ptrim_ptrim]
theorem pmobius_fit {f:List Int} {q q':Nat} {z z':Int} (hok:MobOK f q q' z z'):FitP (pmobius f q q' z z'):=by
 by_cases h:plen f=0∨¬ (z*(q':Int)<z'*(q:Int))
 ·unfold pmobius;rw [if_pos h];exact fun k=>by rw [List.getD_nil];exact fit_unit (by decide)
 ·have h1:plen f≠0:=fun e=>h (.inl e)
  have h2:z*(q':Int)<z'*(q:Int):=Classical.byContradiction fun e=>h (.inr e)
  unfold pmobius
  rw [if_neg h]
  obtain ⟨a,_,b⟩:=hok (by omega) h2
  exact pmob_fit a b
theorem pmobius_len {f:List Int} (q q':Nat) (z z':Int):plen (pmobius f q q' z z')≤plen f:=by
 by_cases h:plen f=0∨¬ (z*(q':Int)<z'*(q:Int))
 ·unfold pmobius;rw [if_pos h];exact Nat.zero_le _
 ·unfold pmobius
  rw [if_neg h]
  have:=pmob_plen (ptrim f) (cdP q q' z z') (cdQ q q' z z') (cdD q q' z z') (by rw [ptrim_length];have:plen f≠0:=fun e=>h (.inl e);omega)
  rw [ptrim_length] at this
  exact this
end Go.Proofs.YtjmglmgokfcgoaaGreat
namespace Go.Proofs.YtjmglmgokfcgoaaGreat
section
variable {f:List Int} {q0 q1:Nat} {z0 z1:Int}
theorem mov_lead (h:plen f≠0) (tf:ptrim f=f):f.getD (f.length-1) 0≠0:=by
 have hl:f.length=plen f:=by rw [← ptrim_length,tf]
 rw [hl]
 exact fun e=>h (plead_zero.1 (show plead f=0 from e))
theorem mov_cont (h:plen f≠0) (tf:ptrim f=f) (hq0:0<q0) (hq1:0<q1) (hlt:z0*(q1:Int)<z1*(q0:Int)):pcont (pmobius f q0 q1 z0 z1)=1:=by
 rw [pmobius_at h hlt tf]
 exact pmob_cont (mov_lead h tf) (cd_ne hq0 hq1 hlt)
end
end Go.Proofs.YtjmglmgokfcgoaaGreat
namespace Go.Proofs.YtjmglmgokfcgoaaGreat
end Go.Proofs.YtjmglmgokfcgoaaGreat
namespace Go.Proofs.YtjmglmgokfcgoaaGreat
theorem red_facts (y:Int) {t:Nat} (ht:0<t):∃ g:Nat,0<g∧y.tdiv (Nat.gcd y.natAbs t)*(g:Int)=y∧((t / Nat.gcd y.natAbs t:Nat):Int)*(g:Int)=(t:Int)∧(y.tdiv (Nat.gcd y.natAbs t)).natAbs≤y.natAbs∧0<t / Nat.gcd y.natAbs t∧t / Nat.gcd y.natAbs t≤t:=by
 have hg:0<Nat.gcd y.natAbs t:=Nat.gcd_pos_of_pos_right _ ht
 refine ⟨_,hg,Int.tdiv_mul_cancel (by rw [← Int.natAbs_dvd_natAbs,Int.natAbs_natCast];exact Nat.gcd_dvd_left _ _),?_,?_,?_,Nat.div_le_self _ _⟩
 ·rw [← Int.natCast_mul,Nat.div_mul_cancel (Nat.gcd_dvd_right _ _)]
 ·rw [Int.natAbs_tdiv];exact Nat.div_le_self _ _
 ·exact Nat.div_pos (Nat.le_of_dvd ht (Nat.gcd_dvd_right _ _)) hg
section
variable {f:List Int} {q0 q1:Nat} {z0 z1:Int}
end
end Go.Proofs.YtjmglmgokfcgoaaGreat
namespace Go.Proofs.YtjmglmgokfcgoaaGreat
theorem rmul_pow (x y:Rat):∀ n:Nat,(x*y)^n=x^n*y^n
 | 0=>by rw [Rat.pow_zero,Rat.pow_zero,Rat.pow_zero];exact (Rat.mul_one 1).symm
 | n+1=>by rw [Rat.pow_succ,Rat.pow_succ,Rat.pow_succ,rmul_pow x y n];grind
def hvr (f:List Int) (u v:Rat):Nat→Rat
 | 0=>((f.getD (f.length-1) 0:Int):Rat)
 | k+1=>hvr f u v k*u+((f.getD (f.length-2-k) 0:Int):Rat)*v^(k+1)
theorem pv_trim (p:List Int) (q:Rat):pv (ptrim p) q=pv p q:=pv_congr _ _ (fun k=>ptrim_getD p k) q
theorem pv_two (a b:Int) (q:Rat):pv [a,b] q=(a:Rat)+b*q:=by
 show (a:Rat)+q*((b:Rat)+q*0)=_
 grind
theorem tr_pv (f:List Int) (P Q D:Int) (x:Rat):∀ k,pv (trs f P Q D k).1 x=hvr f (P+Q*x) (D+D*x) k∧pv (trs f P Q D k).2.1 x=(D+D*x)^k
 | 0=>by
   constructor
   ·show ((f.getD (f.length-1) 0:Int):Rat)+x*0=((f.getD (f.length-1) 0:Int):Rat)
    grind
   ·rw [Rat.pow_zero]
    show ((1:Int):Rat)+x*0=1
    have:((1:Int):Rat)=1:=rfl
    grind
 | k+1=>by
   obtain ⟨h1,h2⟩:=tr_pv f P Q D x k
   have h3:pv (polymul (ptrim (trs f P Q D k).2.1) (ptrim [D,D])) x=((D:Rat)+D*x)^(k+1):=by
    rw [pv_polymul,pv_trim,pv_trim,pv_two,h2,Rat.pow_succ]
   refine ⟨?_,h3⟩
   show pv (ptrim (padd (polymul (ptrim (trs f P Q D k).1) (ptrim [P,Q])) (ptrim (psc (f.getD (f.length-2-k) 0) (polymul (ptrim (trs f P Q D k).2.1) (ptrim [D,D])))))) x=_
   rw [pv_trim,pv_padd,pv_polymul,pv_trim,pv_trim,pv_two,pv_trim,pv_psc,h3,h1,hvr]
theorem hvr_pv (f:List Int) (r v:Rat):∀ k,k+1≤f.length→hvr f (r*v) v k=v^k*pv (f.drop (f.length-1-k)) r
 | 0,h=>by
   have e:f.drop (f.length-1)=[f.getD (f.length-1) 0]:=by
    rw [List.getD_eq_getElem?_getD,List.getElem?_eq_getElem (show f.length-1<f.length by omega),List.drop_eq_getElem_cons (show f.length-1<f.length by omega),show f.length-1+1=f.length by omega,List.drop_length]
    rfl
   rw [Nat.sub_zero,e,hvr,Rat.pow_zero]
   show _=1*(((f.getD (f.length-1) 0:Int):Rat)+r*0)
   grind
 | k+1,h=>by
   have e:f.drop (f.length-1-(k+1))=f.getD (f.length-2-k) 0 :: f.drop (f.length-1-k):=by
    rw [show f.length-1-(k+1)=f.length-2-k by omega,List.drop_eq_getElem_cons (show f.length-2-k<f.length by omega),show f.length-2-k+1=f.length-1-k by omega,List.getD_eq_getElem?_getD,List.getElem?_eq_getElem (show f.length-2-k<f.length by omega)]
    rfl
   rw [e,hvr,hvr_pv f r v k (by omega),pv,Rat.pow_succ]
   grind
theorem pmob_pv {f:List Int} (hl:1≤f.length) {P Q D:Int} (hD:0<D) {t:Rat} (ht:0<t) :
 (pcont (trs f P Q D (f.length-1)).1:Rat)*pv (pmob f P Q D) t=(1+t)^(f.length-1)*((D:Rat)^(f.length-1)*pv f (phi ((P:Rat) / D) ((Q:Rat) / D) t)):=by
 have hD':(0:Rat)<D:=by exact_mod_cast hD
 have e1:=(tr_pv f P Q D t (f.length-1)).1
 have e2:(P:Rat)+Q*t=phi ((P:Rat) / D) ((Q:Rat) / D) t*((D:Rat)+D*t):=by
  have h1:=phi_eq (a:=(P:Rat) / D) (b:=(Q:Rat) / D) ht
  have h2:(P:Rat) / D*D=P:=Rat.div_mul_cancel (by grind)
  have h3:(Q:Rat) / D*D=Q:=Rat.div_mul_cancel (by grind)
  generalize phi ((P:Rat) / D) ((Q:Rat) / D) t=s at *
  grind
 rw [e2,hvr_pv f _ _ _ (by omega),show f.length-1-(f.length-1)=0 by omega,List.drop_zero] at e1
 have e3:(pcont (trs f P Q D (f.length-1)).1:Rat)*pv (pmob f P Q D) t=pv (trs f P Q D (f.length-1)).1 t:=by
  unfold pmob
  rw [pv_trim]
  have:=pv_psc (pcont (trs f P Q D (f.length-1)).1:Int) (pctd (trs f P Q D (f.length-1)).1) t
  rw [Rat.intCast_natCast] at this
  rw [← this]
  exact pv_congr _ _ (fun k=>by rw [psc_get,← pctd_mul]) t
 rw [e3,e1,show (D:Rat)+D*t=(1+t)*D by grind,rmul_pow]
 grind
theorem upt_root {a b:Rat} (h:a<b) {y:Pt} (ha:Pt.of a<y) (hb:y<Pt.of b) {m f:List Int} (n:Nat) {k:Rat} (hk:0<k) (he:∀ t,0<t→k*pv m t=(1+t)^n*pv f (phi a b t)) (h0:sgp f y=0):sgp m (upt a b h y ha hb)=0:=by
 rcases sgp_or m (upt a b h y ha hb) with e | e | e
 ·have:=(upt_fpos h ha hb n hk he (sgf_pos e)).sgf
  exact absurd (this.symm.trans h0) (by decide)
 ·have h1:fneg (pv f) y:=upt_fpos h ha hb n hk (F:=fun t=>-pv m t) (G:=fun t=>-pv f t) (fun t ht=>by have:=he t ht;grind) (sgf_neg e)
  have:=h1.sgf
  exact absurd (this.symm.trans h0) (by decide)
 ·exact e
theorem pts_lo:∀ xs:List Pt,(∀ x∈xs,Pt.of 0<x)→∃ t:Rat,0<t∧∀ x∈xs,Pt.of t<x
 | [],_=>⟨1,by grind,fun x hx=>by simp at hx⟩
 | x :: xs,h=>by
   obtain ⟨t,h1,h2⟩:=pts_lo xs fun y hy=>h y (List.mem_cons_of_mem _ hy)
   obtain ⟨s,h3,h4⟩:=Pt.mid (h x (List.mem_cons_self ..))
   rw [Pt.of_lt_of] at h3
   rcases rlt_or s t with c | c
   ·refine ⟨s,h3,fun y hy=>?_⟩
    rcases List.mem_cons.1 hy with e | e
    ·exact e ▸ h4
    ·exact Pt.lt_trans (Pt.of_lt_of.2 c) (h2 y e)
   ·refine ⟨t,h1,fun y hy=>?_⟩
    rcases List.mem_cons.1 hy with e | e
    ·rw [e];exact Pt.of_lt.2 (Pt.Lle (Pt.of_lt.1 h4) c)
    ·exact h2 y e
theorem pts_hi:∀ (xs:List Pt) (t0:Rat),∃ t:Rat,t0<t∧∀ x∈xs,x<Pt.of t
 | [],t0=>⟨t0+1,by grind,fun x hx=>by simp at hx⟩
 | x :: xs,t0=>by
   obtain ⟨t,h1,h2⟩:=pts_hi xs t0
   obtain ⟨s,h3⟩:=x.bd
   refine ⟨if t<s then s+1 else t+1,by split<;>grind,fun y hy=>?_⟩
   rcases List.mem_cons.1 hy with e | e
   ·rw [e];exact Pt.lt_of.2 ⟨s,by split<;>grind,h3⟩
   ·exact Pt.lt_trans (h2 y e) (Pt.of_lt_of.2 (by split<;>grind))
end Go.Proofs.YtjmglmgokfcgoaaGreat
namespace Go.Proofs.YtjmglmgokfcgoaaGreat
theorem rone_pow:∀ n:Nat,(1:Rat)^n=1
 | 0=>Rat.pow_zero _
 | n+1=>by rw [Rat.pow_succ,rone_pow n];grind
section
variable {a b:Rat}
theorem upt_fpos' (h:a<b) {y:Pt} (ha:Pt.of a<y) (hb:y<Pt.of b) {F G:Rat→Rat} (n:Nat) {k:Rat} (hk:0<k) (he:∀ t,0<t→k*F t=(1+t)^n*G (phi a b t))
 (hp:fpos G y):fpos F (upt a b h y ha hb):=by
 obtain ⟨e,l,u,he0,⟨hl,hu⟩,hq⟩:=hp
 obtain ⟨l1,hl1,hl2⟩:=y.op l hl
 obtain ⟨l2,hl3,hl4⟩:=y.op a (Pt.of_lt.1 ha)
 obtain ⟨m,hm1,hm2,hm3⟩:∃ m:Rat,l<m∧a<m∧y.L m:=by
  rcases Rat.le_total (a:=l1) (b:=l2) with c | c
  ·exact ⟨l2,by grind,hl3,hl4⟩
  ·exact ⟨l1,hl1,by grind,hl2⟩
 obtain ⟨u1,hu1,hu2⟩:=hu.op
 obtain ⟨u2,hu3,hu4⟩:=(Pt.lt_of.1 hb).op
 obtain ⟨v,hv1,hv2,hv3⟩:∃ v:Rat,v<u∧v<b∧y.U v:=by
  rcases Rat.le_total (a:=u1) (b:=u2) with c | c
  ·exact ⟨u1,hu1,by grind,hu2⟩
  ·exact ⟨u2,by grind,hu3,hu4⟩
 have hmv:m<v:=Pt.lu hm3 hv3
 have hva:a<v:=by grind
 have hmb:m<b:=by grind
 have hm0:=psi_pos hm2 hmb
 have hxl:(upt a b h y ha hb).L (psi a b m):=.inr (by rw [phi_psi h hm2 hmb];exact hm3)
 have hxu:(upt a b h y ha hb).U (psi a b v):=by
  obtain ⟨s,hs,hs1⟩:=hv3.op
  have hsa:a<s:=Pt.lu (Pt.of_lt.1 ha) hs1
  refine ⟨psi a b s,psi_mono hsa hs hv2,fun hc=>?_⟩
  rcases hc with hc | hc
  ·have:=psi_pos hsa (show s<b by grind);grind
  ·rw [phi_psi h hsa (show s<b by grind)] at hc
   exact hs1.nL hc
 have hek:0<e / k:=by rw [Rat.lt_div_iff hk,Rat.zero_mul];exact he0
 refine ⟨e / k,psi a b m,psi a b v,hek,⟨hxl,hxu⟩,fun q hq1 hq2=>?_⟩
 have hq0:0<q:=by grind
 have h1:=phi_mono h hm0 hq1
 rw [phi_psi h hm2 hmb] at h1
 have h2:=phi_mono h hq0 hq2
 rw [phi_psi h hva hv2] at h2
 have h3:=hq (phi a b q) (by grind) (by grind)
 have h4:=he q hq0
 have h5:1≤(1+q)^n:=by
  have:=rpow_le (x:=1) (y:=1+q) (by grind) (by grind) n
  rw [rone_pow] at this
  exact this
 have h6:=Rat.mul_le_mul_of_nonneg_right h5 (show 0≤G (phi a b q) by grind)
 have h7:e≤k*F q:=by grind
 rw [Rat.div_def]
 have h8:=Rat.mul_le_mul_of_nonneg_left h7 (Rat.le_of_lt (Rat.inv_pos.2 hk))
 have h9:k*k⁻¹=1:=Rat.mul_inv_cancel _ (by grind)
 have h10:k⁻¹*(k*F q)=F q:=by rw [← Rat.mul_assoc,Rat.mul_comm k⁻¹ k,h9,Rat.one_mul]
 rw [h10] at h8
 grind
theorem upt_sgp (h:a<b) {y:Pt} (ha:Pt.of a<y) (hb:y<Pt.of b) {m f:List Int} (n:Nat) {k:Rat} (hk:0<k) (he:∀ t,0<t→k*pv m t=(1+t)^n*pv f (phi a b t)):sgp m (upt a b h y ha hb)=0↔sgp f y=0:=by
 refine ⟨fun h0=>?_,upt_root h ha hb n hk he⟩
 rcases sgp_or f y with e | e | e
 ·have:=(upt_fpos' h ha hb n hk he (sgf_pos e)).sgf
  exact absurd (this.symm.trans h0) (by decide)
 ·have h1:fneg (pv m) (upt a b h y ha hb):=upt_fpos' h ha hb n hk (F:=fun t=>-pv m t) (G:=fun t=>-pv f t) (fun t ht=>by have:=he t ht;grind) (sgf_neg e)
  have:=h1.sgf
  exact absurd (this.symm.trans h0) (by decide)
 ·exact e
end
theorem pd_trim (p:List Int) (q:Rat):pd (ptrim p) q=pd p q:=pd_congr _ _ (fun k=>ptrim_getD p k) q
theorem pd_two (a b:Int) (q:Rat):pd [a,b] q=b:=by
 show ((b:Rat)+q*0)+q*((0:Rat)+q*0)=b
 grind
theorem ring_a (U k D S Q P E c V:Rat):U*(k*D*S+D*(Q-P)*E)+(D*U*S+D*(Q-P)*S)+c*((k+1)*D*V)=(k+1)*D*(S*U+c*V)+D*(Q-P)*(S+U*E):=by grind
theorem ring_b (Z v S r T:Rat):Z*v*(S+r*T)=Z*v*S+r*v*(Z*T):=by grind
theorem ring_c (D x S Q P:Rat):(D+D*x)*(S*Q)=D*(P+Q*x)*S+D*(Q-P)*S:=by grind
theorem tr_e (v r S U:Rat) (c:Int) (T:List Int) (k:Nat) (hS:S=v^k*pv T r) (hU:U=r*v) (h0:k=0→pd T r=0):v^(k+1-1)*pd (c :: T) r=S+U*(v^(k-1)*pd T r):=by
 subst hS hU
 rw [Nat.add_sub_cancel,pd]
 rcases Nat.eq_zero_or_pos k with e | e
 ·rw [h0 e]
  subst e
  grind
 ·obtain ⟨j,rfl⟩:∃ j,k=j+1:=⟨k-1,by omega⟩
  rw [Nat.add_sub_cancel,Rat.pow_succ]
  exact ring_b _ _ _ _ _
set_option maxHeartbeats 1000000 in
theorem tr_pd (f:List Int) (P Q D:Int) (x r:Rat) (hr:(P:Rat)+Q*x=r*(D+D*x)):∀ k,k+1≤f.length →
 ((D:Rat)+D*x)*pd (trs f P Q D k).1 x=k*D*pv (trs f P Q D k).1 x+D*(Q-P)*(((D:Rat)+D*x)^(k-1)*pd (f.drop (f.length-1-k)) r)∧((D:Rat)+D*x)*pd (trs f P Q D k).2.1 x=k*D*((D:Rat)+D*x)^k
 | 0,h=>by
   have e:f.drop (f.length-1)=[f.getD (f.length-1) 0]:=by
    rw [List.getD_eq_getElem?_getD,List.getElem?_eq_getElem (show f.length-1<f.length by omega),List.drop_eq_getElem_cons (show f.length-1<f.length by omega),show f.length-1+1=f.length by omega,List.drop_length]
    rfl
   rw [Nat.sub_zero,e]
   have z:∀ (c:Int) (q:Rat),pd [c] q=0:=fun c q=>by show (0:Rat)+q*0=0;grind
   have e1:pd (trs f P Q D 0).1 x=0:=z _ x
   have e2:pd (trs f P Q D 0).2.1 x=0:=z _ x
   rw [e1,e2,z]
   have:((0:Nat):Rat)=0:=rfl
   constructor<;>grind
 | k+1,h=>by
   obtain ⟨h1,h2⟩:=tr_pd f P Q D x r hr k (by omega)
   obtain ⟨s1,s2⟩:=tr_pv f P Q D x k
   obtain ⟨s3,s4⟩:=tr_pv f P Q D x (k+1)
   have s5:=hvr_pv f r ((D:Rat)+D*x) k (by omega)
   rw [← hr,← s1] at s5
   have e:f.drop (f.length-1-(k+1))=f.getD (f.length-2-k) 0 :: f.drop (f.length-1-k):=by
    rw [show f.length-1-(k+1)=f.length-2-k by omega,List.drop_eq_getElem_cons (show f.length-2-k<f.length by omega),show f.length-2-k+1=f.length-1-k by omega,List.getD_eq_getElem?_getD,List.getElem?_eq_getElem (show f.length-2-k<f.length by omega)]
    rfl
   have hv:pd (polymul (ptrim (trs f P Q D k).2.1) (ptrim [D,D])) x=pd (trs f P Q D k).2.1 x*(D+D*x)+((D:Rat)+D*x)^k*D:=by
    rw [pd_polymul,pd_trim,pv_trim,pv_trim,pd_trim,pv_two,pd_two,s2]
   have hc:((k+1:Nat):Rat)=(k:Rat)+1:=by push_cast;rfl
   have hv2:((D:Rat)+D*x)*pd (polymul (ptrim (trs f P Q D k).2.1) (ptrim [D,D])) x=((k+1:Nat):Rat)*D*((D:Rat)+D*x)^(k+1):=by
    rw [hv,hc,Rat.pow_succ]
    grind
   refine ⟨?_,hv2⟩
   have hs:pd (trs f P Q D (k+1)).1 x=pd (trs f P Q D k).1 x*(P+Q*x)+pv (trs f P Q D k).1 x*Q+((f.getD (f.length-2-k) 0:Int):Rat)*pd (polymul (ptrim (trs f P Q D k).2.1) (ptrim [D,D])) x:=by
    show pd (ptrim (padd (polymul (ptrim (trs f P Q D k).1) (ptrim [P,Q])) (ptrim (psc (f.getD (f.length-2-k) 0) (polymul (ptrim (trs f P Q D k).2.1) (ptrim [D,D])))))) x=_
    rw [pd_trim,pd_padd,pd_polymul,pd_trim,pv_trim,pv_trim,pd_trim,pv_two,pd_two,pd_trim,pd_psc]
   have hS:pv (trs f P Q D (k+1)).1 x=pv (trs f P Q D k).1 x*(P+Q*x)+((f.getD (f.length-2-k) 0:Int):Rat)*((D:Rat)+D*x)^(k+1):=by
    rw [s3,s1,hvr]
   have hE:((D:Rat)+D*x)^(k+1-1)*pd (f.getD (f.length-2-k) 0 :: f.drop (f.length-1-k)) r=pv (trs f P Q D k).1 x+(P+Q*x)*(((D:Rat)+D*x)^(k-1)*pd (f.drop (f.length-1-k)) r):=by
    refine tr_e _ r _ _ _ _ k s5 hr fun e0=>?_
    rw [e0,Nat.sub_zero,List.drop_eq_getElem_cons (show f.length-1<f.length by omega),show f.length-1+1=f.length by omega,List.drop_length]
    show (0:Rat)+r*0=0
    grind
   rw [e,hE,hs,hS,hc]
   rw [hc] at hv2
   generalize pd (polymul (ptrim (trs f P Q D k).2.1) (ptrim [D,D])) x=X at *
   generalize pd (trs f P Q D k).1 x=Y at *
   generalize pv (trs f P Q D k).1 x=S at *
   generalize ((D:Rat)+D*x)^(k-1)*pd (f.drop (f.length-1-k)) r=E at *
   generalize ((f.getD (f.length-2-k) 0:Int):Rat)=c at *
   generalize ((D:Rat)+D*x)^(k+1)=V at *
   have g1:((D:Rat)+D*x)*(Y*(P+Q*x))=(P+Q*x)*(k*D*S+D*(Q-P)*E):=by rw [← h1,Rat.mul_comm Y,← Rat.mul_assoc,Rat.mul_comm ((D:Rat)+D*x),Rat.mul_assoc]
   have g2:((D:Rat)+D*x)*(c*X)=c*(((k:Rat)+1)*D*V):=by rw [← hv2,← Rat.mul_assoc,Rat.mul_comm ((D:Rat)+D*x),Rat.mul_assoc]
   have g3:((D:Rat)+D*x)*(S*Q)=D*(P+Q*x)*S+D*(Q-P)*S:=ring_c _ _ _ _ _
   rw [Rat.mul_add,Rat.mul_add,g1,g2,g3]
   exact ring_a _ _ _ _ _ _ _ _ _
theorem ev_pos {p r:List Int} (h:∀ t:Int,0<t→ev p t=ev r t) (k:Nat):p.getD k 0=r.getD k 0:=by
 have hd:∀ t:Int,0<t→ev (padd p (psc (-1) r)) t=0:=fun t ht=>by rw [ev_padd,ev_psc,h t ht];omega
 have hz:plen (padd p (psc (-1) r))=0:=by
  refine Classical.byContradiction fun hc=>?_
  have h1:=rts_le (plen (padd p (psc (-1) r))-1) (padd p (psc (-1) r)) (by omega) ((List.range (plen (padd p (psc (-1) r)))).map fun i=>Pt.of (((i+1:Nat):Int):Rat)) (List.pairwise_map.2 (List.pairwise_lt_range.imp fun {i j} hij=>Pt.of_lt_of.2 (by exact_mod_cast (show ((i+1:Nat):Int)<((j+1:Nat):Int) by omega)))) (fun x hx=>by
   obtain ⟨i,_,rfl⟩:=List.mem_map.1 hx
   unfold sgp
   rw [sgf_of (lp_pv _),pv_int,hd _ (by omega)]
   rfl)
  rw [List.length_map,List.length_range] at h1
  omega
 have h2:=getD_ge_plen (padd p (psc (-1) r)) k (by omega)
 rw [padd_get,psc_get] at h2
 omega
section
variable {f:List Int} {P Q D:Int}
def tm (f:List Int) (P Q D:Int):List Int:=(trs f P Q D (f.length-1)).1
theorem tm_pv (hl:1≤f.length) (hD:0<D) {t:Rat} (ht:0<t):pv (tm f P Q D) t=((D:Rat)+D*t)^(f.length-1)*pv f (phi ((P:Rat) / D) ((Q:Rat) / D) t):=by
 have hD':(0:Rat)<D:=by exact_mod_cast hD
 have e1:=(tr_pv f P Q D t (f.length-1)).1
 have e2:(P:Rat)+Q*t=phi ((P:Rat) / D) ((Q:Rat) / D) t*((D:Rat)+D*t):=by
  have h1:=phi_eq (a:=(P:Rat) / D) (b:=(Q:Rat) / D) ht
  have h2:(P:Rat) / D*D=P:=Rat.div_mul_cancel (by grind)
  have h3:(Q:Rat) / D*D=Q:=Rat.div_mul_cancel (by grind)
  generalize phi ((P:Rat) / D) ((Q:Rat) / D) t=s at *
  grind
 rw [e2,hvr_pv f _ _ _ (by omega),show f.length-1-(f.length-1)=0 by omega,List.drop_zero] at e1
 exact e1
theorem tm_pd (hl:2≤f.length) (hp:plen f=f.length) (hD:0<D) {t:Rat} (ht:0<t) :
 ((D:Rat)+D*t)*pd (tm f P Q D) t=((f.length-1:Nat):Rat)*D*pv (tm f P Q D) t+D*(Q-P)*pv (tm (pder f) P Q D) t:=by
 have hD':(0:Rat)<D:=by exact_mod_cast hD
 have e2:(P:Rat)+Q*t=phi ((P:Rat) / D) ((Q:Rat) / D) t*((D:Rat)+D*t):=by
  have h1:=phi_eq (a:=(P:Rat) / D) (b:=(Q:Rat) / D) ht
  have h2:(P:Rat) / D*D=P:=Rat.div_mul_cancel (by grind)
  have h3:(Q:Rat) / D*D=Q:=Rat.div_mul_cancel (by grind)
  generalize phi ((P:Rat) / D) ((Q:Rat) / D) t=s at *
  grind
 have e1:=(tr_pd f P Q D t _ e2 (f.length-1) (by omega)).1
 have hlen:(pder f).length=f.length-1:=by rw [pder_length,hp]
 rw [tm_pv (f:=pder f) (by omega) hD ht,hlen,pv_pder]
 rw [show f.length-1-(f.length-1)=0 by omega,List.drop_zero] at e1
 exact e1
theorem tm_der (hl:2≤f.length) (hp:plen f=f.length) (hD:0<D) (k:Nat) :
 (padd (polymul [D,D] (pder (tm f P Q D))) (psc (-(((f.length-1:Nat):Int)*D)) (tm f P Q D))).getD k 0=(psc (D*(Q-P)) (tm (pder f) P Q D)).getD k 0:=by
 refine ev_pos (fun t ht=>?_) k
 have h1:=tm_pd (P:=P) (Q:=Q) hl hp hD (t:=(t:Rat)) (by exact_mod_cast ht)
 rw [← pv_pder] at h1
 have h2:pv (padd (polymul [D,D] (pder (tm f P Q D))) (psc (-(((f.length-1:Nat):Int)*D)) (tm f P Q D))) (t:Rat)=pv (psc (D*(Q-P)) (tm (pder f) P Q D)) (t:Rat):=by
  rw [pv_padd,pv_polymul,pv_psc,pv_psc,pv_two,h1]
  push_cast
  grind
 rw [pv_int,pv_int] at h2
 exact_mod_cast h2
theorem mult_add {x:Pt} {A B:List Int} (hA:plen A≠0) (hB:∀ i,i≤mult x A→sgp (dk i B) x=0):plen (padd A B)≠0∧mult x (padd A B)=mult x A:=by
 have hm:=mult_spec hA x
 have h1:∀ i,i≤mult x A→sgp (dk i (padd A B)) x=sgp (dk i A) x:=fun i hi=>by rw [dk_padd,sgp_add0 (hB i hi)]
 have h2:sgp (dk (mult x A) (padd A B)) x≠0:=by rw [h1 _ (Nat.le_refl _)];exact hm.dk_eq
 have h0:plen (padd A B)≠0:=fun e=>h2 (van_nil (n:=mult x A+1) e _ (by omega))
 refine ⟨h0,?_⟩
 have h3:mult x A≤mult x (padd A B):=(van_iff h0).1 fun i hi=>by rw [h1 i (by omega)];exact hm.dk_lt i hi
 have h4:¬ mult x A+1≤mult x (padd A B):=fun hc=>h2 ((van_iff h0).2 hc _ (by omega))
 omega
theorem mult_congr {x:Pt} {p r:List Int} (h:∀ k,p.getD k 0=r.getD k 0) (hp:plen p≠0):mult x p=mult x r:=by
 have hr:plen r≠0:=by rw [← plen_congr h];exact hp
 have e:∀ n,Van x n p↔Van x n r:=fun n=>by
  constructor
  ·intro hv i hi
   rw [← sgp_congr (dk_congr i h)]
   exact hv i hi
  ·intro hv i hi
   rw [sgp_congr (dk_congr i h)]
   exact hv i hi
 have h1:=(van_iff hr).1 ((e _).1 ((van_iff hp).2 (Nat.le_refl (mult x p))))
 have h2:=(van_iff hp).1 ((e _).2 ((van_iff hr).2 (Nat.le_refl (mult x r))))
 omega
theorem mult_scale {c:Int} (hc:c≠0) {p:List Int} (hp:plen p≠0) (x:Pt):mult x (psc c p)=mult x p:=by
 have hq:plen (psc c p)≠0:=fun e=>by
  have h1:=plead_ne hp
  have h2:=getD_ge_plen (psc c p) (plen p-1) (by omega)
  rw [psc_get] at h2
  rcases Int.mul_eq_zero.1 h2 with e1 | e1
  ·exact hc e1
  ·exact h1 e1
 have e:∀ n,Van x n (psc c p)↔Van x n p:=fun n=>by
  constructor
  ·intro hv i hi
   have:=hv i hi
   rw [sgp_congr (dk_psc i c p),sgp_psc] at this
   rcases Int.mul_eq_zero.1 this with e1 | e1
   ·exact absurd e1 (sg_ne hc)
   ·exact e1
  ·intro hv i hi
   rw [sgp_congr (dk_psc i c p),sgp_psc,hv i hi,Int.mul_zero]
 have h1:=(van_iff hp).1 ((e _).1 ((van_iff hq).2 (Nat.le_refl (mult x (psc c p)))))
 have h2:=(van_iff hq).1 ((e _).2 ((van_iff hp).2 (Nat.le_refl (mult x p))))
 omega
end
theorem tm_mult {P Q D:Int} (hD:0<D) (hPQ:P≠Q) (h:(P:Rat) / D<(Q:Rat) / D) {y:Pt} (ha:Pt.of ((P:Rat) / D)<y) (hb:y<Pt.of ((Q:Rat) / D)):∀ (n:Nat) (f:List Int),f.length=n+1→plen f=f.length →
 plen (tm f P Q D)≠0∧mult (upt _ _ h y ha hb) (tm f P Q D)=mult y f
 | n,f,hl,hp=>by
   have hlead:f.getD (f.length-1) 0≠0:=by rw [← hp];exact plead_ne (by omega)
   have h0:plen (tm f P Q D)≠0:=tr_ne (D:=D) hlead hPQ (f.length-1)
   refine ⟨h0,?_⟩
   have hD':(0:Rat)<D:=by exact_mod_cast hD
   have hsg:sgp (tm f P Q D) (upt _ _ h y ha hb)=0↔sgp f y=0:=by
    refine upt_sgp h ha hb (f.length-1) (k:=((D:Rat)^(f.length-1))⁻¹) (Rat.inv_pos.2 (Rat.pow_pos hD')) fun t ht=>?_
    have hX:(0:Rat)<(D:Rat)^(f.length-1):=Rat.pow_pos hD'
    have hXi:(D:Rat)^(f.length-1)*((D:Rat)^(f.length-1))⁻¹=1:=Rat.mul_inv_cancel _ (by grind)
    rw [tm_pv (by omega) hD ht,show (D:Rat)+D*t=(1+t)*D by grind,rmul_pow]
    generalize (D:Rat)^(f.length-1)=X at *
    generalize (1+t)^(f.length-1)=Y at *
    generalize pv f _=Z
    grind
   have hf0:plen f≠0:=by omega
   by_cases hy:sgp f y=0
   ·match n,hl with
    | 0,hl =>
      have:=sgp_one (p:=f) (by omega) y
      rw [hy] at this
      exact absurd this.symm (sg_ne (plead_ne hf0))
    | n+1,hl =>
      have hx:=hsg.2 hy
      obtain ⟨m1,m2⟩:=mult_pder h0 hx
      obtain ⟨m3,m4⟩:=mult_pder hf0 hy
      have hpl:plen (pder f)=plen f-1:=pder_plen (by omega)
      have hlen:(pder f).length=n+1:=by rw [pder_length,hp,hl];omega
      obtain ⟨i1,i2⟩:=tm_mult hD hPQ h ha hb n (pder f) hlen (by rw [hpl,hp,hlen,hl];omega)
      have hA:plen ([D,D]:List Int)≠0:=fun e=>by
       have:=getD_ge_plen [D,D] 0 (by omega)
       have e2:([D,D]:List Int).getD 0 0=D:=rfl
       omega
      have hA0:mult (upt _ _ h y ha hb) [D,D]=0:=(mult_zero hA).2 fun hc=>by
       have h1:fpos (pv [D,D]) (upt _ _ h y ha hb):=by
        obtain ⟨l,hl1,hl2⟩:=(upt _ _ h y ha hb).op 0 (.inl Rat.le_refl)
        obtain ⟨u,hu⟩:=(upt _ _ h y ha hb).bd
        refine ⟨(D:Rat),l,u+1,hD',⟨hl2,u,by grind,hu⟩,fun q hq1 hq2=>?_⟩
        rw [pv_two]
        have:=Rat.mul_pos hD' (show 0<q by grind)
        grind
       exact absurd (h1.sgf.symm.trans hc) (by decide)
      have hB:=polymul_ne hA m2
      have hBm:mult (upt _ _ h y ha hb) (polymul [D,D] (pder (tm f P Q D)))=mult (upt _ _ h y ha hb) (pder (tm f P Q D)):=by rw [mult_mul hA m2,hA0];omega
      have hsp:=mult_spec h0 (upt _ _ h y ha hb)
      obtain ⟨a1,a2⟩:=mult_add (x:=upt _ _ h y ha hb) (B:=psc (-(((f.length-1:Nat):Int)*D)) (tm f P Q D)) hB fun i hi=>by
       rw [sgp_congr (dk_psc i _ _),sgp_psc,hsp.dk_lt i (by omega),Int.mul_zero]
      have hW:D*(Q-P)≠0:=fun e=>by
       rcases Int.mul_eq_zero.1 e with e1 | e1<;>omega
      have e1:=mult_congr (x:=upt _ _ h y ha hb) (tm_der (P:=P) (Q:=Q) (by omega) hp hD) a1
      rw [a2,hBm,mult_scale hW i1,i2] at e1
      omega
   ·rw [(mult_zero hf0).2 hy,(mult_zero h0).2 fun e=>hy (hsg.1 e)]
end Go.Proofs.YtjmglmgokfcgoaaGreat
namespace Go.Proofs.YtjmglmgokfcgoaaGreat
def dls:Nat→List Int→List (List Int)
 | 0,g=>[g]
 | n+1,g=>g :: dls n (pder g)
theorem dls_head:∀ (n:Nat) (g:List Int),∃ T,dls n g=g :: T
 | 0,_=>⟨[],rfl⟩
 | _+1,_=>⟨_,rfl⟩
noncomputable def lsg (x:Pt) (p:List Int):Int:=(-1)^mult x p*rs x p
noncomputable def bv (n:Nat) (g:List Int) (x:Pt):Int:=chg 0 ((dls n g).map fun p=>sgp p x)
noncomputable def bl (n:Nat) (g:List Int) (x:Pt):Int:=chg 0 ((dls n g).map fun p=>lsg x p)
noncomputable def br (n:Nat) (g:List Int) (x:Pt):Int:=chg 0 ((dls n g).map fun p=>rs x p)
theorem chg_cons {s:Int} (hs:s≠0) (T:List Int):chg 0 (s :: T)=chg s T:=by rw [chg,if_neg hs,if_neg (by omega)]
theorem chg_two {s t:Int} (ht:t≠0) (T:List Int):chg s (t :: T)=(if t=-s then 1 else 0)+chg 0 (t :: T):=by
 rw [chg_cons ht,chg,if_neg ht]
 split<;>omega
theorem dls_ne:∀ (n:Nat) (g:List Int),plen g=n+1→∀ p∈dls n g,plen p≠0
 | 0,g,h,p,hp=>by
   rw [List.mem_singleton.1 hp];omega
 | n+1,g,h,p,hp=>by
   rcases List.mem_cons.1 hp with e | e
   ·rw [e];omega
   ·exact dls_ne n (pder g) (by rw [pder_plen (by omega)];omega) p e
theorem lsg_pm {p:List Int} (h:plen p≠0) (x:Pt):lsg x p=1∨lsg x p=-1:=by
 unfold lsg
 rcases rs_pm h x with e | e<;>rcases pm_pow (mult x p) with ⟨c,_⟩ | ⟨c,_⟩<;>rw [e,c]<;>decide
theorem bv_from (x:Pt):∀ (n:Nat) (g:List Int),plen g=n+1→∀ s:Int,chg s ((dls n g).map fun p=>sgp p x)=(if rs x g=-s then 1 else 0)+bv n g x
 | 0,g,h,s=>by
   have hg:sgp g x≠0:=by rw [sgp_one h];exact sg_ne (plead_ne (by omega))
   show chg s [sgp g x]=_+chg 0 [sgp g x]
   rw [chg_two hg,rs_zero hg]
 | n+1,g,h,s=>by
   show chg s (sgp g x :: (dls n (pder g)).map fun p=>sgp p x)=_+chg 0 (sgp g x :: (dls n (pder g)).map fun p=>sgp p x)
   by_cases h0:sgp g x=0
   ·rw [h0,chg_zero,chg_zero,rs_pder (by omega) h0]
    exact bv_from x n (pder g) (by rw [pder_plen (by omega)];omega) s
   ·rw [chg_two h0,rs_zero h0]
theorem bl_bv (x:Pt):∀ (n:Nat) (g:List Int),plen g=n+1→∃ j:Nat,bl n g x=bv n g x+mult x g+2*(j:Int)
 | 0,g,h=>by
   have hg:sgp g x≠0:=by rw [sgp_one h];exact sg_ne (plead_ne (by omega))
   have hL:lsg x g≠0:=by rcases lsg_pm (x:=x) (show plen g≠0 by omega) with e | e<;>omega
   refine ⟨0,?_⟩
   show chg 0 [lsg x g]=chg 0 [sgp g x]+_+_
   rw [chg_cons hL,chg_cons hg,(mult_zero (by omega)).2 hg]
   rfl
 | n+1,g,h=>by
   have hpl:plen (pder g)=n+1:=by rw [pder_plen (by omega)];omega
   obtain ⟨j,ih⟩:=bl_bv x n (pder g) hpl
   have hL:lsg x g≠0:=by rcases lsg_pm (x:=x) (show plen g≠0 by omega) with e | e<;>omega
   have hL':lsg x (pder g)≠0:=by rcases lsg_pm (x:=x) (show plen (pder g)≠0 by omega) with e | e<;>omega
   obtain ⟨T,hT⟩:=dls_head n (pder g)
   have e1:bl (n+1) g x=(if lsg x (pder g)=-lsg x g then 1 else 0)+bl n (pder g) x:=by
    show chg 0 (lsg x g :: (dls n (pder g)).map fun p=>lsg x p)=_+chg 0 ((dls n (pder g)).map fun p=>lsg x p)
    rw [chg_cons hL,hT,List.map_cons,chg_two hL']
   rw [e1,ih]
   have ht:=rs_pm (show plen (pder g)≠0 by omega) x
   by_cases h0:sgp g x=0
   ·obtain ⟨m1,_⟩:=mult_pder (show plen g≠0 by omega) h0
    have e2:bv (n+1) g x=bv n (pder g) x:=by
     show chg 0 (sgp g x :: (dls n (pder g)).map fun p=>sgp p x)=_
     rw [h0,chg_zero]
     rfl
    have e3:lsg x (pder g)=-lsg x g:=by
     unfold lsg
     rw [m1,rs_pder (by omega) h0,Int.pow_succ]
     grind
    rw [if_pos e3,e2,m1]
    exact ⟨j,by push_cast;omega⟩
   ·have m0:=(mult_zero (show plen g≠0 by omega)).2 h0
    have e2:bv (n+1) g x=(if rs x (pder g)=-sgp g x then 1 else 0)+bv n (pder g) x:=by
     show chg 0 (sgp g x :: (dls n (pder g)).map fun p=>sgp p x)=_
     rw [chg_cons h0,bv_from x n (pder g) hpl]
    have e3:lsg x g=sgp g x:=by
     unfold lsg
     rw [m0,rs_zero h0,Int.pow_zero,Int.one_mul]
    have hs:sgp g x=1∨sgp g x=-1:=by
     rcases sgp_or g x with c | c | c
     ·exact .inl c
     ·exact .inr c
     ·exact absurd c h0
    rw [e2,e3,m0]
    have e4:lsg x (pder g)=(-1)^mult x (pder g)*rs x (pder g):=rfl
    generalize mult x (pder g)=m' at *
    generalize rs x (pder g)=t at *
    generalize lsg x (pder g)=L at *
    generalize sgp g x=s at *
    rcases pm_pow m' with ⟨c,hm⟩ | ⟨c,hm⟩
    ·rw [c,Int.one_mul] at e4
     subst e4
     exact ⟨m' / 2+j,by push_cast;omega⟩
    ·rw [c] at e4
     by_cases hts:t=s
     ·rw [if_pos (by omega),if_neg (by omega)]
      exact ⟨(m'+1) / 2+j,by push_cast;omega⟩
     ·rw [if_neg (by omega),if_pos (by omega)]
      exact ⟨(m'-1) / 2+j,by push_cast;omega⟩
theorem br_bv (x:Pt):∀ (n:Nat) (g:List Int),plen g=n+1→br n g x=bv n g x
 | 0,g,h=>by
   have hg:sgp g x≠0:=by rw [sgp_one h];exact sg_ne (plead_ne (by omega))
   show chg 0 [rs x g]=chg 0 [sgp g x]
   rw [rs_zero hg]
 | n+1,g,h=>by
   have hpl:plen (pder g)=n+1:=by rw [pder_plen (by omega)];omega
   have ih:=br_bv x n (pder g) hpl
   have ht:=rs_pm (show plen (pder g)≠0 by omega) x
   have hg:=rs_pm (show plen g≠0 by omega) x
   obtain ⟨T,hT⟩:=dls_head n (pder g)
   have e1:br (n+1) g x=(if rs x (pder g)=-rs x g then 1 else 0)+br n (pder g) x:=by
    show chg 0 (rs x g :: (dls n (pder g)).map fun p=>rs x p)=_+chg 0 ((dls n (pder g)).map fun p=>rs x p)
    rw [chg_cons (by omega),hT,List.map_cons,chg_two (by omega)]
   rw [e1,ih]
   by_cases h0:sgp g x=0
   ·have e2:bv (n+1) g x=bv n (pder g) x:=by
     show chg 0 (sgp g x :: (dls n (pder g)).map fun p=>sgp p x)=_
     rw [h0,chg_zero]
     rfl
    rw [e2,rs_pder (by omega) h0,if_neg (by omega)]
    omega
   ·have e2:bv (n+1) g x=(if rs x (pder g)=-sgp g x then 1 else 0)+bv n (pder g) x:=by
     show chg 0 (sgp g x :: (dls n (pder g)).map fun p=>sgp p x)=_
     rw [chg_cons h0,bv_from x n (pder g) hpl]
    rw [e2,rs_zero h0]
theorem near_lo (x:Pt):∀ fs:List (List Int),(∀ p∈fs,plen p≠0)→∃ l:Pt,l<x∧∀ y,l<y→y<x→(fs.map fun p=>sgp p y)=fs.map fun p=>lsg x p
 | [],_=>by
   obtain ⟨q,hq⟩:=x.ne
   exact ⟨Pt.of q,Pt.of_lt.2 hq,fun _ _ _=>rfl⟩
 | p :: fs,h=>by
   obtain ⟨l,h1,h2⟩:=near_lo x fs fun q hq=>h q (List.mem_cons_of_mem _ hq)
   obtain ⟨l1,u1,hs⟩:=side_ex (h p (List.mem_cons_self ..)) x
   obtain ⟨y,y1,y2,y3⟩:=Pt.two_lo h1 hs.lo
   refine ⟨y,y1,fun z hz hz'=>?_⟩
   rw [List.map_cons,List.map_cons,h2 z (Pt.lt_trans y2 hz) hz',hs.l z (Pt.lt_trans y3 hz) hz']
   rfl
theorem near_hi (x:Pt):∀ fs:List (List Int),(∀ p∈fs,plen p≠0)→∃ u:Pt,x<u∧∀ y,x<y→y<u→(fs.map fun p=>sgp p y)=fs.map fun p=>rs x p
 | [],_=>by
   obtain ⟨q,hq⟩:=x.bd
   exact ⟨Pt.of (q+1),Pt.lt_of.2 ⟨q,by grind,hq⟩,fun _ _ _=>rfl⟩
 | p :: fs,h=>by
   obtain ⟨l,h1,h2⟩:=near_hi x fs fun q hq=>h q (List.mem_cons_of_mem _ hq)
   obtain ⟨l1,u1,hs⟩:=side_ex (h p (List.mem_cons_self ..)) x
   obtain ⟨y,y1,y2,y3⟩:=Pt.two_up h1 hs.hi
   refine ⟨y,y1,fun z hz hz'=>?_⟩
   rw [List.map_cons,List.map_cons,h2 z hz (Pt.lt_trans hz' y2),hs.r z hz (Pt.lt_trans hz' y3)]
theorem stay_all {y1 y2:Pt} (h:y1<y2):∀ fs:List (List Int),(∀ p∈fs,∀ z,(z=y1∨y1<z)→(z<y2∨z=y2)→sgp p z≠0)→(fs.map fun p=>sgp p y1)=fs.map fun p=>sgp p y2
 | [],_=>rfl
 | p :: fs,hp=>by
   rw [List.map_cons,List.map_cons,stay_all h fs fun q hq=>hp q (List.mem_cons_of_mem _ hq)]
   have h1:=hp p (List.mem_cons_self ..)
   rw [sgp_stay h (fun z a b=>h1 z (.inr a) (.inl b)) (h1 y1 (.inl rfl) (.inl h)) (h1 y2 (.inr h) (.inr rfl))]
theorem bv_step {n:Nat} {g:List Int} (hg:plen g=n+1) {a c:Pt} (h:a<c) (h0:∀ p∈dls n g,∀ z,a<z→z<c→sgp p z≠0):bv n g a=bl n g c:=by
 have hne:=dls_ne n g hg
 obtain ⟨u,u1,u2⟩:=near_hi a _ hne
 obtain ⟨l,l1,l2⟩:=near_lo c _ hne
 obtain ⟨y1,a1,a2,a3⟩:=Pt.two_up h u1
 obtain ⟨y2,b1,b2,b3⟩:=Pt.two_lo a2 l1
 rw [← br_bv a n g hg]
 unfold br bl
 rw [← u2 y1 a1 a3,← l2 y2 b3 b1,stay_all b2 _ fun p hp z hz hz'=>h0 p hp z ?_ ?_]
 ·rcases hz with e | e
  ·rw [e];exact a1
  ·exact Pt.lt_trans a1 e
 ·rcases hz' with e | e
  ·exact Pt.lt_trans e b1
  ·rw [e];exact b1
theorem dls_self (n:Nat) (g:List Int):g∈dls n g:=by
 obtain ⟨T,hT⟩:=dls_head n g
 rw [hT]
 exact List.mem_cons_self ..
theorem bf_list {n:Nat} {g:List Int} (hg:plen g=n+1) {b:Pt}:∀ (zs:List Pt) (a:Pt),a<b→Lst (fun z=>(∃ p∈dls n g,sgp p z=0)∧a<z∧(z<b∨z=b)) zs→∃ j:Nat,bv n g a=bv n g b+Mu g zs+2*(j:Int)
 | [],a,h,hz=>by
   have hn:∀ p∈dls n g,∀ z,a<z→(z<b∨z=b)→sgp p z≠0:=fun p hp z h1 h2 e=>by
    have:=(hz.2 z).2 ⟨⟨p,hp,e⟩,h1,h2⟩
    simp at this
   obtain ⟨j,hj⟩:=bl_bv b n g hg
   rw [bv_step hg h (fun p hp z h1 h2=>hn p hp z h1 (.inl h2)),hj,(mult_zero (by omega)).2 (hn g (dls_self n g) b h (.inr rfl))]
   exact ⟨j,by show _=bv n g b+0+_;omega⟩
 | z :: zs,a,h,hz=>by
   obtain ⟨h1,h2⟩:=List.pairwise_cons.1 hz.1
   obtain ⟨_,z1,z2⟩:=(hz.2 z).1 (List.mem_cons_self ..)
   have hn:∀ p∈dls n g,∀ y,a<y→y<z→sgp p y≠0:=fun p hp y y1 y2 e=>by
    have hy:y<b∨y=b:=by
     rcases z2 with c | c
     ·exact .inl (Pt.lt_trans y2 c)
     ·exact .inl (c ▸ y2)
    rcases List.mem_cons.1 ((hz.2 y).2 ⟨⟨p,hp,e⟩,y1,hy⟩) with c | c
    ·rw [c] at y2;exact Pt.irr _ y2
    ·exact Pt.irr _ (Pt.lt_trans y2 (h1 y c))
   obtain ⟨j,hj⟩:=bl_bv z n g hg
   rw [bv_step hg z1 hn,hj]
   rcases z2 with c | c
   ·have hz':Lst (fun y=>(∃ p∈dls n g,sgp p y=0)∧z<y∧(y<b∨y=b)) zs:=⟨h2,fun y=>by
     constructor
     ·intro hy
      obtain ⟨e1,_,e3⟩:=(hz.2 y).1 (List.mem_cons_of_mem _ hy)
      exact ⟨e1,h1 y hy,e3⟩
     ·rintro ⟨e1,e2,e3⟩
      rcases List.mem_cons.1 ((hz.2 y).2 ⟨e1,Pt.lt_trans z1 e2,e3⟩) with c1 | c1
      ·rw [c1] at e2;exact absurd e2 (Pt.irr _)
      ·exact c1⟩
    obtain ⟨i,hi⟩:=bf_list hg zs z c hz'
    rw [hi,Mu_cons]
    exact ⟨i+j,by push_cast;omega⟩
   ·have hnil:zs=[]:=by
     match zs,h1,hz with
     | [],_,_=>rfl
     | y :: ys,h1,hz =>
       have hy:=h1 y (List.mem_cons_self ..)
       rcases ((hz.2 y).1 (List.mem_cons_of_mem _ (List.mem_cons_self ..))).2.2 with e | e
       ·rw [c] at hy;exact absurd (Pt.lt_trans hy e) (Pt.irr _)
       ·rw [c,e] at hy;exact absurd hy (Pt.irr _)
    rw [hnil,Mu_cons,← c]
    exact ⟨j,by show _=_+(_+0)+_;omega⟩
def dprod:Nat→List Int→List Int
 | 0,g=>g
 | n+1,g=>polymul g (dprod n (pder g))
theorem dprod_ne:∀ (n:Nat) (g:List Int),plen g=n+1→plen (dprod n g)≠0
 | 0,g,h=>by show plen g≠0;omega
 | n+1,g,h=>polymul_ne (by omega) (dprod_ne n (pder g) (by rw [pder_plen (by omega)];omega))
theorem dprod_root (x:Pt):∀ (n:Nat) (g:List Int),sgp (dprod n g) x=0↔∃ p∈dls n g,sgp p x=0
 | 0,g=>by
   show sgp g x=0↔∃ p∈[g],sgp p x=0
   simp
 | n+1,g=>by
   show sgp (polymul g (dprod n (pder g))) x=0↔∃ p∈g :: dls n (pder g),sgp p x=0
   rw [sgp_mul,Int.mul_eq_zero,dprod_root x n (pder g)]
   simp
theorem budan_fourier {n:Nat} {g:List Int} (hg:plen g=n+1) {a b:Pt} (h:a<b) {xs:List Pt} (hx:Lst (fun z=>sgp g z=0∧a<z∧(z<b∨z=b)) xs):∃ j:Nat,bv n g a=bv n g b+Mu g xs+2*(j:Int):=by
 obtain ⟨zs,hz⟩:=roots_lst (dprod_ne n g hg) fun z=>a<z∧(z<b∨z=b)
 have hz':=hz.congr fun z=>and_congr_left' (dprod_root z n g)
 obtain ⟨j,hj⟩:=bf_list hg zs a h hz'
 have hg0:plen g≠0:=by omega
 have h1:Mu g zs≤Mu g xs:=Mu_le hg0 hx hz.1 fun z h2=>((hz.2 z).1 h2).2
 have h2:Mu g xs≤Mu g zs:=Mu_sub g zs xs hz.1 hx.1 fun z h3=>(hz'.2 z).2 ⟨⟨g,dls_self n g,((hx.2 z).1 h3).1⟩,((hx.2 z).1 h3).2⟩
 exact ⟨j,by omega⟩
end Go.Proofs.YtjmglmgokfcgoaaGreat
namespace Go.Proofs.YtjmglmgokfcgoaaGreat
theorem mulX_zero (c s:Int):∀ y:List Int,(mulX c s y).getD 0 0=s+c*y.getD 0 0
 | []=>by show s=s+c*0;omega
 | _ :: _=>rfl
theorem mulX_succ (c:Int):∀ (y:List Int) (s:Int) (k:Nat),(mulX c s y).getD (k+1) 0=y.getD k 0+c*y.getD (k+1) 0
 | [],s,k=>by
   rw [List.getD_nil,List.getD_nil,Int.mul_zero]
   rfl
 | b :: y,s,0=>by
   show (mulX c b y).getD 0 0=b+c*y.getD 0 0
   exact mulX_zero c b y
 | b :: y,s,k+1=>by
   show (mulX c b y).getD (k+1) 0=y.getD k 0+c*y.getD (k+1) 0
   exact mulX_succ c y b k
theorem dk_add:∀ (m:Nat) (f g:List Int) (j:Nat),(dk m (padd f g)).getD j 0=(dk m f).getD j 0+(dk m g).getD j 0
 | 0,f,g,j=>padd_get f g j
 | m+1,f,g,j=>by
   show (dk m (pder (padd f g))).getD j 0=(dk m (pder f)).getD j 0+(dk m (pder g)).getD j 0
   rw [← dk_add m,dk_congr m fun k=>?_]
   rw [pder_getD,padd_get,padd_get,pder_getD,pder_getD]
   grind
theorem ev_dk_add (m:Nat) (f g:List Int) (c:Int):ev (dk m (padd f g)) c=ev (dk m f) c+ev (dk m g) c:=by
 rw [← ev_padd]
 exact ev_congr (fun j=>by rw [dk_add,padd_get]) c
theorem pder_cons (a:Int) (t:List Int) (k:Nat):(pder (a :: t)).getD k 0=(padd t (0 :: pder t)).getD k 0:=by
 rw [pder_getD,padd_get]
 match k with
 | 0 =>
   show t.getD 0 0*(((0:Nat):Int)+1)=t.getD 0 0+0
   push_cast
   omega
 | k+1 =>
   show t.getD (k+1) 0*(((k+1:Nat):Int)+1)=t.getD (k+1) 0+(pder t).getD k 0
   rw [pder_getD]
   push_cast
   grind
theorem ev_dk_cons (c:Int):∀ (k:Nat) (a:Int) (t:List Int),ev (dk (k+1) (a :: t)) c=((k:Int)+1)*ev (dk k t) c+c*ev (dk (k+1) t) c
 | 0,a,t=>by
   show ev (pder (a :: t)) c=(((0:Nat):Int)+1)*ev t c+c*ev (pder t) c
   rw [ev_congr (fun k=>pder_cons a t k),ev_padd,rev_cons]
   push_cast
   grind
 | k+1,a,t=>by
   show ev (dk (k+1) (pder (a :: t))) c=(((k+1:Nat):Int)+1)*ev (dk (k+1) t) c+c*ev (dk (k+1) (pder t)) c
   rw [ev_congr (fun j=>dk_congr (k+1) (fun i=>pder_cons a t i) j),ev_dk_add,ev_dk_cons c k 0 (pder t)]
   show ev (dk (k+1) t) c+(((k:Int)+1)*ev (dk (k+1) t) c+c*ev (dk (k+1) (pder t)) c)=_
   push_cast
   grind
def fct:Nat→Int
 | 0=>1
 | k+1=>((k:Int)+1)*fct k
theorem fct_pos:∀ k,0<fct k
 | 0=>by decide
 | k+1=>Int.mul_pos (by omega) (fct_pos k)
theorem hsh_dk (c:Int):∀ (p:List Int) (k:Nat),fct k*(hsh c p).getD k 0=ev (dk k p) c
 | [],k=>by
   have e:∀ (k:Nat) (g:List Int),plen g=0→ev (dk k g) c=0:=by
    intro k
    induction k with
    | zero =>
      intro g h
      show ev g c=0
      rw [ev_congr (p:=g) (q:=[]) (fun k=>by rw [getD_ge_plen _ k (by omega)];simp),ev_nil]
    | succ k ih=>intro g h;exact ih _ (by have:=plen_le (pder g);rw [pder_length] at this;omega)
   rw [e k [] rfl]
   show fct k*([]:List Int).getD k 0=0
   rw [List.getD_nil,Int.mul_zero]
 | a :: t,0=>by
   have h:=hsh_dk c t 0
   show 1*(mulX c a (hsh c t)).getD 0 0=ev (a :: t) c
   rw [mulX_zero,rev_cons,← show fct 0*(hsh c t).getD 0 0=ev t c from h]
   show 1*(a+c*(hsh c t).getD 0 0)=a+c*(1*(hsh c t).getD 0 0)
   grind
 | a :: t,k+1=>by
   have h1:=hsh_dk c t k
   have h2:=hsh_dk c t (k+1)
   show fct (k+1)*(mulX c a (hsh c t)).getD (k+1) 0=_
   rw [mulX_succ,ev_dk_cons,← h1,← h2]
   show ((k:Int)+1)*fct k*_=_+c*(((k:Int)+1)*fct k*_)
   grind
end Go.Proofs.YtjmglmgokfcgoaaGreat
namespace Go.Proofs.YtjmglmgokfcgoaaGreat
open Go.RowKit
def rowd (G:Nat→Int) (n k:Nat):List Int:=(List.range n).map fun j=>if n≤j+k then G j else 0
section
variable (G:Nat→Int) (n:Nat)
theorem rowd_length (k:Nat):(rowd G n k).length=n:=by simp [rowd]
theorem rowd_getE (k:Nat) {t:Nat} (h:t<n):(rowd G n k)[t]?=some (if n≤t+k then G t else 0):=by
 rw [rowd,List.getElem?_map,List.getElem?_range h];rfl
theorem rowd_zero:rowd G n 0=List.replicate n 0:=by
 refine List.ext_getElem? fun t=>?_
 rcases Nat.lt_or_ge t n with h | h
 ·rw [rowd_getE G n 0 h,if_neg (by omega),List.getElem?_replicate,if_pos h]
 ·rw [List.getElem?_eq_none (by rw [rowd_length];exact h),List.getElem?_eq_none (by simpa using h)]
theorem rowd_set {k:Nat} (hk:k<n):(rowd G n k).set (n-1-k) (G (n-1-k))=rowd G n (k+1):=by
 refine List.ext_getElem? fun t=>?_
 rcases Nat.lt_or_ge t n with h | h
 ·rw [rowd_getE G n (k+1) h]
  rcases Nat.decEq t (n-1-k) with hne | heq
  ·rw [List.getElem?_set_ne (by omega),rowd_getE G n k h]
   congr 1
   by_cases h1:n≤t+k
   ·rw [if_pos h1,if_pos (by omega)]
   ·rw [if_neg h1,if_neg (by omega)]
  ·subst heq
   rw [List.getElem?_set_self (by rw [rowd_length];exact h),if_pos (by omega)]
 ·rw [List.getElem?_eq_none (by rw [List.length_set,rowd_length];exact h),List.getElem?_eq_none (by rw [rowd_length];exact h)]
end
def pclr (f:List Int) (c:Int):List Int:=rowd (fun j=>f.getD j 0*c^(f.length-1-j)) f.length f.length
theorem pclr_length (f:List Int) (c:Int):(pclr f c).length=f.length:=rowd_length _ _ _
structure ShFit (f:List Int) (z:Int) (q:Nat):Prop where
 u:U64 z.natAbs
 v:q<BB
 p:0<q
 pw:∀ k,k≤f.length→Fit (((q / Nat.gcd z.natAbs q:Nat):Int)^k)
 cl:SmP (pclr f ((q / Nat.gcd z.natAbs q:Nat):Int))
 sh:ShOK (z.tdiv (Nat.gcd z.natAbs q)) (ptrim (pclr f ((q / Nat.gcd z.natAbs q:Nat):Int)))
 sm:SmP (hsh (z.tdiv (Nat.gcd z.natAbs q)) (ptrim (pclr f ((q / Nat.gcd z.natAbs q:Nat):Int))))
def nsh (f:List Int) (z:Int) (q:Nat):Nat:=(vst (hsh (z.tdiv (Nat.gcd z.natAbs q)) (ptrim (pclr f ((q / Nat.gcd z.natAbs q:Nat):Int)))) (plen (pclr f ((q / Nat.gcd z.natAbs q:Nat):Int)))).1
theorem RBox.row {W:World} {g g':Nat} {n:Bool} {A B:Option Addr} {l c m d q:Nat} {z:Int} {zs:List Int} (h:RBox W g n A l c B m d z q) (hr:PRow W g' zs) {i:Nat} (hi:i<zs.length) (hg:g≠g') (u v:Value) :
 RBox ((W.setCell ⟨g',i*2,none⟩ u).setCell ⟨g',i*2+1,none⟩ v) g n A l c B m d z q:=by
 obtain ⟨n0,A0,l0,c0,e0,e1,_⟩:=hr.elems i hi
 have k0:=h.c0
 have k1:=h.c1
 have k2:=h.c2
 have f0:=h.f0
 have f1:=h.f1
 have f2:=h.f2
 have e1':(W.setCell ⟨g',i*2,none⟩ u).cell? ⟨g',i*2+1,none⟩=some (.slice A0 l0 c0):=by
  rw [World.cell?_setCell_other W _ _ _ (by simp)];exact e1
 exact ⟨by go_simp,by go_simp,by go_simp,by go_simp,by go_simp,by go_simp,by simpa [World.setCell] using h.lt,(h.hz.store _ e0 (noDigit_bool _)).store _ e1' (noDigit_slice _ _ _),(h.hq.store _ e0 (noDigit_bool _)).store _ e1' (noDigit_slice _ _ _)⟩
set_option maxRecDepth 100000 in
set_option maxHeartbeats 4000000 in
theorem shifted_any (Af:Option Addr) (lf cf:Nat) (f:List Int) (n:Bool) (A:Option Addr) (l c:Nat) (B:Option Addr) (m d q:Nat) (z:Int) (w:World) (hf:PolyN w Af lf cf f) (ff:FitP f) (hfm:lf≤1000000) (hz:IntN w n A l c z) (hq:NatN w B m d q) (hok:ShFit f z q) :
 Calls Tryz.prog 113 #[.slice Af lf cf,.agg #[.bool n,.slice A l c,.slice B m d]] w fun e w'=>e=.returned (.int .i64 (nsh f z q:Nat))∧Below w.heap.size w w':=by
 obtain ⟨Z,hZ⟩:∃ Z,Z=z.tdiv (Nat.gcd z.natAbs q):=⟨_,rfl⟩
 obtain ⟨Q,hQ⟩:∃ Q:Nat,Q=q / Nat.gcd z.natAbs q:=⟨_,rfl⟩
 obtain ⟨u,v,p,pw,cl,sh,sm⟩:=hok
 rw [← hZ] at sh sm
 rw [← hQ] at pw cl sh sm
 obtain ⟨C,hC⟩:∃ C,C=pclr f (Q:Int):=⟨_,rfl⟩
 rw [← hC] at cl sh sm
 obtain ⟨R,hR⟩:∃ R,R=hsh Z (ptrim C):=⟨_,rfl⟩
 rw [← hR] at sm
 obtain ⟨X,hX⟩:∃ X,X=nsh f z q:=⟨_,rfl⟩
 have hX2:(vst R (plen C)).1=X:=by rw [hX,hR,hC,hZ,hQ];rfl
 rw [← hX]
 have HZ:=Lib.hid hZ
 have HQ:=Lib.hid hQ
 have HC:=Lib.hid hC
 have HR:=Lib.hid hR
 have HX:=Lib.hid hX2
 have Pw:=Lib.hid pw
 have Sh:=Lib.hid sh
 have hlf:=hf.length
 have Hlf:=Lib.hid hlf
 have hCl:C.length=lf:=by rw [hC,pclr_length];exact hlf
 have hCR:C=rowd (fun j=>f.getD j 0*(Q:Int)^(lf-1-j)) lf lf:=by rw [hC];unfold pclr;rw [hlf]
 have HCl:=Lib.hid hCl
 have HCR:=Lib.hid hCR
 have sQ:SmI (Q:Int):=by
  have:=(pw 1)
  rcases Nat.eq_zero_or_pos f.length with h0 | h0
  ·unfold SmI;rw [Int.natAbs_natCast,hQ];exact Sm.mono (nat_fit v).smn (Nat.div_le_self _ _)
  ·have h1:=pw 1 h0
   rw [Int.pow_one] at h1
   exact h1.sm
 have o1:=below_new w (rbox n A l c B m d)
 have r1:=RBox.make hz hq
 have RB:=Lib.hid r1
 have HF:=Lib.hid hf
 have Hb:=Lib.hid o1
 clear hZ hQ hC hR hX hX2 pw sh hlf hCl hCR o1 r1 hf hz hq
 go_enter Tryz.func113,Tryz.ntmps113
 go_wp2_with fail
 refine (rnormal_any _ _ _ _ _ _ _ _ _ _ RB.out.hz RB.out.hq (u64_fit u) (nat_fit v) p).mono ?_
 rintro e w1 ⟨⟨n3,A3,l3,c3,B3,m3,d3,rfl,h3,k3⟩,hb1⟩
 rw [← HZ.out] at h3
 rw [← HQ.out] at k3
 have r1:=RB.out.move hb1
 have rp:=r1.put h3 k3
 have hbP:Below w.heap.size w (put3 w1 w.heap.size n3 A3 l3 c3 B3 m3 d3):=(((Hb.out.trans (hb1.mono Hb.out.size)).setCell (p:=⟨w.heap.size,0,none⟩) (Nat.le_refl _) _).setCell (p:=⟨w.heap.size,1,none⟩) (Nat.le_refl _) _).setCell (p:=⟨w.heap.size,2,none⟩) (Nat.le_refl _) _
 have x0:=r1.c0
 have x1:=r1.c1
 have x2:=r1.c2
 have x3:=r1.f0
 have x4:=r1.f1
 have x5:=r1.f2
 have RP:=Lib.hid rp
 have Hbp:=Lib.hid hbP
 have sQn:Sm Q:=by unfold SmI at sQ;rw [Int.natAbs_natCast] at sQ;exact sQ
 obtain ⟨wp,hwp⟩:∃ wp,wp=put3 w1 w.heap.size n3 A3 l3 c3 B3 m3 d3:=⟨_,rfl⟩
 have ewp:wp=((w1.setCell ⟨w.heap.size,0,none⟩ (.bool n3)).setCell ⟨w.heap.size,1,none⟩ (.slice A3 l3 c3)).setCell ⟨w.heap.size,2,none⟩ (.slice B3 m3 d3):=hwp
 clear h3 k3 hb1 r1 rp hbP RB Hb
 go_wp2_with fail
 rw [← ewp]
 rw [← hwp] at RP Hbp
 clear ewp hwp x0 x1 x2 x3 x4 x5
 refine (from_any _ _ _ _ _ _ RP.out.hq.at_ sQn).mono ?_
 rintro e w2 ⟨n5,A5,l5,c5,rfl,h5,hb2⟩
 rw [sgn_false] at h5
 have jb:=below_new w2 (ibox n5 A5 l5 c5)
 have hbj:=hb2.trans (jb.mono hb2.size)
 have x5:=IBox.make h5
 have hlt5:w.heap.size<w2.heap.size:=Nat.lt_of_lt_of_le RP.out.lt hb2.size
 have RA:=Lib.hid (RP.out.move hbj)
 have Hb:=Lib.hid (Hbp.out.trans (hbj.mono Hbp.out.size))
 obtain ⟨g5,e5⟩:∃ g,g=w2.heap.size:=⟨_,rfl⟩
 rw [← e5] at x5 hlt5
 have I5:=Lib.hid x5
 obtain ⟨wa,hwa⟩:∃ wa,wa=w2.alloc (ibox n5 A5 l5 c5):=⟨_,rfl⟩
 have hsa:wa.heap.size=g5+1:=by rw [hwa,e5];simp
 clear h5 hb2 jb hbj x5 RP Hbp
 go_wp2_with (at_make;refine wpList_make_poly _ rfl (.tmp 15) (.tmp 15) rfl lf rfl rfl (by omega) ?_)
 rw [← hwa] at RA I5 Hb ⊢
 rw [← e5]
 intro w3 hz hb3 hsz
 have hb3':Below wa.heap.size wa w3:=by rw [hsa];exact hb3
 obtain ⟨G,hG⟩:∃ G:Nat→Int,G=fun j=>f.getD j 0*(Q:Int)^(lf-1-j):=⟨_,rfl⟩
 have hGe:∀ j,G j=f.getD j 0*(Q:Int)^(lf-1-j):=fun j=>by rw [hG]
 have hCG:C=rowd G lf lf:=by rw [hG];exact HCR.out
 rw [← rowd_zero G lf] at hz
 obtain ⟨gr,egr⟩:∃ g,g=g5+1:=⟨_,rfl⟩
 rw [← egr] at hz ⊢
 have HG:=Lib.hid hGe
 have HCG:=Lib.hid hCG
 replace RA:=Lib.hid (RA.out.move hb3')
 replace I5:=Lib.hid (I5.out.move hb3')
 replace Hb:=Lib.hid (Hb.out.trans (hb3'.mono Hb.out.size))
 have HRw:=Lib.hid hz
 have lgr:w.heap.size<gr:=by omega
 have lg5:g5<gr:=by omega
 clear hwa hsa hb3 hb3' hz e5 hG hGe hCG HCR egr
 go_wp2_with fail
 refine (iof_any 1 _ (by unfold I64;omega)).mono ?_
 rintro e w4 ⟨n7,A7,l7,c7,rfl,h7,hb4⟩
 have jb:=below_new w4 (ibox n7 A7 l7 c7)
 have hbj:=hb4.trans (jb.mono hb4.size)
 have x7:=IBox.make h7
 have hlt7:gr<w4.heap.size:=Nat.lt_of_lt_of_le HRw.out.lt hb4.size
 replace RA:=Lib.hid (RA.out.move hbj)
 replace I5:=Lib.hid (I5.out.move hbj)
 replace HRw:=Lib.hid (HRw.out.below hbj)
 replace Hb:=Lib.hid (Hb.out.trans (hbj.mono Hb.out.size))
 obtain ⟨g7,e7⟩:∃ g,g=w4.heap.size:=⟨_,rfl⟩
 rw [← e7] at x7 hlt7
 have I7:=Lib.hid x7
 have hw0:IntKind.i64.wrap ((lf:Int)-1)=(lf:Int)-1:=IntWalk.i64_in _ (by omega)
 clear h7 hb4 jb hbj x7
 go_wp2_with fail
 rw [← e7]
 clear e7 hw0
 go_loopw [8] (fun i wr=>∃ k n7 A7 l7 c7,k≤lf∧i=.int .i64 ((lf:Int)-1-(k:Int))∧PRow wr gr (rowd G lf k)∧IBox wr g7 n7 A7 l7 c7 ((Q:Int)^k)∧IBox wr g5 n5 A5 l5 c5 (Q:Int)∧RBox wr w.heap.size n3 A3 l3 c3 B3 m3 d3 Z Q∧Below w.heap.size w wr) (fun i _=>(intOf i+1).toNat)
 case atStart=>exact ⟨0,_,_,_,_,Nat.zero_le _,by go_num,HRw.out,by rw [Int.pow_zero];exact I7.out,I5.out,RA.out,Hb.out⟩
 case round =>
  clear HRw I7 I5 RA Hb
  obtain ⟨k,n7,A7,l7,c7,hk,rfl,hrow,i7,i5,ra,hb⟩:=hrel
  by_cases hlt:k<lf
  ·obtain ⟨ix,hix⟩:∃ ix:Nat,ix=lf-1-k:=⟨_,rfl⟩
   have e0:(lf:Int)-1-(k:Int)=(ix:Int):=by omega
   rw [e0]
   have hil:ix<lf:=by omega
   have hkx:k=lf-1-ix:=by omega
   obtain ⟨bf,of,rfl,hbf,hcf⟩:=HF.out.get (by omega)
   obtain ⟨nf,Ae,le,ce,f0,f1,ze⟩:=hcf ix hil
   have e1:=(hb.cell (p:=⟨bf,of+ix*2,none⟩) hbf).trans f0
   have e2:=(hb.cell (p:=⟨bf,of+ix*2+1,none⟩) hbf).trans f1
   have zf:=ze.below hb
   have d0:=i7.c0
   have d1:=i7.c1
   have hrl:(rowd G lf k).length=lf:=rowd_length _ _ _
   have hst:=rowd_set G lf hlt
   rw [← hix] at hst
   have hGi:G ix=f.getD ix 0*(Q:Int)^k:=by rw [HG.out,← hkx]
   have fk:=Pw.out k (by rw [Hlf.out];omega)
   have fe:=ff ix
   obtain ⟨ck,hck⟩:∃ c,c=(Q:Int)^k:=⟨_,rfl⟩
   have hck1:(Q:Int)^(k+1)=ck*(Q:Int):=by rw [hck,Int.pow_succ]
   rw [← hck] at fk hGi i7
   obtain ⟨el,hel⟩:∃ e,e=f.getD ix 0:=⟨_,rfl⟩
   rw [← hel] at fe hGi zf
   have HGI:=Lib.hid hGi
   have HST:=Lib.hid hst
   have HCK:=Lib.hid hck1
   have Hix:=Lib.hid hix
   have Hrow:=Lib.hid hrow
   have I7:=Lib.hid i7
   have I5:=Lib.hid i5
   have RA:=Lib.hid ra
   have Hb:=Lib.hid hb
   have ZF:=Lib.hid zf
   have hgl:=hrow.lt
   have hg7l:=i7.lt
   have nq1:bf<wr.heap.size:=by have:=hb.size;omega
   have ne1:g7≠gr:=by omega
   have ne2:gr≠g7:=by omega
   have ne3:g5≠gr:=by omega
   have ne4:g5≠g7:=by omega
   have ne5:w.heap.size≠gr:=by omega
   have ne6:w.heap.size≠g7:=by omega
   have nq2:gr≠bf:=by omega
   have nq3:g7≠bf:=by omega
   clear hrow i7 i5 ra hb zf ze hcf f0 f1 hst hGi hck hck1 hel e0 hix hkx
   go_wp2_with fail
   refine wp_region_last (S:=fun w'=>w'.cell? ⟨bf,of+ix*2,none⟩=some (.bool nf)∧w'.cell? ⟨bf,of+ix*2+1,none⟩=some (.slice Ae le ce)∧w'.cell? ⟨g7,0,none⟩=some (.bool n7)∧w'.cell? ⟨g7,1,none⟩=some (.slice A7 l7 c7)) (by kernel_rfl) (by kernel_rfl) (by (try dsimp only);go_keep) (fun hHeld=>?_)
   simp only [List.pop_toArray,List.dropLast]
   (refine tk (i:=0) (v:=?_) rfl rfl (Or.inl ⟨by rfl,?_⟩) ?_;rotate_left;(focus (intro w hSw;(try dsimp only at hSw);go_simp;(try with_reducible rfl)));(simp only [put_lit,List.set]))
   (refine tk (i:=1) (v:=?_) rfl rfl (Or.inl ⟨by rfl,?_⟩) ?_;rotate_left;(focus (intro w hSw;(try dsimp only at hSw);go_simp;(try with_reducible rfl)));(simp only [put_lit,List.set]))
   (refine tk (i:=2) (v:=?_) rfl rfl (Or.inl ⟨by rfl,?_⟩) ?_;rotate_left;(focus (intro w hSw;(try dsimp only at hSw);go_simp;(try with_reducible rfl)));(simp only [put_lit,List.set]))
   (refine tk (i:=3) (v:=?_) rfl rfl (Or.inl ⟨by rfl,?_⟩) ?_;rotate_left;(focus (intro w hSw;(try dsimp only at hSw);go_simp;(try with_reducible rfl)));(simp only [put_lit,List.set]))
   (refine tk (i:=4) (v:=?_) rfl rfl (Or.inl ⟨by rfl,?_⟩) ?_;rotate_left;(focus (intro w hSw;(try dsimp only at hSw);go_simp;(try with_reducible rfl)));(simp only [put_lit,List.set]))
   (refine tk (i:=5) (v:=?_) rfl rfl (Or.inl ⟨by rfl,?_⟩) ?_;rotate_left;(focus (intro w hSw;(try dsimp only at hSw);go_simp;(try with_reducible rfl)));(simp only [put_lit,List.set]))
   (refine tk (i:=6) (v:=?_) rfl rfl (Or.inl ⟨by rfl,?_⟩) ?_;rotate_left;(focus (intro w hSw;(try dsimp only at hSw);go_simp;(try with_reducible rfl)));(simp only [put_lit,List.set]))
   refine wpAnyH_ready (rs:=[7]) (by kernel_rfl) (by simp) ?_
   refine AllReadyH.cons rfl (fun K hK=>?_) AllReadyH.nil;go_simp
   refine (imul_any _ _ _ _ _ _ _ _ _ _ _ (ZF.out.at_.below Bel.go) (I7.out.hz.at_.below Bel.go) fe.sm fk.sm (fe.mulok _)).mono ?_
   rintro e w7 ⟨n8,A8,l8,c8,rfl,h8,hb8⟩
   rw [← HGI.out] at h8
   obtain ⟨hcx,hfx⟩:=bcellS hb8
   replace I7:=Lib.hid (I7.out.move (Below.trans Bel.go (hb8.mono (by simp<;>omega))))
   replace I5:=Lib.hid (I5.out.move (Below.trans Bel.go (hb8.mono (by simp<;>omega))))
   replace RA:=Lib.hid (RA.out.move (Below.trans Bel.go (hb8.mono (by simp<;>omega))))
   replace Hb:=Lib.hid (Hb.out.trans ((Below.trans Bel.go (hb8.mono (by simp<;>omega))).mono Hb.out.size))
   have hrw:=Hrow.out.below (Below.trans Bel.go (hb8.mono (by simp<;>omega)))
   refine hK.out _ _ ?_ (fun _=>?_)
   ·((try dsimp only);repeat' apply And.intro)<;>(rw [hcx _ (by go_simp)];go_simp)
   clear hHeld hK K hcx hfx;rename_i hHeld
   (refine tk (i:=8) (v:=?_) rfl rfl (Or.inl ⟨by rfl,?_⟩) ?_;rotate_left;(focus (intro w hSw;(try dsimp only at hSw);go_simp;(try with_reducible rfl)));(simp only [put_lit,List.set]))
   refine wpAnyH_done (by kernel_rfl) (lastQ_list rfl ?_) _
   have hr2:=hrw.set_ (i:=ix) (by rw [hrl];exact hil) h8
   rw [HST.out] at hr2
   have Hr2:=Lib.hid hr2
   have i72:=I7.out.row hrw (by rw [hrl];exact hil) ne1 (.bool n8) (.slice A8 l8 c8)
   have i52:=I5.out.row hrw (by rw [hrl];exact hil) ne3 (.bool n8) (.slice A8 l8 c8)
   have ra2:=RA.out.row hrw (by rw [hrl];exact hil) ne5 (.bool n8) (.slice A8 l8 c8)
   have hb2:=(Hb.out.setCell (p:=⟨gr,ix*2,none⟩) (by simp;omega) (.bool n8)).setCell (p:=⟨gr,ix*2+1,none⟩) (by simp;omega) (.slice A8 l8 c8)
   obtain ⟨n9,A9,l9,c9,p0,p1,_⟩:=hrw.elems ix (by rw [hrl];exact hil)
   have p2:=hrw.frozen (ix*2)
   have p3:=hrw.frozen (ix*2+1)
   obtain ⟨wq,hwq⟩:∃ wq,wq=(w7.setCell ⟨gr,ix*2,none⟩ (.bool n8)).setCell ⟨gr,ix*2+1,none⟩ (.slice A8 l8 c8):=⟨_,rfl⟩
   rw [← hwq] at Hr2 i72 i52 ra2 hb2
   have I72:=Lib.hid i72
   have I52:=Lib.hid i52
   have RA2:=Lib.hid ra2
   have HB2:=Lib.hid hb2
   have x0:=i72.c0
   have x1:=i72.c1
   have y0:=i52.c0
   have y1:=i52.c1
   rw [hwq] at x0 x1 y0 y1
   clear hHeld hr2 h8 hb8 hrw e1 e2 d0 d1 I7 I5 RA Hb Hrow ZF i72 i52 ra2 hb2
   go_wp2_with fail
   rw [← hwq]
   clear hwq x0 x1 y0 y1 p0 p1 p2 p3
   refine (imul_any _ _ _ _ _ _ _ _ _ _ _ I72.out.hz.at_ I52.out.hz.at_ fk.sm sQ (fk.mulok _)).mono ?_
   rintro e w9 ⟨n9,A9,l9,c9,rfl,h9,hb9⟩
   rw [← HCK.out] at h9
   have i7:=I72.out.move hb9
   have K0:=Lib.hid ((Hr2.out.below hb9).put (n':=n9) (A':=A9) (l':=l9) (c':=c9) i7 ne2)
   have K1:=Lib.hid (i7.put h9)
   have K2:=Lib.hid ((I52.out.move hb9).far i7 ne4 (.bool n9) (.slice A9 l9 c9))
   have K3:=Lib.hid ((RA2.out.move hb9).farI i7 ne6 (.bool n9) (.slice A9 l9 c9))
   have K4:=Lib.hid (((HB2.out.trans (hb9.mono HB2.out.size)).setCell (p:=⟨g7,0,none⟩) (by simp;omega) (.bool n9)).setCell (p:=⟨g7,1,none⟩) (by simp;omega) (.slice A9 l9 c9))
   have x0:=i7.c0
   have x1:=i7.c1
   have x2:=i7.f0
   have x3:=i7.f1
   have hwj:IntKind.i64.wrap ((ix:Int)-1)=(ix:Int)-1:=IntWalk.i64_in _ (by omega)
   clear h9 hb9 i7 I72 I52 RA2 HB2 Hr2
   go_wp2_with fail
   go_roundw
   case rel=>exact ⟨k+1,_,_,_,_,by omega,by have:=Hix.out;go_num,K0.out,K1.out,K2.out,K3.out,K4.out⟩
   case measure=>have:=Hix.out;simp [intOf]<;>omega
  ·have hkl:k=lf:=by omega
   subst hkl
   have e0:(k:Int)-1-(k:Int)=-1:=by omega
   rw [e0]
   have hCk:rowd G k k=C:=HCG.out.symm
   rw [hCk] at hrow
   have hp:=hrow.poly (cap:=k) (by rw [HCl.out];exact Nat.le_refl _)
   rw [HCl.out] at hp
   have Hp:=Lib.hid hp
   have a0:=ra.c0
   have a1:=ra.c1
   have RA:=Lib.hid ra
   have Hb:=Lib.hid hb
   clear hrow i7 i5 ra hb hp e0 hCk
   go_wp2_with fail
   refine (pshift_any ikN _ _ _ _ _ _ _ _ _ _ Hp.out RA.out.hz cl (by omega) Sh.out).mono ?_
   rintro e w9 ⟨g9,rfl,hr9,hg9,hb9⟩
   rw [← HR.out] at hr9
   have hpl9:=hr9.poly (cap:=plen C) (by rw [HR.out,hsh_length,ptrim_length];exact Nat.le_refl _)
   rw [show R.length=plen C by rw [HR.out,hsh_length,ptrim_length]] at hpl9
   have H9:=Lib.hid hpl9
   have Hb9:=Lib.hid (Hb.out.trans (hb9.mono Hb.out.size))
   have hpc:plen C≤1000000:=by have:=plen_le C;have:=HCl.out;omega
   clear hr9 hpl9 hb9 hg9 Hp RA Hb a0 a1
   go_wp2_with fail
   refine (rvar_any _ _ _ _ _ (H9.out.at_ ikN) sm (by omega)).mono ?_
   rintro e w10 ⟨rfl,hb10⟩
   rw [HX.out]
   have Hb10:=Lib.hid (Hb9.out.trans (hb10.mono Hb9.out.size))
   clear hb10 H9 Hb9
   go_wp2
   go_ret
   exact ⟨rfl,Hb10.out⟩
def nbud (f:List Int) (z:Int) (q:Nat) (z':Int) (q':Nat):Int:=if plen f=0∨¬ (z*(q':Int)<z'*(q:Int)) then 0 else (nsh (ptrim f) z q:Int)-(nsh (ptrim f) z' q':Int)
theorem nsh_le {f:List Int} (z:Int) (q:Nat):nsh f z q≤f.length:=by
 unfold nsh
 refine Nat.le_trans (vst_le _ _).1 (Nat.le_trans (plen_le _) ?_)
 rw [pclr_length];exact Nat.le_refl _
set_option maxRecDepth 100000 in
set_option maxHeartbeats 4000000 in
theorem budan_any {I:IntPred} (hI:IK I) (Af:Option Addr) (lf cf:Nat) (f:List Int) (n:Bool) (A:Option Addr) (l c:Nat) (B:Option Addr) (m d q:Nat) (z:Int) (n':Bool) (A':Option Addr) (l' c':Nat) (B':Option Addr) (m' d' q':Nat) (z':Int) (w:World) (hf:PolyP I w Af lf cf f) (hfm:lf≤1000000) (fitf:FitP f)
 (hz:IntN w n A l c z) (hq:NatN w B m d q) (hz':IntN w n' A' l' c' z') (hq':NatN w B' m' d' q') (h0:ShFit (ptrim f) z q) (h0':ShFit (ptrim f) z' q') :
 Calls Tryz.prog 40 #[.slice Af lf cf,.agg #[.bool n,.slice A l c,.slice B m d],.agg #[.bool n',.slice A' l' c',.slice B' m' d']] w fun e w'=>e=.returned (.int .i64 (nbud f z q z' q'))∧Below w.heap.size w w':=by
 have o1:=below_new w (rbox n A l c B m d)
 have o2:=below_new (w.alloc (rbox n A l c B m d)) (rbox n' A' l' c' B' m' d')
 have b2:Below w.heap.size w ((w.alloc (rbox n A l c B m d)).alloc (rbox n' A' l' c' B' m' d')):=o1.alloc (by simp) _
 have R1:=(RBox.make hz hq).move o2
 have R2:=RBox.make (hz'.below o1) (hq'.below o1)
 simp only [World.size_alloc] at R2
 have hf2:=hf.below hI b2
 replace R1:=Lib.hid R1
 replace R2:=Lib.hid R2
 have Hb:=Lib.hid b2
 have hlf:=hf.length
 have hplf:=plen_le f
 obtain ⟨V,hV⟩:∃ V,V=nbud f z q z' q':=⟨_,rfl⟩
 rw [← hV]
 have HV:=Lib.hid hV
 have H0:=Lib.hid h0
 have H0':=Lib.hid h0'
 have hu:=h0.u
 have hv:=h0.v
 have hp:=h0.p
 have hu':=h0'.u
 have hv':=h0'.v
 have hp':=h0'.p
 clear o1 o2 b2 hz hq hz' hq' hf hV h0 h0'
 go_enter Tryz.func40,Tryz.ntmps40
 go_wp2_with fail
 refine (pnormal_any hI _ _ _ _ _ hf2 fitf.smp (by omega)).mono ?_
 rintro e w1 ⟨g1,rfl,hr1,hg1,hb1⟩
 have hp1:=hr1.poly (cap:=plen f) (by rw [ptrim_length];exact Nat.le_refl _)
 rw [ptrim_length] at hp1
 have HP:=Lib.hid hp1
 replace R1:=Lib.hid (R1.out.move hb1)
 replace R2:=Lib.hid (R2.out.move hb1)
 replace Hb:=Lib.hid (Hb.out.trans (hb1.mono Hb.out.size))
 obtain ⟨L,hL⟩:∃ L,L=plen f:=⟨_,rfl⟩
 rw [← hL] at HP ⊢
 have HL:=Lib.hid hL
 clear hf2 hr1 hb1 hp1
 by_cases h1:L=0
 ·have hb0:((L:Int) == 0)=true:=by rw [h1];rfl
  have hV0:V=0:=by rw [HV.out];unfold nbud;rw [if_pos (.inl (by rw [← HL.out];exact h1))]
  have HV0:=Lib.hid hV0
  clear h1 hV0 hL
  go_wp2_with fail
  go_ret
  exact ⟨by show Ending.returned (.int .i64 0)=_;rw [HV0.out],Hb.out⟩
 ·have hb0:((L:Int) == 0)=false:=by rw [beq_eq_false_iff_ne];omega
  have x0:=R1.out.c0
  have x1:=R1.out.c1
  have x2:=R1.out.c2
  have y0:=R2.out.c0
  have y1:=R2.out.c1
  have y2:=R2.out.c2
  have H1:=Lib.hid (show 1≤plen f by omega)
  clear h1 hL
  go_wp2_with fail
  refine (rcmp_any _ _ _ _ _ _ _ _ _ _ _ _ _ _ _ _ _ _ _ R1.out.hz.at_ R1.out.hq.at_ R2.out.hz.at_ R2.out.hq.at_ (by omega) (by omega) (u64_fit hu) (nat_fit hv) (u64_fit hu') (nat_fit hv')).mono ?_
  rintro e w2 ⟨rfl,hb2⟩
  replace R1:=Lib.hid (R1.out.move hb2)
  replace R2:=Lib.hid (R2.out.move hb2)
  replace HP:=Lib.hid (HP.out.below ikN hb2)
  replace Hb:=Lib.hid (Hb.out.trans (hb2.mono Hb.out.size))
  clear hb2 x0 x1 x2 y0 y1 y2
  by_cases hlt:z*(q':Int)<z'*(q:Int)
  ·have hcm:¬ (0≤cmpz (z*(q':Int)) (z'*(q:Int))):=by unfold cmpz;rw [if_pos hlt];omega
   have x0:=R1.out.c0
   have x1:=R1.out.c1
   have x2:=R1.out.c2
   have y0:=R2.out.c0
   have y1:=R2.out.c1
   have y2:=R2.out.c2
   have hVe:V=(nsh (ptrim f) z q:Int)-(nsh (ptrim f) z' q':Int):=by
    rw [HV.out];unfold nbud
    rw [if_neg]
    rintro (h | h)
    ·have:=H1.out;omega
    ·exact h hlt
   have tfp:=fitf.trim
   have n1:=nsh_le (f:=ptrim f) z q
   have n2:=nsh_le (f:=ptrim f) z' q'
   have hptl:=ptrim_length f
   obtain ⟨p,hpp⟩:∃ p,p=ptrim f:=⟨_,rfl⟩
   rw [← hpp] at HP H0 H0' hVe tfp n1 n2 hptl
   obtain ⟨C,hC⟩:∃ C,C=cmpz (z*(q':Int)) (z'*(q:Int)):=⟨_,rfl⟩
   rw [← hC] at hcm ⊢
   obtain ⟨N1,hN1⟩:∃ N,N=nsh p z q:=⟨_,rfl⟩
   obtain ⟨N2,hN2⟩:∃ N,N=nsh p z' q':=⟨_,rfl⟩
   rw [← hN1,← hN2] at hVe
   rw [← hN1] at n1
   rw [← hN2] at n2
   have HN1:=Lib.hid hN1
   have HN2:=Lib.hid hN2
   have HVe:=Lib.hid hVe
   have hLe:L≤1000000:=by have:=HL.out;omega
   have hw:IntKind.i64.wrap ((N1:Int)-(N2:Int))=(N1:Int)-(N2:Int):=IntWalk.i64_in _ (by omega)
   obtain ⟨wb,hwb⟩:∃ wb,wb=w2:=⟨_,rfl⟩
   rw [← hwb] at R1 R2 HP Hb x0 x1 x2 y0 y1 y2 ⊢
   clear hVe hC hN1 hN2 hlt hpp hwb
   go_wp2_with fail
   go_region_held3 (fun w'=>w'.cell? ⟨w.heap.size,0,none⟩=some (.bool n)∧w'.cell? ⟨w.heap.size,1,none⟩=some (.slice A l c)∧w'.cell? ⟨w.heap.size,2,none⟩=some (.slice B m d)∧w'.cell? ⟨w.heap.size+1,0,none⟩=some (.bool n')∧w'.cell? ⟨w.heap.size+1,1,none⟩=some (.slice A' l' c')∧w'.cell? ⟨w.heap.size+1,2,none⟩=some (.slice B' m' d')) (go_keep) (first
    | (go_at_call 113;(have _hx:=G7);go_must (refine (shifted_any _ _ _ _ _ _ _ _ _ _ _ _ _ _ ?_ tfp hLe ?_ ?_ H0'.out).mono ?_;(exact ((HP.out.below ikN G7.out).below ikN Bel.go));(exact (R2.out.move G7.out).hz.below Bel.go);(exact (R2.out.move G7.out).hq.below Bel.go);rintro e w9 ⟨rfl,hb9⟩;rw [show nsh p z' q'=N2 from HN2.out.symm];have G9:Hid (Below wb.heap.size wb w9):=Lib.hid (G7.out.trans ((Below.trans Bel.go (hb9.mono (by simp<;>omega))).mono G7.out.size));obtain ⟨hcx,hfx⟩:=bcellS hb9;have j0:World.cell? w9 ⟨w.heap.size,0,none⟩=some (.bool n):=(hcx _ (by go_simp)).trans (by go_simp);have j1:World.cell? w9 ⟨w.heap.size,1,none⟩=some (.slice A l c):=(hcx _ (by go_simp)).trans (by go_simp);have j2:World.cell? w9 ⟨w.heap.size,2,none⟩=some (.slice B m d):=(hcx _ (by go_simp)).trans (by go_simp);have j3:World.cell? w9 ⟨w.heap.size+1,0,none⟩=some (.bool n'):=(hcx _ (by go_simp)).trans (by go_simp);have j4:World.cell? w9 ⟨w.heap.size+1,1,none⟩=some (.slice A' l' c'):=(hcx _ (by go_simp)).trans (by go_simp);have j5:World.cell? w9 ⟨w.heap.size+1,2,none⟩=some (.slice B' m' d'):=(hcx _ (by go_simp)).trans (by go_simp);clear hcx hfx hb9))
    | (go_at_call 113;go_must (refine (shifted_any _ _ _ _ _ _ _ _ _ _ _ _ _ _ ?_ tfp hLe ?_ ?_ H0.out).mono ?_;(exact HP.out.below ikN Bel.go);(exact R1.out.hz.below Bel.go);(exact R1.out.hq.below Bel.go);rintro e w7 ⟨rfl,hb7⟩;rw [show nsh p z q=N1 from HN1.out.symm];have G7:Hid (Below wb.heap.size wb w7):=Lib.hid (Below.trans Bel.go (hb7.mono (by simp<;>omega)));obtain ⟨hcx,hfx⟩:=bcellS hb7;have i0:World.cell? w7 ⟨w.heap.size,0,none⟩=some (.bool n):=(hcx _ (by go_simp)).trans (by go_simp);have i1:World.cell? w7 ⟨w.heap.size,1,none⟩=some (.slice A l c):=(hcx _ (by go_simp)).trans (by go_simp);have i2:World.cell? w7 ⟨w.heap.size,2,none⟩=some (.slice B m d):=(hcx _ (by go_simp)).trans (by go_simp);have i3:World.cell? w7 ⟨w.heap.size+1,0,none⟩=some (.bool n'):=(hcx _ (by go_simp)).trans (by go_simp);have i4:World.cell? w7 ⟨w.heap.size+1,1,none⟩=some (.slice A' l' c'):=(hcx _ (by go_simp)).trans (by go_simp);have i5:World.cell? w7 ⟨w.heap.size+1,2,none⟩=some (.slice B' m' d'):=(hcx _ (by go_simp)).trans (by go_simp);clear hcx hfx hb7)))
   rename_i hHeld
   have Hb9:=Lib.hid (Hb.out.trans (G9.out.mono Hb.out.size))
   clear hHeld j0 j1 j2 j3 j4 j5 i0 i1 i2 i3 i4 i5 x0 x1 x2 y0 y1 y2 R1 R2 HP Hb G7 G9
   go_wp2
   go_ret
   exact ⟨by show Ending.returned (.int .i64 ((N1:Int)-(N2:Int)))=_;rw [HVe.out],Hb9.out⟩
  ·have hcm:0≤cmpz (z*(q':Int)) (z'*(q:Int)):=by unfold cmpz;rw [if_neg hlt];split<;>omega
   have hV0:V=0:=by rw [HV.out];unfold nbud;rw [if_pos (.inr hlt)]
   have HV0:=Lib.hid hV0
   obtain ⟨C,hC⟩:∃ C,C=cmpz (z*(q':Int)) (z'*(q:Int)):=⟨_,rfl⟩
   rw [← hC] at hcm ⊢
   clear hV0 hC hlt
   go_wp2_with fail
   go_ret
   exact ⟨by show Ending.returned (.int .i64 0)=_;rw [HV0.out],Hb.out⟩
end Go.Proofs.YtjmglmgokfcgoaaGreat
namespace Go.Proofs.YtjmglmgokfcgoaaGreat
theorem vst_dv (p:List Int):∀ n k,k+n=p.length→((vst p k).1:Int)+chg (vst p k).2 ((sgl p).drop k)=chg (vst p (k+n)).2 ((sgl p).drop (k+n))+(vst p (k+n)).1:=by
 intro n
 induction n with
 | zero=>intro k _;rw [Nat.add_zero];omega
 | succ n ih =>
   intro k hk
   have h1:=ih (k+1) (by omega)
   rw [show k+(n+1)=k+1+n by omega,← h1]
   have hlt:k<(sgl p).length:=by unfold sgl;rw [List.length_map];omega
   rw [List.drop_eq_getElem_cons hlt]
   have hg:sg (p.getD k 0)=(sgl p)[k]:=by
    rw [← sgl_get,List.getD_eq_getElem?_getD,List.getElem?_eq_getElem hlt]
    rfl
   rw [show vst p (k+1)=if sg (p.getD k 0)=0 then vst p k else (if sg (p.getD k 0)=-(vst p k).2 then (vst p k).1+1 else (vst p k).1,sg (p.getD k 0)) from rfl,hg]
   generalize (sgl p)[k]=s at *
   by_cases h0:s=0
   ·rw [if_pos h0,h0,chg_zero]
   ·rw [if_neg h0]
    conv=>lhs;rw [chg,if_neg h0]
    by_cases h2:s=-(vst p k).2
    ·rw [if_pos h2,if_pos h2]
     push_cast
     omega
    ·rw [if_neg h2,if_neg h2]
theorem vst_dvar (p:List Int):((vst p p.length).1:Int)=dvar p:=by
 have h:=vst_dv p p.length 0 (by omega)
 have hl:(sgl p).length=p.length:=by unfold sgl;rw [List.length_map]
 rw [Nat.zero_add,← hl,List.drop_length,hl] at h
 have e1:chg (vst p p.length).2 []=0:=rfl
 have e2:vst p 0=(0,0):=rfl
 rw [e1,e2,List.drop_zero] at h
 simp only at h
 unfold dvar
 omega
end Go.Proofs.YtjmglmgokfcgoaaGreat
namespace Go.Proofs.YtjmglmgokfcgoaaGreat
theorem mulX_len' (c:Int):∀ (y:List Int) (s:Int),(mulX c s y).length=y.length+1
 | [],_=>rfl
 | b :: y,s=>by show (mulX c b y).length+1=y.length+1+1;rw [mulX_len' c y b]
theorem hsh_len' (c:Int):∀ f:List Int,(hsh c f).length=f.length
 | []=>rfl
 | a :: t=>by show (mulX c a (hsh c t)).length=t.length+1;rw [mulX_len',hsh_len' c t]
theorem pclr_get (f:List Int) (D:Int) (k:Nat):(pclr f D).getD k 0=if k<f.length then f.getD k 0*D^(f.length-1-k) else 0:=by
 by_cases h:k<f.length
 ·rw [if_pos h]
  unfold pclr
  rw [List.getD_eq_getElem?_getD,rowd_getE _ _ _ h,if_pos (by omega)]
  rfl
 ·rw [if_neg h,getD_out _ (by rw [pclr_length];omega)]
theorem pclr_cons (a:Int) (t:List Int) (D:Int) (k:Nat):(pclr (a :: t) D).getD k 0=(a*D^t.length :: pclr t D).getD k 0:=by
 rw [pclr_get]
 match k with
 | 0 =>
   rw [if_pos (by simp)]
   rfl
 | k+1 =>
   show _=(pclr t D).getD k 0
   rw [pclr_get]
   by_cases h:k<t.length
   ·rw [if_pos (by simp [h]),if_pos h]
    show t.getD k 0*D^(t.length+1-1-(k+1))=t.getD k 0*D^(t.length-1-k)
    rw [show t.length+1-1-(k+1)=t.length-1-k by omega]
   ·rw [if_neg (by simp;omega),if_neg h]
theorem pclr_pv {D:Int} (hD:0<D) (c:Int):∀ f:List Int,1≤f.length→pv (pclr f D) (c:Rat)=(D:Rat)^(f.length-1)*pv f ((c:Rat) / D)
 | [a],_=>by
   rw [pv_congr _ _ (pclr_cons a [] D)]
   show ((a*D^0:Int):Rat)+(c:Rat)*0=(D:Rat)^0*((a:Rat)+(c:Rat) / D*0)
   rw [Int.pow_zero,Int.mul_one,Rat.pow_zero]
   grind
 | a :: b :: t,_=>by
   have hD':(0:Rat)<D:=by exact_mod_cast hD
   have h1:=pclr_pv hD c (b :: t) (by simp)
   have h2:(c:Rat) / D*D=c:=Rat.div_mul_cancel (by grind)
   rw [pv_congr _ _ (pclr_cons a (b :: t) D),pv,h1]
   show ((a*D^(t.length+1):Int):Rat)+(c:Rat)*((D:Rat)^t.length*pv (b :: t) ((c:Rat) / D))=(D:Rat)^(t.length+1)*((a:Rat)+(c:Rat) / D*pv (b :: t) ((c:Rat) / D))
   rw [Rat.intCast_mul,Rat.intCast_pow,Rat.pow_succ]
   generalize (D:Rat)^t.length=X
   generalize pv (b :: t) ((c:Rat) / D)=Y
   generalize (c:Rat) / D=r at *
   grind
theorem pclr_der {f:List Int} (hp:plen f=f.length) (D:Int) (k:Nat):(pder (pclr f D)).getD k 0=(pclr (pder f) D).getD k 0:=by
 have hl:(pder f).length=f.length-1:=by rw [pder_length,hp]
 rw [pder_getD,pclr_get,pclr_get,hl]
 by_cases h:k+1<f.length
 ·rw [if_pos h,if_pos (by omega),pder_getD,show f.length-1-(k+1)=f.length-1-1-k by omega]
  grind
 ·rw [if_neg h,if_neg (by omega),Int.zero_mul]
theorem pclr_dk (D:Int):∀ (k:Nat) (f:List Int),plen f=f.length→k<f.length→(∀ j,(dk k (pclr f D)).getD j 0=(pclr (dk k f) D).getD j 0)∧plen (dk k f)=(dk k f).length∧(dk k f).length=f.length-k
 | 0,f,h,hk=>⟨fun _=>rfl,h,rfl⟩
 | k+1,f,h,hk=>by
   have hl:(pder f).length=f.length-1:=by rw [pder_length,h]
   obtain ⟨h1,h2,h3⟩:=pclr_dk D k (pder f) (by rw [pder_plen (by omega),hl,h]) (by omega)
   refine ⟨fun j=>?_,h2,by show (dk k (pder f)).length=_;omega⟩
   show (dk k (pder (pclr f D))).getD j 0=(pclr (dk k (pder f)) D).getD j 0
   rw [← h1,dk_congr k fun i=>pclr_der h D i]
theorem sg_pos_mul {c x:Int} (hc:0<c):sg (c*x)=sg x:=sg_mul_pos hc x
theorem sg_rat {x:Int} {y k:Rat} (hk:0<k) (h:(x:Rat)=k*y):sg x=if 0<y then 1 else if y<0 then -1 else 0:=by
 rcases sg_cases x with ⟨c,e⟩ | ⟨c,e⟩ | ⟨c,e⟩
 ·have h1:(x:Rat)<0:=by exact_mod_cast c
  have h2:y<0:=by
   rcases Classical.em (y<0) with d | d
   ·exact d
   ·have:=Rat.mul_nonneg (Rat.le_of_lt hk) (show 0≤y by grind);grind
  rw [e,if_neg (by grind),if_pos h2]
 ·have h1:(x:Rat)=0:=by rw [c];rfl
  have h2:y=0:=by
   rw [h1] at h
   rcases Rat.mul_eq_zero.1 h.symm with d | d
   ·grind
   ·exact d
  rw [e,if_neg (by grind),if_neg (by grind)]
 ·have h1:(0:Rat)<(x:Rat):=by exact_mod_cast c
  have h2:0<y:=by
   rcases Classical.em (0<y) with d | d
   ·exact d
   ·have:=Rat.mul_nonneg (Rat.le_of_lt hk) (show 0≤-y by grind);grind
  rw [e,if_pos h2]
theorem dls_get (x:Pt):∀ (n:Nat) (g:List Int) (k:Nat),((dls n g).map fun p=>sgp p x).getD k 0=if k≤n then sgp (dk k g) x else 0
 | 0,g,0=>rfl
 | 0,g,k+1=>by rw [if_neg (by omega)];rfl
 | n+1,g,0=>by rw [if_pos (by omega)];rfl
 | n+1,g,k+1=>by
   have h:=dls_get x n (pder g) k
   show ((dls n (pder g)).map fun p=>sgp p x).getD k 0=_
   rw [h]
   by_cases c:k≤n
   ·rw [if_pos c,if_pos (by omega)];rfl
   ·rw [if_neg c,if_neg (by omega)]
theorem nsh_bv {f:List Int} {n:Nat} (hp:plen f=f.length) (hn:f.length=n+1) {z:Int} {q:Nat} (hq:0<q):((nsh f z q:Nat):Int)=bv n f (Pt.of ((z:Rat) / (q:Rat))):=by
 obtain ⟨g,hg,e1,e2,_,hD,_⟩:=red_facts z hq
 unfold nsh bv
 generalize z.tdiv (Nat.gcd z.natAbs q)=c at *
 generalize q / Nat.gcd z.natAbs q=d at *
 have hD':0<((d:Nat):Int):=by omega
 have hlead:(pclr f (d:Int)).getD n 0≠0:=by
  rw [pclr_get,if_pos (by omega),show f.length-1-n=0 by omega,Int.pow_zero,Int.mul_one]
  have h0:f.getD (plen f-1) 0≠0:=plead_ne (show plen f≠0 by omega)
  rw [hp,hn,Nat.add_sub_cancel] at h0
  exact h0
 have hPl:plen (pclr f (d:Int))=(pclr f (d:Int)).length:=by
  have h1:=plen_le (pclr f (d:Int))
  have h2:=pclr_length f (d:Int)
  have h3:¬ plen (pclr f (d:Int))≤n:=fun h=>hlead (getD_ge_plen _ n h)
  omega
 have hPt:ptrim (pclr f (d:Int))=pclr f (d:Int):=by unfold ptrim;rw [hPl,List.take_length]
 have hr:(c:Rat) / (d:Int)=(z:Rat) / (q:Rat):=by
  have g1:(c:Rat)*((g:Int):Rat)=(z:Rat):=by rw [← Rat.intCast_mul,e1]
  have g2:(((d:Nat):Int):Rat)*((g:Int):Rat)=(((q:Nat):Int):Rat):=by rw [← Rat.intCast_mul,e2]
  have p1:(0:Rat)<((g:Int):Rat):=by exact_mod_cast hg
  have p2:(0:Rat)<(((d:Nat):Int):Rat):=by exact_mod_cast hD'
  have p3:(0:Rat)<(((q:Nat):Int):Rat):=by exact_mod_cast hq
  rw [show ((q:Nat):Rat)=(((q:Nat):Int):Rat) from rfl]
  have a1:(c:Rat) / (((d:Nat):Int):Rat)*(((d:Nat):Int):Rat)=c:=Rat.div_mul_cancel (by grind)
  have a2:(z:Rat) / (((q:Nat):Int):Rat)*(((q:Nat):Int):Rat)=z:=Rat.div_mul_cancel (by grind)
  generalize (c:Rat) / (((d:Nat):Int):Rat)=r1 at *
  generalize (z:Rat) / (((q:Nat):Int):Rat)=r2 at *
  rw [← g2] at a2 p3
  have a3:(r1-r2)*((((d:Nat):Int):Rat)*((g:Int):Rat))=0:=by rw [← a1] at g1;grind
  rcases Rat.mul_eq_zero.1 a3 with e | e
  ·grind
  ·grind
 rw [hPt,hPl,← hsh_len' c (pclr f (d:Int)),vst_dvar]
 unfold dvar
 refine chg_get _ _ _ fun k=>?_
 rw [sgl_get,dls_get]
 by_cases hk:k≤n
 ·rw [if_pos hk]
  obtain ⟨h1,h2,h3⟩:=pclr_dk (d:Int) k f hp (by omega)
  rw [← sg_pos_mul (fct_pos k),hsh_dk,ev_congr h1]
  unfold sgp
  rw [sgf_of (lp_pv _),← hr]
  have hDr:(0:Rat)<(((d:Nat):Int):Rat):=by exact_mod_cast hD'
  exact sg_rat (Rat.pow_pos hDr) (by rw [← pv_int,pclr_pv hD' c _ (by omega)])
 ·rw [if_neg hk,getD_out _ (by rw [hsh_len',pclr_length];omega)]
  rfl
end Go.Proofs.YtjmglmgokfcgoaaGreat
namespace Go.Proofs.YtjmglmgokfcgoaaGreat
section
variable {f:List Int} {q0 q1:Nat} {z0 z1:Int}
theorem cd_frac {z D P:Int} {q:Nat} (hq:0<q) (hD:0<D) (h:P*(q:Int)=z*D):(P:Rat) / D=(z:Rat) / (q:Rat):=by
 have h1:(0:Rat)<D:=by exact_mod_cast hD
 have h2:(0:Rat)<((q:Nat):Rat):=by exact_mod_cast hq
 have h3:(P:Rat)*((q:Nat):Rat)=(z:Rat)*D:=by exact_mod_cast congrArg (fun x:Int=>(x:Rat)) h
 have e1:(P:Rat) / D*D=P:=Rat.div_mul_cancel (by grind)
 have e2:(z:Rat) / (q:Rat)*q=z:=Rat.div_mul_cancel (by grind)
 generalize (P:Rat) / D=x at *
 generalize (z:Rat) / (q:Rat)=y at *
 have h4:(x-y)*(D*q)=0:=by grind
 have h5:(0:Rat)<D*q:=Rat.mul_pos h1 h2
 rcases Rat.mul_eq_zero.1 h4 with e | e<;>grind
theorem pmb_ne (h:plen f≠0) (tf:ptrim f=f) (hq0:0<q0) (hq1:0<q1) (hlt:z0*(q1:Int)<z1*(q0:Int)):plen (pmobius f q0 q1 z0 z1)≠0:=fun e=>by
 have h1:=mov_cont h tf hq0 hq1 hlt
 rw [pcont_zero e] at h1
 exact absurd h1 (by decide)
end
end Go.Proofs.YtjmglmgokfcgoaaGreat
namespace Go.Proofs.YtjmglmgokfcgoaaGreat
theorem upt_mu {a b:Rat} (h:a<b) {m f:List Int} (hr:∀ y (ha:Pt.of a<y) (hb:y<Pt.of b),sgp f y=0→sgp m (upt a b h y ha hb)=0) (hm:∀ y (ha:Pt.of a<y) (hb:y<Pt.of b),mult (upt a b h y ha hb) m=mult y f):∀ ys,Asc ys→(∀ y∈ys,sgp f y=0∧Pt.of a<y∧y<Pt.of b) →
 ∃ xs,Asc xs∧Mu m xs=Mu f ys∧∀ x∈xs,sgp m x=0∧Pt.of 0<x∧∃ y,y∈ys∧∃ (ha:Pt.of a<y) (hb:y<Pt.of b),x=upt a b h y ha hb
 | [],_,_=>⟨[],List.Pairwise.nil,rfl,fun x hx=>by simp at hx⟩
 | y :: ys,hA,hy=>by
   obtain ⟨h1,h2⟩:=List.pairwise_cons.1 hA
   obtain ⟨xs,x1,x2,x3⟩:=upt_mu h hr hm ys h2 fun z hz=>hy z (List.mem_cons_of_mem _ hz)
   obtain ⟨y0,ya,yb⟩:=hy y (List.mem_cons_self ..)
   refine ⟨upt a b h y ya yb :: xs,List.pairwise_cons.2 ⟨fun x hx=>?_,x1⟩,by rw [Mu_cons,Mu_cons,x2,hm],fun x hx=>?_⟩
   ·obtain ⟨_,_,z,hz,za,zb,rfl⟩:=x3 x hx
    exact upt_lt h ya yb za zb (h1 z hz)
   ·rcases List.mem_cons.1 hx with e | e
    ·exact ⟨e ▸ hr y ya yb y0,e ▸ upt_pos h y ya yb,y,List.mem_cons_self ..,ya,yb,e⟩
    ·obtain ⟨e1,e2,z,hz,e3⟩:=x3 x e
     exact ⟨e1,e2,z,List.mem_cons_of_mem _ hz,e3⟩
theorem sg_two {u v k c:Rat} (hc:0<c) (hk:0<k) (h:c*u=k*v):(if 0<v then (1:Int) else if v<0 then -1 else 0)=if 0<u then 1 else if u<0 then -1 else 0:=by
 rcases (show u<0∨u=0∨0<u by grind) with d | d | d
 ·have h2:v<0:=by
   rcases rlt_or v 0 with e | e
   ·exact e
   ·have:=Rat.mul_nonneg (Rat.le_of_lt hk) e
    have:=Rat.mul_pos hc (show 0 < -u by grind)
    grind
  rw [if_neg (by grind),if_pos h2,if_neg (by grind),if_pos d]
 ·have h2:v=0:=by
   rw [d,Rat.mul_zero] at h
   rcases Rat.mul_eq_zero.1 h.symm with e | e
   ·grind
   ·exact e
  rw [h2,d]
 ·have h2:0<v:=by
   rcases rlt_or 0 v with e | e
   ·exact e
   ·have:=Rat.mul_nonneg (Rat.le_of_lt hk) (show 0≤-v by grind)
    have:=Rat.mul_pos hc d
    grind
  rw [if_pos h2,if_pos d]
section
variable {f:List Int} {q0 q1:Nat} {z0 z1:Int}
theorem bnd_half (h:plen f≠0) (tf:ptrim f=f) (hq0:0<q0) (hq1:0<q1) (hlt:z0*(q1:Int)<z1*(q0:Int)) {xs:List Pt}
 (hx:Lst (fun y=>sgp f y=0∧Pt.of ((z0:Rat) / (q0:Rat))<y∧(y<Pt.of ((z1:Rat) / (q1:Rat))∨y=Pt.of ((z1:Rat) / (q1:Rat)))) xs) :
 ∃ j:Nat,nbud f z0 q0 z1 q1=Mu f xs+2*(j:Int):=by
 have hl:plen f=f.length:=by rw [← ptrim_length,tf]
 obtain ⟨n,hn⟩:∃ n,f.length=n+1:=⟨f.length-1,by omega⟩
 obtain ⟨j,hj⟩:=budan_fourier (show plen f=n+1 by omega) ((pt_lt hq0 hq1).2 hlt) hx
 refine ⟨j,?_⟩
 unfold nbud
 rw [if_neg (fun e=>e.elim h (fun h1=>h1 hlt)),tf,nsh_bv hl hn hq0,nsh_bv hl hn hq1]
 omega
theorem bnd_open (h:plen f≠0) (tf:ptrim f=f) (hq0:0<q0) (hq1:0<q1) (hlt:z0*(q1:Int)<z1*(q0:Int)) {ys:List Pt}
 (hy:Lst (fun y=>sgp f y=0∧Pt.of ((z0:Rat) / (q0:Rat))<y∧y<Pt.of ((z1:Rat) / (q1:Rat))) ys) :
 Mu f ys≤dvar (pmobius f q0 q1 z0 z1)∧(dvar (pmobius f q0 q1 z0 z1)-Mu f ys) % 2=0:=by
 have hne:=pmb_ne h tf hq0 hq1 hlt
 have e0:=pmobius_at h hlt tf
 obtain ⟨c1,c2,c3⟩:=cd_lo z0 z1 hq0 hq1
 rw [e0] at hne ⊢
 have hfl:plen f=f.length:=by rw [← ptrim_length,tf]
 obtain ⟨n,hn⟩:∃ n,f.length=n+1:=⟨f.length-1,by omega⟩
 have hl:1≤f.length:=by omega
 have r0:=cd_frac hq0 c1 c2
 have r1:=cd_frac hq1 c1 c3
 rw [← r0,← r1] at hy
 have hab:(cdP q0 q1 z0 z1:Rat) / (cdD q0 q1 z0 z1)<(cdQ q0 q1 z0 z1:Rat) / (cdD q0 q1 z0 z1):=by rw [r0,r1];exact (frac_lt hq0 hq1).2 hlt
 have hP:=cd_ne hq0 hq1 hlt
 have hD:(0:Rat)<(cdD q0 q1 z0 z1:Rat):=by exact_mod_cast c1
 generalize cdP q0 q1 z0 z1=P at *
 generalize cdQ q0 q1 z0 z1=Q at *
 generalize cdD q0 q1 z0 z1=D at *
 have hc:pcont (trs f P Q D (f.length-1)).1≠0:=pcont_ne (tr_ne (D:=D) (mov_lead h tf) hP (f.length-1))
 have htm:∀ k,(tm f P Q D).getD k 0=(psc (pcont (trs f P Q D (f.length-1)).1:Int) (pmob f P Q D)).getD k 0:=fun k=>by
  unfold tm pmob
  rw [psc_get,ptrim_getD,← pctd_mul]
 have hmu:∀ y (ha:Pt.of ((P:Rat) / D)<y) (hb:y<Pt.of ((Q:Rat) / D)),mult (upt _ _ hab y ha hb) (pmob f P Q D)=mult y f:=fun y ha hb=>by
  obtain ⟨t1,t2⟩:=tm_mult c1 hP hab ha hb n f hn hfl
  rw [← t2,mult_congr htm t1,mult_scale (by exact_mod_cast hc) hne]
 have hf0:=h
 have hrt:∀ y (ha:Pt.of ((P:Rat) / D)<y) (hb:y<Pt.of ((Q:Rat) / D)),sgp f y=0→sgp (pmob f P Q D) (upt _ _ hab y ha hb)=0:=fun y ha hb h0=>by
  refine Classical.byContradiction fun hcn=>?_
  have h1:=(mult_zero hne).2 hcn
  rw [hmu y ha hb] at h1
  exact (mult_zero hf0).1 h1 h0
 obtain ⟨zs,g1,g2,g3⟩:=upt_mu hab hrt hmu ys hy.1 fun y hy'=>(hy.2 y).1 hy'
 obtain ⟨xs,hx⟩:=roots_lst hne fun x=>Pt.of 0<x
 obtain ⟨d1,d2⟩:=descartes (pmob f P Q D).length (pmob f P Q D) (Nat.le_refl _) hne xs hx
 have h2:=Mu_le hne hx g1 fun x hx'=>(g3 x hx').2.1
 refine ⟨by omega,?_⟩
 -- the parity, by the signs at two points that lie outside of all roots
 obtain ⟨t1,p1,p2⟩:=pts_lo xs fun x hx'=>((hx.2 x).1 hx').2
 obtain ⟨t2,p3,p4⟩:=pts_hi xs t1
 have ht2:0<t2:=by grind
 have hsgn:∀ t:Rat,0<t→sgp f (Pt.of (phi ((P:Rat) / D) ((Q:Rat) / D) t))=sgp (pmob f P Q D) (Pt.of t):=fun t ht=>by
  have e1:=pmob_pv hl c1 (P:=P) (Q:=Q) ht
  have hc':(0:Rat)<(pcont (trs f P Q D (f.length-1)).1:Rat):=by exact_mod_cast Nat.pos_of_ne_zero hc
  have hY:(0:Rat)<(1+t)^(f.length-1):=Rat.pow_pos (by grind)
  have hX:(0:Rat)<(D:Rat)^(f.length-1):=Rat.pow_pos hD
  unfold sgp
  rw [sgf_of (lp_pv f),sgf_of (lp_pv (pmob f P Q D))]
  exact sg_two hc' (Rat.mul_pos hY hX) (by rw [e1,Rat.mul_assoc])
 have hne2:∀ t:Rat,0<t→Pt.of t ∉ xs→sgp (pmob f P Q D) (Pt.of t)≠0:=fun t ht hn' e=>hn' ((hx.2 _).2 ⟨e,Pt.of_lt_of.2 ht⟩)
 have n1:=hne2 t1 p1 fun hc'=>Pt.irr _ (p2 _ hc')
 have n2:=hne2 t2 ht2 fun hc'=>Pt.irr _ (p4 _ hc')
 have path1:=sgn_path hne xs (Pt.of t1) (Pt.of t2) (Pt.of_lt_of.2 p3) n1 n2 (hx.congr fun x=>⟨fun e=>⟨e.1,p2 x ((hx.2 x).2 e),p4 x ((hx.2 x).2 e)⟩,fun e=>⟨e.1,Pt.lt_trans (Pt.of_lt_of.2 p1) e.2.1⟩⟩)
 have hin:∀ y (hy':sgp f y=0) (ha:Pt.of ((P:Rat) / D)<y) (hb:y<Pt.of ((Q:Rat) / D)),upt _ _ hab y ha hb∈xs:=fun y hy' ha hb=>(hx.2 _).2 ⟨hrt y ha hb hy',upt_pos hab y ha hb⟩
 have path2:=sgn_path hf0 ys (Pt.of (phi _ _ t1)) (Pt.of (phi _ _ t2)) (Pt.of_lt_of.2 (phi_mono hab p1 p3)) (by rw [hsgn t1 p1];exact n1) (by rw [hsgn t2 ht2];exact n2) (hy.congr fun y=>by
  constructor
  ·rintro ⟨e1,e2,e3⟩
   have i1:=p2 _ (hin y e1 e2 e3)
   have i2:=p4 _ (hin y e1 e2 e3)
   refine ⟨e1,?_,?_⟩
   ·rw [Pt.of_lt] at i1 ⊢
    rcases i1 with c | c
    ·grind
    ·exact c
   ·rw [Pt.lt_of] at i2 ⊢
    obtain ⟨s,s1,s2⟩:=i2
    have s0:0<s:=by
     rcases rlt_or 0 s with c | c
     ·exact c
     ·exact absurd (.inl c) s2
    exact ⟨_,phi_mono hab s0 s1,fun hc'=>s2 (.inr hc')⟩
  ·rintro ⟨e1,e2,e3⟩
   exact ⟨e1,Pt.lt_trans (Pt.of_lt_of.2 (phi_lo hab p1)) e2,Pt.lt_trans e3 (Pt.of_lt_of.2 (phi_hi hab ht2))⟩)
 rw [hsgn t1 p1,hsgn t2 ht2] at path2
 rcases sgp_or (pmob f P Q D) (Pt.of t1) with e | e | e
 ·omega
 ·omega
 ·exact absurd e n1
end
end Go.Proofs.YtjmglmgokfcgoaaGreat
namespace Go.Proofs.YtjmglmgokfcgoaaGreat
open Go Go.RowKit
def PsE (w:World) (p:List Int) (vs:List Value):Prop:=∃ A l c,vs=[.slice A l c]∧I64At w A l c p
theorem PsE.below {w w':World} {p:List Int} {vs:List Value} (h:PsE w p vs) (hb:Below w.heap.size w w'):PsE w' p vs:=by
 obtain ⟨A,l,c,e,h⟩:=h
 exact ⟨A,l,c,e,h.below hb⟩
abbrev PsAt (w:World) (A:Option Addr) (l c:Nat) (ps:List (List Int)):Prop:=SlE 1 PsE w A l c ps
theorem ps_below {w w':World} {A:Option Addr} {l c:Nat} {ps:List (List Int)} (h:PsAt w A l c ps) (hb:Below w.heap.size w w'):PsAt w' A l c ps:=h.below hb fun _ _ hx=>hx.below hb
theorem ps_one {w:World} {t:TypeId} {A:Option Addr} {l c:Nat} {p:List Int} (h:I64At w A l c p):PsAt (w.alloc (.cells #[.slice A l c] t)) (some ⟨w.heap.size,0,none⟩) 1 1 [p]:=by
 have hb:=below_new w (.cells #[.slice A l c] t)
 refine ⟨rfl,Nat.le_refl _,.inr ⟨w.heap.size,0,rfl,by simp,fun i x hx=>?_⟩⟩
 match i,hx with
 | 0,hx =>
   simp at hx
   subst hx
   refine ⟨_,⟨A,l,c,rfl,h.below hb⟩,fun j v hv=>?_⟩
   match j,hv with
   | 0,hv=>simp at hv;subst hv;simp
   | j+1,hv=>simp at hv
 | i+1,hx=>simp at hx
theorem ps_two {w:World} {t:TypeId} {A:Option Addr} {l c:Nat} {p:List Int} {B:Option Addr} {m d:Nat} {q:List Int} (h:I64At w A l c p) (k:I64At w B m d q):PsAt (w.alloc (.cells #[.slice A l c,.slice B m d] t)) (some ⟨w.heap.size,0,none⟩) 2 2 [p,q]:=by
 have hb:=below_new w (.cells #[.slice A l c,.slice B m d] t)
 refine ⟨rfl,Nat.le_refl _,.inr ⟨w.heap.size,0,rfl,by simp,fun i x hx=>?_⟩⟩
 match i,hx with
 | 0,hx =>
   simp at hx
   subst hx
   refine ⟨_,⟨A,l,c,rfl,h.below hb⟩,fun j v hv=>?_⟩
   match j,hv with
   | 0,hv=>simp at hv;subst hv;simp
   | j+1,hv=>simp at hv
 | 1,hx =>
   simp at hx
   subst hx
   refine ⟨_,⟨B,m,d,rfl,k.below hb⟩,fun j v hv=>?_⟩
   match j,hv with
   | 0,hv=>simp at hv;subst hv;simp
   | j+1,hv=>simp at hv
 | i+2,hx=>simp at hx
theorem rnu_le {p:List Int} {M:Nat} (_h:plen p≠0) (hM:∀ j,(p.getD j 0).natAbs≤M):(rnu p).natAbs≤M:=by
 have h1:=rgc_bd hM (plen p)
 rw [rgc_eq] at h1
 unfold rnu
 split<;>omega
theorem gd3 {a b c:Int} {M:Nat} (ha:a.natAbs≤M) (hb:b.natAbs≤M) (hc:c.natAbs≤M) (j:Nat):(([a,b,c]:List Int).getD j 0).natAbs≤M:=by
 match j with
 | 0=>exact ha
 | 1=>exact hb
 | 2=>exact hc
 | j+3=>exact Nat.zero_le _
theorem gd2 {a b:Int} {M:Nat} (ha:a.natAbs≤M) (hb:b.natAbs≤M) (j:Nat):(([a,b]:List Int).getD j 0).natAbs≤M:=by
 match j with
 | 0=>exact ha
 | 1=>exact hb
 | j+2=>exact Nat.zero_le _
theorem rnrm_two (A:Option Addr) (len cap:Nat) (p:List Int) (w:World) (h:I64At w A len cap p) (hm:len≤1000) (h2:plen p=2) (hM:∀ j,(p.getD j 0).natAbs≤2305843009213693952) :
 Calls Tryz.prog 150 #[.slice A len cap] w fun e w'=>(∃ A',e=.returned (.tuple #[.int .i64 (rnu p),.slice A' 2 2])∧I64At w' A' 2 2 (nrm p))∧Below w.heap.size w w':=by
 refine (rnrm_any A len cap p w h hm (by omega) hM).mono ?_
 rintro e w1 ⟨rfl,hk,hb⟩
 have hk':IRow w1 w.heap.size (nrm p):=hk
 have:=hk'.at_ (cap:=2) (by rw [nrm_len,h2];exact Nat.le_refl _)
 rw [nrm_len,h2] at this
 rw [h2]
 exact ⟨⟨_,rfl,this⟩,hb⟩
set_option maxRecDepth 100000 in
set_option maxHeartbeats 8000000 in
theorem fsplit_any (A:Option Addr) (ca:Nat) (a b c:Int) (w:World) (h:I64At w A 3 ca [a,b,c]) (ha:a.natAbs≤9) (hb:b.natAbs≤9) (hc:c.natAbs≤9) :
 Calls Tryz.prog 79 #[.slice A 3 ca] w fun e w'=>(∃ u A' l' c',e=.returned (.tuple #[.int .i64 u,.slice A' l' c'])∧(u=0↔plen [a,b,c]=0)∧u.natAbs≤9∧PsAt w' A' l' c' (spl [a,b,c]))∧Below w.heap.size w w':=by
 have hM:=gd3 ha hb hc
 obtain ⟨q,hq⟩:∃ q,q=[a,b,c]:=⟨_,rfl⟩
 have hp3:plen [a,b,c]≤3:=plen_le [a,b,c]
 rw [← hq] at h hM hp3 ⊢
 clear hq
 go_enter Tryz.func79,Tryz.ntmps79
 by_cases h0:plen q=0
 ·go_wp2_with fail
  refine (rnrm_zero _ _ _ _ _ h (by omega) h0).mono ?_
  rintro e w1 ⟨rfl,rfl⟩
  have Hsp:=Lib.hid (show spl q=[] by unfold spl;rw [if_pos (by omega)])
  have H0:=Lib.hid h0
  clear h h0
  go_wp2
  refine bodyPost_ret (v:=.tuple #[.int .i64 0,.slice none 0 0]) (by simp [results,Tryz.results79,go_sem]) rfl ⟨⟨0,none,0,0,rfl,⟨fun _=>H0.out,fun _=>rfl⟩,Nat.zero_le _,by rw [Hsp.out];exact ⟨rfl,Nat.le_refl _,.inl ⟨rfl,rfl,rfl⟩⟩⟩,Bel.go⟩
 go_wp2_with fail
 refine (rnrm_any _ _ _ _ _ h (by omega) h0 (fun j=>by have:=hM j;omega)).mono ?_
 rintro e w1 ⟨rfl,hk,hb1⟩
 have hk':IRow w1 w.heap.size (nrm q):=hk
 have HM:=Lib.hid (nrm_le hM)
 have HU:=Lib.hid (show (rnu q=0↔plen q=0)∧(rnu q).natAbs≤9 from ⟨⟨fun e=>absurd e (rnu_ne h0),fun e=>absurd e h0⟩,rnu_le h0 hM⟩)
 have HL:=Lib.hid (nrm_len q)
 have HSP:=Lib.hid (show spl q=spl q from rfl)
 have HK:=Lib.hid hk'
 have Hb:=Lib.hid hb1
 obtain ⟨G,hG⟩:∃ G,G=w.heap.size:=⟨_,rfl⟩
 rw [← hG] at HK
 have HG:=Lib.hid hG
 obtain ⟨u,hu⟩:∃ u,u=rnu q:=⟨_,rfl⟩
 rw [← hu] at HU ⊢
 have hGl:G<w1.heap.size:=HK.out.lt
 clear hk hk' hb1 h hM hu
 rcases (show plen q=1∨plen q=2∨plen q=3 by omega) with e1 | e1 | e1
 ·have Hsp:=Lib.hid (show spl q=[] by unfold spl;rw [if_pos (by omega)])
  rw [e1,← hG]
  clear h0 e1 hp3 hG
  go_wp2
  refine bodyPost_ret (v:=.tuple #[.int .i64 u,.slice none 0 0]) (by simp [results,Tryz.results79,go_sem]) rfl ⟨⟨u,none,0,0,rfl,HU.out.1,HU.out.2,by rw [Hsp.out];exact ⟨rfl,Nat.le_refl _,.inl ⟨rfl,rfl,rfl⟩⟩⟩,Hb.out⟩
 ·have Hsp:=Lib.hid (show spl q=[nrm q] by unfold spl;rw [if_neg (by omega),if_pos e1])
  have HA:=Lib.hid (show I64At w1 (some ⟨G,0,none⟩) 2 2 (nrm q) by have:=HK.out.at_ (cap:=2) (by rw [HL.out,e1];exact Nat.le_refl _);rwa [HL.out,e1] at this)
  rw [e1,← hG]
  clear h0 e1 hp3 hG
  go_wp2
  refine bodyPost_ret (v:=.tuple #[.int .i64 u,.slice (some ⟨w1.heap.size,0,none⟩) 1 1]) (by simp [results,Tryz.results79,go_sem]) rfl ⟨⟨u,_,_,_,rfl,HU.out.1,HU.out.2,by rw [Hsp.out];exact ps_one HA.out⟩,Hb.out.trans ((below_new _ _).mono Hb.out.size)⟩
 ·have HA:=Lib.hid (show I64At w1 (some ⟨G,0,none⟩) 3 3 (nrm q) by have:=HK.out.at_ (cap:=3) (by rw [HL.out,e1];exact Nat.le_refl _);rwa [HL.out,e1] at this)
  have SN:=Lib.hid (show ∀ hn:(∀ s:Nat,(s:Int)*(s:Int)≠dsc (nrm q)),spl q=[nrm q] from fun hn=>by unfold spl;rw [if_neg (by omega),if_neg (by omega),sqd_none hn])
  have SS:=Lib.hid (show ∀ s:Nat,(s:Int)*(s:Int)=dsc (nrm q)→spl q=[lin1 (nrm q) (-(s:Int)),lin1 (nrm q) (s:Int)] from fun s hs=>by unfold spl;rw [if_neg (by omega),if_neg (by omega),sqd_some hs])
  have hln:(nrm q).length=3:=by rw [HL.out,e1]
  have hpos:0<(nrm q).getD 2 0:=by have:=nrm_lead h0;rwa [e1] at this
  have c0:=HK.out.cell (i:=0) (by omega)
  have c1:=HK.out.cell (i:=1) (by omega)
  have c2:=HK.out.cell (i:=2) (by omega)
  have b0:=HM.out 0
  have b1:=HM.out 1
  have b2:=HM.out 2
  obtain ⟨x0,hx0⟩:∃ x,x=(nrm q).getD 0 0:=⟨_,rfl⟩
  obtain ⟨x1,hx1⟩:∃ x,x=(nrm q).getD 1 0:=⟨_,rfl⟩
  obtain ⟨x2,hx2⟩:∃ x,x=(nrm q).getD 2 0:=⟨_,rfl⟩
  rw [← hx0] at c0 b0
  rw [← hx1] at c1 b1
  rw [← hx2] at c2 b2 hpos
  have HX:=Lib.hid (And.intro hx0 (And.intro hx1 hx2))
  obtain ⟨y1,hy1⟩:∃ y,y=x1*x1:=⟨_,rfl⟩
  obtain ⟨y2,hy2⟩:∃ y,y=4*x2:=⟨_,rfl⟩
  obtain ⟨y3,hy3⟩:∃ y,y=y2*x0:=⟨_,rfl⟩
  have m1:y1.natAbs≤81:=by rw [hy1,Int.natAbs_mul];exact Nat.mul_le_mul b1 b1
  have m3:y3.natAbs≤36*9:=by rw [hy3,Int.natAbs_mul];exact Nat.mul_le_mul (by omega) b0
  have i1:IntKind.i64.wrap y1=y1:=IntWalk.i64_in _ (by omega)
  have i2:IntKind.i64.wrap y2=y2:=IntWalk.i64_in _ (by omega)
  have i3:IntKind.i64.wrap y3=y3:=IntWalk.i64_in _ (by omega)
  have i4:IntKind.i64.wrap (y1-y3)=y1-y3:=IntWalk.i64_in _ (by omega)
  have f1:x1*x1=y1:=hy1.symm
  have f2:4*x2=y2:=hy2.symm
  have f3:y2*x0=y3:=hy3.symm
  have HD:=Lib.hid (show dsc (nrm q)=y1-y3 by unfold dsc;rw [← hx0,← hx1,← hx2,f1,f2,f3])
  rw [e1,← hG]
  clear hx0 hx1 hx2 hy1 hy2 hy3 e1 h0 hp3 hG hln
  go_wp2_with fail
  refine wp_region_held_drew (S:=fun w'=>w'.cell? ⟨G,0,none⟩=some (.int .i64 x0)∧w'.cell? ⟨G,1,none⟩=some (.int .i64 x1)∧w'.cell? ⟨G,2,none⟩=some (.int .i64 x2)) (by kernel_rfl) (by (try dsimp only);go_keep) (fun hHeld=>?_)
  (refine tk (i:=0) (v:=?_) rfl rfl (Or.inl ⟨by rfl,?_⟩) ?_;rotate_left;(focus (intro w hSw;(try dsimp only at hSw);go_simp;(try with_reducible rfl)));(simp only [put_lit,List.set]))
  (refine tk (i:=1) (v:=?_) rfl rfl (Or.inl ⟨by rfl,?_⟩) ?_;rotate_left;(focus (intro w hSw;(try dsimp only at hSw);go_simp;(try with_reducible rfl)));(simp only [put_lit,List.set]))
  (refine tk (i:=2) (v:=?_) rfl rfl (Or.inl ⟨by rfl,?_⟩) ?_;rotate_left;(focus (intro w hSw;(try dsimp only at hSw);go_simp;(try with_reducible rfl)));(simp only [put_lit,List.set]))
  (refine tk (i:=3) (v:=?_) rfl rfl (Or.inl ⟨by rfl,?_⟩) ?_;rotate_left;(focus (intro w hSw;(try dsimp only at hSw);go_simp;(try with_reducible rfl)));(simp only [put_lit,List.set]))
  (refine tk (i:=4) (v:=?_) rfl rfl (Or.inl ⟨by rfl,?_⟩) ?_;rotate_left;(focus (intro w hSw;(try dsimp only at hSw);go_simp;(try with_reducible rfl)));(simp only [put_lit,List.set]))
  (refine tk (i:=5) (v:=?_) rfl rfl (Or.inl ⟨by rfl,?_⟩) ?_;rotate_left;(focus (intro w hSw;(try dsimp only at hSw);go_simp;(try with_reducible rfl)));(simp only [put_lit,List.set]))
  (refine tk (i:=6) (v:=?_) rfl rfl (Or.inl ⟨by rfl,?_⟩) ?_;rotate_left;(focus (intro w hSw;(try dsimp only at hSw);go_simp;(try with_reducible rfl)));(simp only [put_lit,List.set]))
  (refine tk (i:=7) (v:=?_) rfl rfl (Or.inl ⟨by rfl,?_⟩) ?_;rotate_left;(focus (intro w hSw;(try dsimp only at hSw);go_simp;(try with_reducible rfl)));(simp only [put_lit,List.set]))
  (refine tk (i:=8) (v:=?_) rfl rfl (Or.inl ⟨by rfl,?_⟩) ?_;rotate_left;(focus (intro w hSw;(try dsimp only at hSw);go_simp;(try with_reducible rfl)));(simp only [put_lit,List.set]))
  (refine tk (i:=9) (v:=?_) rfl rfl (Or.inl ⟨by rfl,?_⟩) ?_;rotate_left;(focus (intro w hSw;(try dsimp only at hSw);go_simp;(try with_reducible rfl)));(simp only [put_lit,List.set]))
  (refine tk (i:=10) (v:=?_) rfl rfl (Or.inl ⟨by rfl,?_⟩) ?_;rotate_left;(focus (intro w hSw;(try dsimp only at hSw);go_simp;(try with_reducible rfl)));(simp only [put_lit,List.set]))
  (refine tk (i:=11) (v:=?_) rfl rfl (Or.inl ⟨by rfl,?_⟩) ?_;rotate_left;(focus (intro w hSw;(try dsimp only at hSw);go_simp;(try with_reducible rfl)));(simp only [put_lit,List.set]))
  (refine tk (i:=12) (v:=?_) rfl rfl (Or.inl ⟨by rfl,?_⟩) ?_;rotate_left;(focus (intro w hSw;(try dsimp only at hSw);go_simp;(try with_reducible rfl)));(simp only [put_lit,List.set]))
  (refine tk (i:=13) (v:=?_) rfl rfl (Or.inl ⟨by rfl,?_⟩) ?_;rotate_left;(focus (intro w hSw;(try dsimp only at hSw);go_simp;(try with_reducible rfl)));(simp only [put_lit,List.set]))
  (refine tk (i:=14) (v:=?_) rfl rfl (Or.inl ⟨by rfl,?_⟩) ?_;rotate_left;(focus (intro w hSw;(try dsimp only at hSw);go_simp;(try with_reducible rfl)));(simp only [put_lit,List.set]))
  (refine tk (i:=15) (v:=?_) rfl rfl (Or.inl ⟨by rfl,?_⟩) ?_;rotate_left;(focus (intro w hSw;(try dsimp only at hSw);go_simp;(try with_reducible rfl)));(simp only [put_lit,List.set]))
  (refine wpAnyH_ready (rs:=[16]) (by kernel_rfl) (by simp) ?_;refine AllReadyH.cons rfl (fun K hK=>?_) AllReadyH.nil;go_simp)
  refine (iroot_any (y1-y3) _ (by omega)).mono ?_
  rintro e w5 ⟨⟨s,rfl,hs,hsn,hst⟩,hw5⟩
  generalize hB:decide (0≤y1-y3∧(s:Int)*(s:Int)=y1-y3)=B
  have HB:=Lib.hid hB
  clear hB
  obtain rfl:=hw5
  have hsl:(s:Int)≤1000:=by omega
  refine hK.out _ _ ?_ (fun _=>?_);(focus ((try dsimp only);go_keep));clear hHeld hK K;rename_i hHeld;(try (simp only [put_lit,List.set]))
  (refine tk (i:=17) (v:=?_) rfl rfl (Or.inl ⟨by rfl,?_⟩) ?_;rotate_left;(focus (intro w hSw;(try dsimp only at hSw);go_simp;(try with_reducible rfl)));(simp only [put_lit,List.set]))
  (refine tk (i:=18) (v:=?_) rfl rfl (Or.inl ⟨by rfl,?_⟩) ?_;rotate_left;(focus (intro w hSw;(try dsimp only at hSw);go_simp;(try with_reducible rfl)));(simp only [put_lit,List.set]))
  (refine tk (i:=19) (v:=?_) rfl rfl (Or.inl ⟨by rfl,?_⟩) ?_;rotate_left;(focus (intro w hSw;(try dsimp only at hSw);go_simp;(try with_reducible rfl)));(simp only [put_lit,List.set]))
  (refine tk (i:=20) (v:=?_) rfl rfl (Or.inl ⟨by rfl,?_⟩) ?_;rotate_left;(focus (intro w hSw;(try dsimp only at hSw);go_simp;(try with_reducible rfl)));(simp only [put_lit,List.set]))
  (refine tk (i:=21) (v:=?_) rfl rfl (Or.inl ⟨by rfl,?_⟩) ?_;rotate_left;(focus (intro w hSw;(try dsimp only at hSw);go_simp;(try with_reducible rfl)));(simp only [put_lit,List.set]))
  refine wpAnyH_done (by kernel_rfl) ?_ _
  by_cases hbt:B=true
  ·subst hbt
   have hok:=of_decide_eq_true HB.out
   clear HB
   have Hsp:=Lib.hid (SS.out s (hok.2.trans HD.out.symm))
   have hs20:s≤20:=by
    refine Nat.le_of_not_lt fun hlt=>?_
    have h1:21*21≤s*s:=Nat.mul_le_mul hlt hlt
    have h2:((s*s:Nat):Int)=y1-y3:=by rw [Int.natCast_mul];exact hok.2
    omega
   have HE1:=Lib.hid (show ([x1-(s:Int),2*x2]:List Int)=[(nrm q).getD 1 0 + -(s:Int),2*(nrm q).getD 2 0] by rw [← HX.out.2.1,← HX.out.2.2];rfl)
   have HE2:=Lib.hid (show ([x1+(s:Int),2*x2]:List Int)=[(nrm q).getD 1 0+(s:Int),2*(nrm q).getD 2 0] by rw [← HX.out.2.1,← HX.out.2.2])
   have P1:=Lib.hid (show plen [x1-(s:Int),2*x2]=2 by rw [plen_cons_succ (by rw [plen_cons_one rfl (by omega)];omega),plen_cons_one rfl (by omega)])
   have P2:=Lib.hid (show plen [x1+(s:Int),2*x2]=2 by rw [plen_cons_succ (by rw [plen_cons_one rfl (by omega)];omega),plen_cons_one rfl (by omega)])
   have j1:IntKind.i64.wrap (x1-(s:Int))=x1-(s:Int):=IntWalk.i64_in _ (by omega)
   have j2:IntKind.i64.wrap (x1+(s:Int))=x1+(s:Int):=IntWalk.i64_in _ (by omega)
   have j3:IntKind.i64.wrap (2*x2)=2*x2:=IntWalk.i64_in _ (by omega)
   have D1:=Lib.hid (show ∀ j,(([x1-(s:Int),2*x2]:List Int).getD j 0).natAbs≤2305843009213693952 from fun j=>gd2 (by omega) (by omega) j)
   have D2:=Lib.hid (show ∀ j,(([x1+(s:Int),2*x2]:List Int).getD j 0).natAbs≤2305843009213693952 from fun j=>gd2 (by omega) (by omega) j)
   clear hok hHeld c0 HX hst hsn i1 i2 i3 i4 f1 f2 f3 m1 m3 b0 hsl HD SN SS
   go_wp2_with fail
   refine wp_region_held_drew (S:=fun w'=>w'.cell? ⟨G,1,none⟩=some (.int .i64 x1)∧w'.cell? ⟨G,2,none⟩=some (.int .i64 x2)) (by kernel_rfl) (by (try dsimp only);go_keep) (fun hHeld=>?_)
   (refine tk (i:=0) (v:=?_) rfl rfl (Or.inl ⟨by rfl,?_⟩) ?_;rotate_left;(focus (intro w hSw;(try dsimp only at hSw);go_simp;(try with_reducible rfl)));(simp only [put_lit,List.set]))
   (refine tk (i:=1) (v:=?_) rfl rfl (Or.inl ⟨by rfl,?_⟩) ?_;rotate_left;(focus (intro w hSw;(try dsimp only at hSw);go_simp;(try with_reducible rfl)));(simp only [put_lit,List.set]))
   (refine tk (i:=2) (v:=?_) rfl rfl (Or.inl ⟨by rfl,?_⟩) ?_;rotate_left;(focus (intro w hSw;(try dsimp only at hSw);go_simp;(try with_reducible rfl)));(simp only [put_lit,List.set]))
   (refine tk (i:=3) (v:=?_) rfl rfl (Or.inl ⟨by rfl,?_⟩) ?_;rotate_left;(focus (intro w hSw;(try dsimp only at hSw);go_simp;(try with_reducible rfl)));(simp only [put_lit,List.set]))
   (refine tk (i:=4) (v:=?_) rfl rfl (Or.inl ⟨by rfl,?_⟩) ?_;rotate_left;(focus (intro w hSw;(try dsimp only at hSw);go_simp;(try with_reducible rfl)));(simp only [put_lit,List.set]))
   (refine tk (i:=5) (v:=?_) rfl rfl (Or.inl ⟨by rfl,?_⟩) ?_;rotate_left;(focus (intro w hSw;(try dsimp only at hSw);go_simp;(try with_reducible rfl)));(simp only [put_lit,List.set]))
   (refine tk (i:=6) (v:=?_) rfl rfl (Or.inl ⟨by rfl,?_⟩) ?_;rotate_left;(focus (intro w hSw;(try dsimp only at hSw);go_simp;(try with_reducible rfl)));(simp only [put_lit,List.set]))
   (refine tk (i:=7) (v:=?_) rfl rfl (Or.inl ⟨by rfl,?_⟩) ?_;rotate_left;(focus (intro w hSw;(try dsimp only at hSw);go_simp;(try with_reducible rfl)));(simp only [put_lit,List.set]))
   (refine tk (i:=8) (v:=?_) rfl rfl (Or.inl ⟨by rfl,?_⟩) ?_;rotate_left;(focus (intro w hSw;(try dsimp only at hSw);go_simp;(try with_reducible rfl)));(simp only [put_lit,List.set]))
   refine wpAnyH_ready (rs:=[9]) (by kernel_rfl) (by simp) ?_;refine AllReadyH.cons rfl (fun K hK=>?_) AllReadyH.nil;go_simp;refine hK.out _ _ ?_ (fun _=>?_);(focus ((try dsimp only);go_keep));clear hHeld hK K;rename_i hHeld;(try (simp only [put_lit,List.set]))
   (refine wpAnyH_ready (rs:=[10]) (by kernel_rfl) (by simp) ?_;refine AllReadyH.cons rfl (fun K hK=>?_) AllReadyH.nil;go_simp)
   refine (rnrm_two _ _ _ [x1-(s:Int),2*x2] _ ((I64At.two w1 _ _).below Bel.go) (by omega) P1.out D1.out).mono ?_
   rintro e w5 ⟨⟨A5,rfl,h5⟩,hb5⟩
   have hb15:Below w1.heap.size w1 w5:=(Below.trans Bel.go (hb5.mono (by simp<;>omega)))
   have H5:=Lib.hid h5
   have c1':=(hb15.cell (p:=⟨G,1,none⟩) hGl).trans c1
   have c2':=(hb15.cell (p:=⟨G,2,none⟩) hGl).trans c2
   have hG5:G<w5.heap.size:=Nat.lt_of_lt_of_le hGl hb15.size
   have Hb5:=Lib.hid (Hb.out.trans (hb15.mono Hb.out.size))
   clear h5 hb15
   obtain ⟨hcx,hfx⟩:=bcellS hb5;refine hK.out _ _ ?_ (fun _=>?_);(focus (((try dsimp only);repeat' apply And.intro)<;>(rw [hcx _ (by go_simp)];go_simp)));clear hHeld hK K hcx hfx;rename_i hHeld;clear hb5
   (refine tk (i:=11) (v:=?_) rfl rfl (Or.inl ⟨by rfl,?_⟩) ?_;rotate_left;(focus (intro w hSw;(try dsimp only at hSw);go_simp;(try with_reducible rfl)));(simp only [put_lit,List.set]))
   (refine tk (i:=12) (v:=?_) rfl rfl (Or.inl ⟨by rfl,?_⟩) ?_;rotate_left;(focus (intro w hSw;(try dsimp only at hSw);go_simp;(try with_reducible rfl)));(simp only [put_lit,List.set]))
   (refine tk (i:=13) (v:=?_) rfl rfl (Or.inl ⟨by rfl,?_⟩) ?_;rotate_left;(focus (intro w hSw;(try dsimp only at hSw);go_simp;(try with_reducible rfl)));(simp only [put_lit,List.set]))
   (refine tk (i:=14) (v:=?_) rfl rfl (Or.inl ⟨by rfl,?_⟩) ?_;rotate_left;(focus (intro w hSw;(try dsimp only at hSw);go_simp;(try with_reducible rfl)));(simp only [put_lit,List.set]))
   (refine tk (i:=15) (v:=?_) rfl rfl (Or.inl ⟨by rfl,?_⟩) ?_;rotate_left;(focus (intro w hSw;(try dsimp only at hSw);go_simp;(try with_reducible rfl)));(simp only [put_lit,List.set]))
   refine wpAnyH_done (by kernel_rfl) ?_ _
   clear hHeld c1 c2 hGl
   go_wp2_with fail
   refine wp_region_held_drew (S:=fun w'=>w'.cell? ⟨G,1,none⟩=some (.int .i64 x1)∧w'.cell? ⟨G,2,none⟩=some (.int .i64 x2)) (by kernel_rfl) (by (try dsimp only);go_keep) (fun hHeld=>?_)
   (refine tk (i:=0) (v:=?_) rfl rfl (Or.inl ⟨by rfl,?_⟩) ?_;rotate_left;(focus (intro w hSw;(try dsimp only at hSw);go_simp;(try with_reducible rfl)));(simp only [put_lit,List.set]))
   (refine tk (i:=1) (v:=?_) rfl rfl (Or.inl ⟨by rfl,?_⟩) ?_;rotate_left;(focus (intro w hSw;(try dsimp only at hSw);go_simp;(try with_reducible rfl)));(simp only [put_lit,List.set]))
   (refine tk (i:=2) (v:=?_) rfl rfl (Or.inl ⟨by rfl,?_⟩) ?_;rotate_left;(focus (intro w hSw;(try dsimp only at hSw);go_simp;(try with_reducible rfl)));(simp only [put_lit,List.set]))
   (refine tk (i:=3) (v:=?_) rfl rfl (Or.inl ⟨by rfl,?_⟩) ?_;rotate_left;(focus (intro w hSw;(try dsimp only at hSw);go_simp;(try with_reducible rfl)));(simp only [put_lit,List.set]))
   (refine tk (i:=4) (v:=?_) rfl rfl (Or.inl ⟨by rfl,?_⟩) ?_;rotate_left;(focus (intro w hSw;(try dsimp only at hSw);go_simp;(try with_reducible rfl)));(simp only [put_lit,List.set]))
   (refine tk (i:=5) (v:=?_) rfl rfl (Or.inl ⟨by rfl,?_⟩) ?_;rotate_left;(focus (intro w hSw;(try dsimp only at hSw);go_simp;(try with_reducible rfl)));(simp only [put_lit,List.set]))
   (refine tk (i:=6) (v:=?_) rfl rfl (Or.inl ⟨by rfl,?_⟩) ?_;rotate_left;(focus (intro w hSw;(try dsimp only at hSw);go_simp;(try with_reducible rfl)));(simp only [put_lit,List.set]))
   (refine tk (i:=7) (v:=?_) rfl rfl (Or.inl ⟨by rfl,?_⟩) ?_;rotate_left;(focus (intro w hSw;(try dsimp only at hSw);go_simp;(try with_reducible rfl)));(simp only [put_lit,List.set]))
   (refine tk (i:=8) (v:=?_) rfl rfl (Or.inl ⟨by rfl,?_⟩) ?_;rotate_left;(focus (intro w hSw;(try dsimp only at hSw);go_simp;(try with_reducible rfl)));(simp only [put_lit,List.set]))
   refine wpAnyH_ready (rs:=[9]) (by kernel_rfl) (by simp) ?_;refine AllReadyH.cons rfl (fun K hK=>?_) AllReadyH.nil;go_simp;refine hK.out _ _ ?_ (fun _=>?_);(focus ((try dsimp only);go_keep));clear hHeld hK K;rename_i hHeld;(try (simp only [put_lit,List.set]))
   (refine wpAnyH_ready (rs:=[10]) (by kernel_rfl) (by simp) ?_;refine AllReadyH.cons rfl (fun K hK=>?_) AllReadyH.nil;go_simp)
   refine (rnrm_two _ _ _ [x1+(s:Int),2*x2] _ ((I64At.two w5 _ _).below Bel.go) (by omega) P2.out D2.out).mono ?_
   rintro e w6 ⟨⟨A6,rfl,h6⟩,hb6⟩
   have hb56:Below w5.heap.size w5 w6:=(Below.trans Bel.go (hb6.mono (by simp<;>omega)))
   have H6:=Lib.hid h6
   have H56:=Lib.hid (H5.out.below hb56)
   have Hb6:=Lib.hid (Hb5.out.trans (hb56.mono Hb5.out.size))
   clear h6 hb56
   obtain ⟨hcx,hfx⟩:=bcellS hb6;refine hK.out _ _ ?_ (fun _=>?_);(focus (((try dsimp only);repeat' apply And.intro)<;>(rw [hcx _ (by go_simp)];go_simp)));clear hHeld hK K hcx hfx;rename_i hHeld;clear hb6
   (refine tk (i:=11) (v:=?_) rfl rfl (Or.inl ⟨by rfl,?_⟩) ?_;rotate_left;(focus (intro w hSw;(try dsimp only at hSw);go_simp;(try with_reducible rfl)));(simp only [put_lit,List.set]))
   (refine tk (i:=12) (v:=?_) rfl rfl (Or.inl ⟨by rfl,?_⟩) ?_;rotate_left;(focus (intro w hSw;(try dsimp only at hSw);go_simp;(try with_reducible rfl)));(simp only [put_lit,List.set]))
   (refine tk (i:=13) (v:=?_) rfl rfl (Or.inl ⟨by rfl,?_⟩) ?_;rotate_left;(focus (intro w hSw;(try dsimp only at hSw);go_simp;(try with_reducible rfl)));(simp only [put_lit,List.set]))
   (refine tk (i:=14) (v:=?_) rfl rfl (Or.inl ⟨by rfl,?_⟩) ?_;rotate_left;(focus (intro w hSw;(try dsimp only at hSw);go_simp;(try with_reducible rfl)));(simp only [put_lit,List.set]))
   (refine tk (i:=15) (v:=?_) rfl rfl (Or.inl ⟨by rfl,?_⟩) ?_;rotate_left;(focus (intro w hSw;(try dsimp only at hSw);go_simp;(try with_reducible rfl)));(simp only [put_lit,List.set]))
   refine wpAnyH_done (by kernel_rfl) ?_ _
   clear hHeld c1' c2' hG5
   go_wp2
   have HF:=Lib.hid (show spl q=[nrm [x1-(s:Int),2*x2],nrm [x1+(s:Int),2*x2]] by rw [Hsp.out,HE1.out,HE2.out];rfl)
   refine bodyPost_ret (v:=.tuple #[.int .i64 u,.slice (some ⟨w6.heap.size,0,none⟩) 2 2]) (by simp [results,Tryz.results79,go_sem]) rfl ⟨⟨u,_,_,_,rfl,HU.out.1,HU.out.2,by rw [HF.out];exact ps_below (ps_two H56.out H6.out) Bel.go⟩,Hb6.out.trans ((below_new _ _).mono Hb6.out.size)⟩
  ·obtain rfl:B=false:=by simpa using hbt
   have hok:=of_decide_eq_false HB.out
   clear HB hbt
   have Hsp:=Lib.hid (SN.out fun t ht=>by
    rw [HD.out] at ht
    rcases Nat.lt_trichotomy t s with c | c | c
    ·have:=hst t c;omega
    ·subst c
     exact hok ⟨by rw [← ht];exact Int.mul_nonneg (by omega) (by omega),ht⟩
    ·have h1:s*s<t*t:=Nat.mul_self_lt_mul_self c
     have h2:((s*s:Nat):Int)<((t*t:Nat):Int):=by omega
     rw [Int.natCast_mul,Int.natCast_mul] at h2
     omega)
   clear hok hHeld c0 c1 c2 HX hst hsn
   go_wp2
   refine bodyPost_ret (v:=.tuple #[.int .i64 u,.slice (some ⟨w1.heap.size,0,none⟩) 1 1]) (by simp [results,Tryz.results79,go_sem]) rfl ⟨⟨u,_,_,_,rfl,HU.out.1,HU.out.2,by rw [Hsp.out];exact ps_below (ps_one HA.out) ((Below.refl _ _).drew)⟩,Hb.out.trans (((below_new _ _).mono Hb.out.size).drew)⟩
theorem rmul_comm (f g:List Int):rmul f g=rmul g f:=by
 rw [← rmul_trim f g,← rmul_trim g f]
 exact ptrim_ext fun k=>by
  rw [rmul_get,rmul_get]
  have h:∀ t,ev (polymul f g) t=ev (polymul g f) t:=fun t=>by rw [ev_mul,ev_mul,Int.mul_comm]
  have:=ev_inj h k
  rwa [polymul_getD,polymul_getD] at this
theorem rmul_bd3 {f g:List Int} {X Y:Nat} (hg3:g.length≤3) (hf:∀ j,(f.getD j 0).natAbs≤X) (hg:∀ j,(g.getD j 0).natAbs≤Y) (k:Nat):((rmul f g).getD k 0).natAbs≤3*(Y*X):=by
 rw [rmul_comm,rmul_get]
 have key:∀ m,(pcs g f k m).natAbs≤min m 3*(Y*X):=fun m=>by
  induction m with
  | zero=>exact Nat.zero_le _
  | succ m ih =>
    rw [pcs]
    by_cases h:m<3
    ·have h2:(g.getD m 0*f.getD (k-m) 0).natAbs≤Y*X:=by rw [Int.natAbs_mul];exact Nat.mul_le_mul (hg m) (hf (k-m))
     have h3:=Int.natAbs_add_le (pcs g f k m) (g.getD m 0*f.getD (k-m) 0)
     rw [Nat.min_eq_left (by omega)] at ih ⊢
     rw [Nat.succ_mul]
     omega
    ·rw [getD_out g (by omega),Int.zero_mul,Int.add_zero]
     rw [Nat.min_eq_right (by omega)] at ih ⊢
     exact ih
 unfold pc
 refine Nat.le_trans (key _) (Nat.mul_le_mul_right _ (Nat.min_le_right _ _))
theorem sma_abs {q:List Int} (h3:q.length=3) (h:Sma q) (j:Nat):(q.getD j 0).natAbs≤9:=by
 by_cases c:j<3
 ·have:=h j c
  omega
 ·rw [getD_out q (by omega)]
  exact Nat.zero_le _
def Tri (qs:List (List Int)):Prop:=∀ q∈qs,q.length=3∧Sma q
theorem prodf_app (P:List Int):∀ (qs:List (List Int)) (q:List Int),prodf P (qs ++ [q])=rmul (prodf P qs) q:=fun qs q=>by
 induction qs generalizing P with
 | nil=>rfl
 | cons r rs ih=>exact ih _
theorem prodf_bd:∀ (qs:List (List Int)) (P:List Int) (X:Nat),Tri qs→(∀ j,(P.getD j 0).natAbs≤X)→∀ j,((prodf P qs).getD j 0).natAbs≤27^qs.length*X
 | [],P,X,_,h,j=>by show (P.getD j 0).natAbs≤27^0*X;rw [Nat.pow_zero,Nat.one_mul];exact h j
 | q :: qs,P,X,ht,h,j=>by
   have hq:=ht q List.mem_cons_self
   have h1:=prodf_bd qs (rmul P q) (27*X) (fun r hr=>ht r (List.mem_cons_of_mem _ hr)) (fun k=>by
    have:=rmul_bd3 (X:=X) (Y:=9) (Nat.le_of_eq hq.1) h (sma_abs hq.1 hq.2) k
    omega) j
   show ((prodf (rmul P q) qs).getD j 0).natAbs≤27^(qs.length+1)*X
   rw [Nat.pow_succ,Nat.mul_assoc]
   exact h1
theorem prodf_len:∀ (qs:List (List Int)) (P:List Int) (a:Nat),Tri qs→plen P≤a+1→P.length≤a+1→(prodf P qs).length≤a+2*qs.length+1
 | [],P,a,_,_,h=>h
 | q :: qs,P,a,ht,h,_=>by
   have hq:=ht q List.mem_cons_self
   have h1:(rmul P q).length≤a+2+1:=rmul_len h (by have:=plen_le q;have:=hq.1;omega)
   have h2:=prodf_len qs (rmul P q) (a+2) (fun r hr=>ht r (List.mem_cons_of_mem _ hr)) (by have:=plen_le (rmul P q);omega) h1
   show (prodf (rmul P q) qs).length≤a+2*(qs.length+1)+1
   omega
theorem prodf_trim:∀ (qs:List (List Int)) (P:List Int),ptrim P=P→ptrim (prodf P qs)=prodf P qs
 | [],_,h=>h
 | q :: qs,_,_=>prodf_trim qs (rmul _ q) (rmul_trim _ q)
theorem one_abs (j:Nat):(([1]:List Int).getD j 0).natAbs≤1:=by
 match j with
 | 0=>exact Nat.le_refl _
 | j+1=>exact Nat.zero_le _
set_option maxRecDepth 100000 in
set_option maxHeartbeats 4000000 in
theorem fprod_any {w:World} {A:Option Addr} {la ca:Nat} {qs:List (List Int)} (h:TrAt w A la ca qs) (hl:la≤5) (ht:Tri qs) :
 Calls Tryz.prog 18 #[.slice A la ca] w fun e w'=>(∃ A' l' c',e=.returned (.slice A' l' c')∧I64At w' A' l' c' (prodf [1] qs))∧Below w.heap.size w w':=by
 have H:=Lib.hid h
 have Hl:=Lib.hid h.length
 have HT:=Lib.hid ht
 clear h ht
 go_enter Tryz.func18,Tryz.ntmps18
 go_wp2
 go_loopw [3,4] (fun s3 s4 wr=>∃ (i:Nat) (A':Option Addr) (l' c':Nat),i≤la∧s3=.slice A' l' c'∧s4=.int .i64 (i:Int)∧I64At wr A' l' c' (prodf [1] (qs.take i))∧Below w.heap.size w wr) (fun _ s4 _=>la-(intOf s4).toNat)
 case atStart=>exact ⟨0,_,_,_,Nat.zero_le _,rfl,rfl,I64At.one _ _,Bel.go⟩
 case round =>
  obtain ⟨i,A',l',c',hi,rfl,rfl,hat,hbw⟩:=hrel
  obtain ⟨wo,rfl⟩:∃ wo:World,wo=wr:=⟨_,rfl⟩
  have Hat:=Lib.hid hat
  have Hbw:=Lib.hid hbw
  by_cases hlt:i<la
  ·have Hlt:=Lib.hid hlt
   obtain ⟨b,o,rfl,hbl,hc⟩:=(H.out.below hbw).at (by omega)
   have hq:=HT.out (qs.getD i []) (by rw [List.getD_eq_getElem?_getD,List.getElem?_eq_getElem (by rw [Hl.out];exact hlt)];exact List.getElem_mem _)
   have e0:=hc i hlt 0 (by omega)
   have e1:=hc i hlt 1 (by omega)
   have e2:=hc i hlt 2 (by omega)
   rw [Nat.add_zero] at e0
   have hl3:=list3 hq.1
   have s0:=hq.2 0 (by omega)
   have s1:=hq.2 1 (by omega)
   have s2:=hq.2 2 (by omega)
   have HA:=Lib.hid (sma_abs hq.1 hq.2)
   have HN:=Lib.hid (show prodf [1] (qs.take (i+1))=rmul (prodf [1] (qs.take i)) (qs.getD i []) by rw [List.take_add_one,List.getElem?_eq_getElem (by rw [Hl.out];exact hlt),Option.toList_some,prodf_app,List.getD_eq_getElem?_getD,List.getElem?_eq_getElem (by rw [Hl.out];exact hlt)];rfl)
   obtain ⟨x0,hx0⟩:∃ x,x=(qs.getD i []).getD 0 0:=⟨_,rfl⟩
   obtain ⟨x1,hx1⟩:∃ x,x=(qs.getD i []).getD 1 0:=⟨_,rfl⟩
   obtain ⟨x2,hx2⟩:∃ x,x=(qs.getD i []).getD 2 0:=⟨_,rfl⟩
   rw [← hx0] at e0 s0 hl3
   rw [← hx1] at e1 s1 hl3
   rw [← hx2] at e2 s2 hl3
   rw [hl3] at HN HA
   have ti:(i:Int)<(la:Int):=by omega
   have tw:IntKind.i64.wrap ((i:Int)+1)=(i:Int)+1:=IntWalk.i64_in _ (by omega)
   have HTI:=Lib.hid (show Tri (qs.take i) from fun q h=>HT.out q (List.mem_of_mem_take h))
   have HLI:=Lib.hid (show (qs.take i).length≤5 by rw [List.length_take];omega)
   clear hx0 hx1 hx2 hc hq hl3 hat hbw
   clear hi hlt
   go_wp2_with fail
   refine (wid_any x0 x1 x2 _ ⟨by omega,by omega⟩ ⟨by omega,by omega⟩ ⟨by omega,by omega⟩).mono ?_
   rintro e w1 ⟨A1,c1,rfl,h1,hb1⟩
   have H1:=Lib.hid h1
   have hat1:=Lib.hid (Hat.out.below hb1)
   replace Hbw:=Lib.hid (Hbw.out.trans (hb1.mono Hbw.out.size))
   have hll:=Lib.hid (show l'≤1000 by rw [← Hat.out.length];have:=prodf_len _ [1] 0 HTI.out (by decide) (by decide);have:=HLI.out;omega)
   clear hb1 h1
   go_wp2_with fail
   refine (rmul_any _ _ _ (prodf [1] (qs.take i)) _ _ _ [x0,x1,x2] _ hat1.out H1.out hll.out (by omega) (X:=27^5) (Y:=9) (fun j=>by
    have h:=prodf_bd _ [1] 1 HTI.out one_abs j
    have h2:27^(qs.take i).length≤27^5:=Nat.pow_le_pow_right (by decide) HLI.out
    omega) HA.out (by decide)).mono ?_
   rintro e w2 ⟨A2,l2,c2,rfl,h2,_,hb2⟩
   have H2:=Lib.hid h2
   replace Hbw:=Lib.hid (Hbw.out.trans (hb2.mono Hbw.out.size))
   clear hb2 h2
   go_wp2
   go_roundw
   case rel=>exact ⟨i+1,_,_,_,Hlt.out,rfl,by go_num,by rw [HN.out];exact H2.out,Hbw.out⟩
   case measure=>have:=Hlt.out;simp [intOf];omega
  ·have ti:¬ (i:Int)<(la:Int):=by omega
   have HE:=Lib.hid (show qs.take i=qs by rw [List.take_of_length_le (by rw [Hl.out];omega)])
   clear hat hbw hi hlt
   go_wp2
   go_ret
   exact ⟨⟨_,_,_,rfl,by rw [← HE.out];exact Hat.out⟩,Hbw.out⟩
end Go.Proofs.YtjmglmgokfcgoaaGreat
namespace Go.Proofs.YtjmglmgokfcgoaaGreat
open Go Go.RowKit
def FcE (w:World) (f:List Int×Nat) (vs:List Value):Prop:=∃ A l c,vs=[.slice A l c,.int .i64 (f.2:Int)]∧I64At w A l c f.1
theorem FcE.below {w w':World} {f:List Int×Nat} {vs:List Value} (h:FcE w f vs) (hb:Below w.heap.size w w'):FcE w' f vs:=by
 obtain ⟨A,l,c,e,h⟩:=h
 exact ⟨A,l,c,e,h.below hb⟩
abbrev FsAt (w:World) (A:Option Addr) (l c:Nat) (fs:List (List Int×Nat)):Prop:=SlE 2 FcE w A l c fs
theorem fs_below {w w':World} {A:Option Addr} {l c:Nat} {fs:List (List Int×Nat)} (h:FsAt w A l c fs) (hb:Below w.heap.size w w'):FsAt w' A l c fs:=h.below hb fun _ _ hx=>hx.below hb
theorem fce_len {w:World} {f:List Int×Nat} {vs:List Value} (h:FcE w f vs):vs.length=2:=by
 obtain ⟨A,l,c,e,h⟩:=h
 rw [e];rfl
theorem nd_i64 (n:Int):Nd (.int .i64 n):=⟨(by intro n h;cases h),rfl⟩
theorem nd_slc (A:Option Addr) (l c:Nat):Nd (.slice A l c):=⟨(by intro n h;cases h),rfl⟩
theorem fce_nd {w:World} {f:List Int×Nat} {vs:List Value} (h:FcE w f vs):∀ u∈vs,Nd u:=by
 obtain ⟨A,l,c,e,h⟩:=h
 intro u hu
 rw [e] at hu
 simp at hu
 rcases hu with rfl | rfl
 ·exact nd_slc _ _ _
 ·exact nd_i64 _
def RowF (w0 w:World) (g:Nat) (fs:List (List Int×Nat)):Prop:=∀ i,i<fs.length→∃ A l c,w.cell? ⟨g,i*2,none⟩=some (.slice A l c)∧w.cell? ⟨g,i*2+1,none⟩=some (.int .i64 ((fs.getD i ([],0)).2:Int))∧I64At w0 A l c (fs.getD i ([],0)).1
theorem getD_fs {fs:List (List Int×Nat)} {i:Nat} (h:i<fs.length):fs[i]?=some (fs.getD i ([],0)):=by
 rw [List.getD_eq_getElem?_getD,List.getElem?_eq_getElem h]
 rfl
theorem RowF.sle {w0 w:World} {g n c:Nat} {fs:List (List Int×Nat)} (h:RowF w0 w g fs) (hb:Below w0.heap.size w0 w) (hg:g<w.heap.size) (hn:fs.length=n) (hc:n≤c):FsAt w (some ⟨g,0,none⟩) n c fs:=by
 refine ⟨hn,hc,.inr ⟨g,0,rfl,hg,fun i x hx=>?_⟩⟩
 have hi:i<fs.length:=(List.getElem?_eq_some_iff.1 hx).1
 obtain ⟨A,l,c,h1,h2,h3⟩:=h i hi
 rw [getD_fs hi] at hx
 cases hx
 refine ⟨_,⟨A,l,c,rfl,h3.below hb⟩,fun j v hv=>?_⟩
 match j,hv with
 | 0,hv=>simp at hv;subst hv;rw [Nat.zero_add];exact h1
 | 1,hv=>simp at hv;subst hv;rw [Nat.zero_add];exact h2
 | j+2,hv=>simp at hv
theorem fs_lay {w:World} {A:Option Addr} {l c:Nat} {fs:List (List Int×Nat)} (h:FsAt w A l c fs) (hl:0<l):∃ b o us,A=some ⟨b,o,none⟩∧b<w.heap.size∧Lay (FcE w) fs us∧∀ (j:Nat) (u:Value),us[j]?=some u→w.cell? ⟨b,o+j,none⟩=some u:=by
 rcases h.elems with ⟨h0,_⟩ | ⟨b,o,e,hb,hv⟩
 ·omega
 ·have key:∀ (fs:List (List Int×Nat)) (o:Nat),(∀ (i:Nat) (x:List Int×Nat),fs[i]?=some x→∃ vs,FcE w x vs∧∀ (j:Nat) (v:Value),vs[j]?=some v→w.cell? ⟨b,o+i*2+j,none⟩=some v)→∃ us,Lay (FcE w) fs us∧∀ (j:Nat) (u:Value),us[j]?=some u→w.cell? ⟨b,o+j,none⟩=some u:=by
   intro fs
   induction fs with
   | nil=>intro o _;exact ⟨[],rfl,fun j u h=>by simp at h⟩
   | cons r rs ih =>
     intro o hv
     obtain ⟨vs,h1,h2⟩:=hv 0 r rfl
     obtain ⟨ws,h3,h4⟩:=ih (o+2) (fun i x hx=>by
      obtain ⟨us,g1,g2⟩:=hv (i+1) x (by simpa using hx)
      exact ⟨us,g1,fun j v hv=>by rw [show o+2+i*2+j=o+(i+1)*2+j by rw [Nat.add_mul];omega];exact g2 j v hv⟩)
     have hl:=fce_len h1
     refine ⟨vs ++ ws,⟨vs,ws,h1,rfl,h3⟩,fun j u hj=>?_⟩
     rcases Nat.lt_or_ge j 2 with c | c
     ·rw [List.getElem?_append_left (by omega)] at hj
      have:=h2 j u hj
      rwa [Nat.zero_mul,Nat.add_zero] at this
     ·rw [List.getElem?_append_right (by omega),hl] at hj
      have:=h4 _ u hj
      rwa [show o+2+(j-2)=o+j by omega] at this
  obtain ⟨us,h1,h2⟩:=key fs o hv
  exact ⟨b,o,us,e,hb,h1,h2⟩
theorem fs_nd {w:World}:∀ {fs:List (List Int×Nat)} {us:List Value},Lay (FcE w) fs us→∀ u∈us,Nd u
 | [],us,h,u,hu=>by rw [show us=[] from h] at hu;cases hu
 | r :: rs,us,⟨ws,vs,h1,h2,h3⟩,u,hu=>by
   rw [h2] at hu
   rcases List.mem_append.1 hu with hu | hu
   ·exact fce_nd h1 u hu
   ·exact fs_nd h3 u hu
theorem fac_row {w0 w:World} {t base:Nat} {v:Value} {us:List Value} {fs:List (List Int×Nat)} (h:OwnE Nd 2 t base w v us) (hl:Lay (FcE w0) fs us) (h0:0<fs.length):∃ g c cs,v=.slice (some ⟨g,0,none⟩) fs.length c∧fs.length≤c∧base≤g∧Blk w g t cs∧RowF w0 w g fs:=by
 have hul:=hl.len (E:=2) fun _ _ hx=>fce_len hx
 rcases h with ⟨e,_⟩ | ⟨g,n,cap,cs,e,hb,hun,hnc,huc,hk,hsz,hcs⟩
 ·rw [e] at hul;simp at hul;omega
 ·have:n=fs.length:=by omega
  subst this
  refine ⟨g,cap,cs,e,hnc,hb,hk,fun i hi=>?_⟩
  obtain ⟨vs,⟨A,l,c,rfl,h2⟩,h3⟩:=hl.get (E:=2) (fun _ _ hx=>fce_len hx) i _ (getD_fs hi)
  exact ⟨A,l,c,huc _ _ (h3 0 _ rfl),huc _ _ (h3 1 _ rfl),h2⟩
abbrev facZero:Value:=.agg #[.slice none 0 0,.int .i64 0]
theorem info_fac:(Tryz.prog.info? 141).map (fun i=>(i.zero,i.size,i.bytes))=some (some facZero,2,32):=by kernel_rfl
theorem fac_ndz:∀ j,j<2→Nd (facZero.cells[j]!):=fun j hj=>by
 match j,hj with
 | 0,_=>exact nd_slc _ _ _
 | 1,_=>exact nd_i64 _
theorem wpList_app_fac {w:World} {ops:Array Oper} {rest:List Oper} {o:Oper} {a:Act} {Q:Exit→Act→World→Prop} (hgd:o.guard=none) (s x:Operand)
 (ho:o.op=.call { callee:=.builtin .append,args:=#[s,x],argTypes:=#[25,25] })
 (base:Nat) (v:Value) (us vs:List Value) (hs:a.eval s=v) (hown:OwnE Nd 2 141 base w v us) (hB:base≤w.heap.size)
 (ax:Addr) (m c:Nat) (hx:a.eval x=.slice (some ax) m c) (hvl:vs.length=m*2) (hxc:∀ (j:Nat) (u:Value),vs[j]?=some u→w.cell? (ax.add j)=some u) (hvn:∀ u∈vs,Nd u) (hm:0<m∨v≠.slice none 0 0) (hn:us.length+vs.length≤100000000)
 (dd:Nat) (hdd:o.dst=some dd) (h:∀ v' w',GrE Nd 2 141 base w v us vs v' w'→wpList Tryz.prog ops Q rest (a.put (some dd) v') w') :
 wpList Tryz.prog ops Q (o :: rest) a w:=by
 obtain ⟨i0,hi,hz0,hz1,hz2⟩:=info_parts info_fac
 exact wpList_plain hgd fun _ hK'=>oper_append_own s x 25 141 ho 2 i0 facZero Tryz.underlying25 hi hz0 hz1 (by rw [hz2];omega) rfl Nd (fun _ h=>h) fac_ndz (by decide) base v us vs hs hown hB ax m c hx hvl hxc hvn hm hn dd hdd fun v' w' hg=>hK' _ _ (h v' w' hg)
theorem wpList_app_nil {w:World} {ops:Array Oper} {rest:List Oper} {o:Oper} {a:Act} {Q:Exit→Act→World→Prop} (hgd:o.guard=none) (s x:Operand)
 (ho:o.op=.call { callee:=.builtin .append,args:=#[s,x],argTypes:=#[25,25] })
 (g:Nat) (hs:a.eval s=.slice (some ⟨g,0,none⟩) 0 0) (hx:a.eval x=.slice none 0 0)
 (dd:Nat) (hdd:o.dst=some dd) (h:wpList Tryz.prog ops Q rest (a.put (some dd) (.slice (some ⟨g,0,none⟩) 0 0)) w) :
 wpList Tryz.prog ops Q (o :: rest) a w:=by
 obtain ⟨i0,hi,hz0,hz1,hz2⟩:=info_parts info_fac
 refine wpList_plain hgd fun K' hK'=>?_
 rw [← hdd] at h
 have hrun:(Builtin.append_ #[25,25] o.type #[.slice (some ⟨g,0,none⟩) 0 0,.slice none 0 0]).run Tryz.prog w=.ok (.slice (some ⟨g,0,none⟩) 0 0) w:=by
  simp [Builtin.append_,run_underlying Tryz.underlying25,sizeOf,typeInfo,hi,Builtin.lenOf,Builtin.firstCells,storeCells]
 unfold Oper.wp
 simp only [execOp,ho,resolve,invoke,builtin]
 simp [hs,hx,hrun,Result.andThen]
 exact hK' _ _ h
theorem OwnE.empty {t base:Nat} (w:World) (hb:base≤w.heap.size):OwnE Nd 2 t base (w.alloc (.cells #[] t)) (.slice (some ⟨w.heap.size,0,none⟩) 0 0) [] :=
 .inr ⟨w.heap.size,0,0,#[],rfl,hb,rfl,Nat.le_refl _,fun j u h=>by simp at h,Blk.new _ _ _,rfl,fun j h=>absurd h (by omega)⟩
structure FSt (base:Nat) (w0 w:World) (v:Value) (fs:List (List Int×Nat)):Prop where
 own:∃ us,OwnE Nd 2 141 base w v us∧Lay (FcE w0) fs us
 at_:∃ g c,v=.slice (some ⟨g,0,none⟩) fs.length c∧base≤g∧g<w.heap.size∧(∀ o,w.frozen? ⟨g,o,none⟩=false)∧RowF w0 w g fs∧fs.length≤c
theorem RowF.below {w0 w w':World} {g:Nat} {fs:List (List Int×Nat)} (h:RowF w0 w g fs) (hg:g<w.heap.size) (hb:Below w.heap.size w w'):RowF w0 w' g fs:=fun i hi=>by
 obtain ⟨A,l,c,h1,h2,h3⟩:=h i hi
 exact ⟨A,l,c,(hb.cell (p:=⟨g,i*2,none⟩) hg).trans h1,(hb.cell (p:=⟨g,i*2+1,none⟩) hg).trans h2,h3⟩
theorem wpList_app_cp {w:World} {ops:Array Oper} {rest:List Oper} {o:Oper} {a:Act} {Q:Exit→Act→World→Prop} (hgd:o.guard=none) (s x:Operand)
 (ho:o.op=.call { callee:=.builtin .append,args:=#[s,x],argTypes:=#[25,25] })
 (hs:a.eval s=.slice (some ⟨w.heap.size,0,none⟩) 0 0) {A:Option Addr} {l c:Nat} {fs:List (List Int×Nat)} (hx:a.eval x=.slice A l c) (hF:FsAt w A l c fs) (hl:l≤100) (h0:l=0→A=none∧c=0)
 (dd:Nat) (hdd:o.dst=some dd) (h:∀ v' w',FSt w.heap.size w w' v' fs→Below w.heap.size w w'→wpList Tryz.prog ops Q rest (a.put (some dd) v') w') :
 wpList Tryz.prog ops Q (o :: rest) a (w.alloc (.cells #[] 141)):=by
 by_cases hz:l=0
 ·obtain ⟨rfl,rfl⟩:=h0 hz
  subst hz
  have hn:fs=[]:=List.eq_nil_of_length_eq_zero hF.length
  refine wpList_app_nil hgd s x ho w.heap.size hs hx dd hdd (h _ _ ⟨⟨[],OwnE.empty w (Nat.le_refl _),by rw [hn];rfl⟩,⟨w.heap.size,0,by rw [hn];rfl,Nat.le_refl _,(by have:=(below_new w (.cells #[] 141)).size;simp),fun o=>(Blk.new w 141 #[]).frozen o,fun i hi=>(by rw [hn] at hi;exact absurd hi (Nat.not_lt_zero _)),by rw [hn];exact Nat.le_refl _⟩⟩ (below_new _ _))
 ·obtain ⟨b,o',us,rfl,hbl,hlay,hc⟩:=fs_lay hF (by omega)
  have hul:=hlay.len (E:=2) fun _ _ hx=>fce_len hx
  have hll:=hF.length
  refine wpList_app_fac hgd s x ho w.heap.size _ [] us hs (OwnE.empty w (Nat.le_refl _)) (below_new w _).size ⟨b,o',none⟩ l c hx (by rw [hul,hll]) (fun j u hj=>by rw [Addr.add_lit];exact ((below_new w _).cell (p:=⟨b,o'+j,none⟩) hbl).trans (hc j u hj)) (fs_nd hlay) (.inl (by omega)) (by rw [hul,hll];simp;omega) dd hdd fun v1 w1 hg=>?_
  have hb:Below w.heap.size w w1:=(below_new w _).trans (hg.below (below_new w _).size)
  obtain ⟨g,c',cs,e,h1,h2,h3,h4⟩:=fac_row hg.1 hlay (by omega)
  exact h v1 w1 ⟨⟨us,hg.1,hlay⟩,⟨g,c',e,h2,h3.lt,fun o=>h3.frozen o,h4,h1⟩⟩ hb
theorem RowF.set {w0 w:World} {g i m:Nat} {p:List Int} {fs:List (List Int×Nat)} (h:RowF w0 w g fs) (hi:i<fs.length) (e:(fs.getD i ([],0))=(p,m)):RowF w0 (w.setCell ⟨g,i*2+1,none⟩ (.int .i64 ((m+1:Nat):Int))) g (fs.set i (p,m+1)):=fun k hk=>by
 rw [List.length_set] at hk
 obtain ⟨A,l,c,h1,h2,h3⟩:=h k hk
 have hne:k*2≠i*2+1:=by omega
 have n1:(w.setCell ⟨g,i*2+1,none⟩ (.int .i64 ((m+1:Nat):Int))).cell? ⟨g,k*2,none⟩=some (.slice A l c):=by go_simp
 by_cases hik:i=k
 ·subst hik
  have e2:(fs.set i (p,m+1)).getD i ([],0)=(p,m+1):=by rw [List.getD_eq_getElem?_getD,List.getElem?_set_self hi];rfl
  refine ⟨A,l,c,n1,?_,?_⟩
  ·rw [e2]
   go_simp
  ·rw [e2]
   rw [e] at h3
   exact h3
 ·have e2:(fs.set i (p,m+1)).getD k ([],0)=fs.getD k ([],0):=by rw [List.getD_eq_getElem?_getD,List.getElem?_set_ne hik,← List.getD_eq_getElem?_getD]
  have hne2:k*2+1≠i*2+1:=by omega
  refine ⟨A,l,c,n1,?_,?_⟩
  ·rw [e2]
   go_simp
  ·rw [e2]
   exact h3
theorem withf_len (p:List Int):∀ l:List (List Int×Nat),(withf l p).length≤l.length+1
 | []=>Nat.le_refl _
 | (r,m) :: l=>by
   unfold withf
   split
   ·simp
   ·have:=withf_len p l
    simp only [List.length_cons]
    omega
theorem withf_pow {p:List Int} {N:Nat}:∀ {l:List (List Int×Nat)},(∀ x∈l,x.2≤N)→∀ x∈withf l p,x.2≤N+1
 | [],_,x,hx=>by rw [List.mem_singleton.1 hx];exact Nat.le_add_left _ _
 | (r,m) :: l,h,x,hx=>by
   have h0:=h (r,m) List.mem_cons_self
   unfold withf at hx
   split at hx
   ·rcases List.mem_cons.1 hx with e | e
    ·rw [e];exact Nat.succ_le_succ h0
    ·have:=h x (List.mem_cons_of_mem _ e);omega
   ·rcases List.mem_cons.1 hx with e | e
    ·rw [e];have:m≤N:=h0;show m≤N+1;omega
    ·exact withf_pow (fun y hy=>h y (List.mem_cons_of_mem _ hy)) x e
set_option maxRecDepth 100000 in
set_option maxHeartbeats 8000000 in
theorem with_any (A:Option Addr) (l c:Nat) (fs:List (List Int×Nat)) (B:Option Addr) (lb cb:Nat) (p:List Int) (w:World) (hF:FsAt w A l c fs) (hP:I64At w B lb cb p) (hl:l≤100) (hlb:lb≤1000) (tp:ptrim p=p) (hs:∀ x∈fs,ptrim x.1=x.1∧x.1.length≤1000∧x.2≤100) (h0:l=0→A=none∧c=0) :
 Calls Tryz.prog 81 #[.slice A l c,.slice B lb cb] w fun e w'=>(∃ A' l' c',e=.returned (.slice A' l' c')∧FsAt w' A' l' c' (withf fs p)∧0<l')∧Below w.heap.size w w':=by
 have HF:=Lib.hid hF
 have HP:=Lib.hid hP
 have HS:=Lib.hid hs
 have Hll:=Lib.hid hF.length
 have Hl:=Lib.hid hl
 have H0:=Lib.hid h0
 clear hF hP hs h0 hl
 go_enter Tryz.func81,Tryz.ntmps81
 go_wp2_with (at_builtin;refine wpList_app_cp rfl (.tmp 7) (.tmp 8) rfl rfl rfl HF.out Hl.out H0.out 9 rfl ?_;intro v1 w1 hg1 hb1)
 obtain ⟨g,c1,e1,hg0,hgl,hfr,hrow,hcap⟩:=hg1.at_
 subst e1
 have HO:=Lib.hid hg1.own
 have HB1:=Lib.hid hb1
 have Hrow:=Lib.hid hrow
 have Hfr:=Lib.hid hfr
 have Hg0:=Lib.hid hg0
 have Hgl:=Lib.hid hgl
 have Hcap:=Lib.hid hcap
 obtain ⟨n,hn⟩:∃ n,n=fs.length:=⟨_,rfl⟩
 rw [← hn] at HO ⊢
 have Hn:=Lib.hid hn
 have hn100:n≤100:=by rw [hn,Hll.out];exact Hl.out
 clear hg1 hb1 hrow hfr hn hg0 hgl hcap
 have HP1:=Lib.hid (HP.out.below HB1.out)
 go_wp2
 go_loopw [6] (fun s6 wr=>∃ i:Nat,i≤n∧s6=.int .i64 (i:Int)∧(∀ j,j<i→(fs.getD j ([],0)).1≠p)∧Below w1.heap.size w1 wr) (fun s6 _=>n-(intOf s6).toNat)
 case atStart=>exact ⟨0,Nat.zero_le _,rfl,fun j hj=>absurd hj (Nat.not_lt_zero _),Below.refl _ _⟩
 case round =>
  obtain ⟨i,hi,rfl,hst,hbr⟩:=hrel
  obtain ⟨wo,rfl⟩:∃ wo:World,wo=wr:=⟨_,rfl⟩
  have Hst:=Lib.hid hst
  have Hbr:=Lib.hid hbr
  have Hi:=Lib.hid hi
  have HR:=Lib.hid (Hrow.out.below Hgl.out hbr)
  have hgo:g<wo.heap.size:=Nat.lt_of_lt_of_le Hgl.out hbr.size
  have hfo:∀ o,wo.frozen? ⟨g,o,none⟩=false:=fun o=>(hbr.frozen (p:=⟨g,o,none⟩) Hgl.out).trans (Hfr.out o)
  have Hfo:=Lib.hid hfo
  have Hgo:=Lib.hid hgo
  by_cases hlt:i<n
  ·have Hlt:=Lib.hid hlt
   obtain ⟨A1,l1,c2,k1,k2,k3⟩:=HR.out i (by rw [← Hn.out];exact hlt)
   have hmem:fs.getD i ([],0)∈fs:=by rw [List.getD_eq_getElem?_getD,List.getElem?_eq_getElem (by rw [← Hn.out];exact hlt)];exact List.getElem_mem _
   obtain ⟨q1,q2,q3⟩:=HS.out _ hmem
   obtain ⟨r,hr⟩:∃ r,r=(fs.getD i ([],0)).1:=⟨_,rfl⟩
   obtain ⟨m,hm⟩:∃ m,m=(fs.getD i ([],0)).2:=⟨_,rfl⟩
   rw [← hr] at k3 q1 q2
   rw [← hm] at k2 q3
   have Hr:=Lib.hid hr
   have Hm:=Lib.hid hm
   have k3':=Lib.hid ((k3.below HB1.out).below (hbr.mono (Nat.le_refl _)))
   have hp':=Lib.hid (HP1.out.below (hbr.mono (Nat.le_refl _)))
   have hll:=k3'.out.length
   have ti:(i:Int)<(n:Int):=by omega
   have tw:IntKind.i64.wrap ((i:Int)+1)=(i:Int)+1:=IntWalk.i64_in _ (by omega)
   have tm:IntKind.i64.wrap ((m:Int)+1)=(m:Int)+1:=IntWalk.i64_in _ (by omega)
   have hl1:l1≤1000:=by omega
   clear hr hm hst hbr hfo k3 hi hmem q2 hll
   go_wp2_with fail
   refine (same_any _ _ _ r _ _ _ p _ k3'.out hp'.out hl1 hlb q1 tp).mono ?_
   rintro e w3 ⟨rfl,hb3⟩
   have k2':=(hb3.cell (p:=⟨g,i*2+1,none⟩) hgo).trans k2
   have f2':=(hb3.frozen (p:=⟨g,i*2+1,none⟩) hgo).trans (Hfo.out _)
   have HR3:=Lib.hid (HR.out.below hgo hb3)
   have Hbr3:=Lib.hid (Hbr.out.trans (hb3.mono Hbr.out.size))
   have hg3:g<w3.heap.size:=Nat.lt_of_lt_of_le hgo hb3.size
   clear hb3 k1 k2 hgo
   by_cases hrp:r=p
   ·rw [decide_eq_true hrp]
    have hFin:=Lib.hid (show withf fs p=fs.set i (p,m+1) from withf_hit fs i m Hst.out (by
     rw [getD_fs (by rw [← Hn.out];exact Hlt.out)]
     exact congrArg some (Prod.ext (Hr.out.symm.trans hrp) Hm.out.symm)))
    have hEm:=Lib.hid (show fs.getD i ([],0)=(p,m) from Prod.ext (Hr.out.symm.trans hrp) Hm.out.symm)
    clear hrp
    go_wp2
    go_ret
    have hrow:=RowF.set HR3.out (by rw [← Hn.out];exact Hlt.out) hEm.out
    refine ⟨⟨some ⟨g,0,none⟩,n,c1,rfl,?_,by have:=Hlt.out;omega⟩,?_⟩
    ·rw [hFin.out]
     have:=hrow.sle (n:=n) (c:=c1) ((HB1.out.trans (Hbr3.out.mono HB1.out.size)).setCell (by exact Hg0.out) _) (by simpa using hg3) (by rw [List.length_set,Hn.out]) (by rw [Hn.out];exact Hcap.out)
     simpa using this
    ·have:=(HB1.out.trans (Hbr3.out.mono HB1.out.size)).setCell (p:=⟨g,i*2+1,none⟩) Hg0.out (.int .i64 ((m+1:Nat):Int))
     simpa using this
   ·rw [decide_eq_false hrp]
    have HNE:=Lib.hid hrp
    clear hrp k2' f2'
    go_wp2
    go_roundw
    case rel=>exact ⟨i+1,Hlt.out,by go_num,fun j hj=>(by
     by_cases c2:j<i
     ·exact Hst.out j c2
     ·obtain rfl:j=i:=by omega
      rw [← Hr.out]
      exact HNE.out),Hbr3.out⟩
    case measure=>have:=Hlt.out;simp [intOf];omega
  ·have ti:¬ (i:Int)<(n:Int):=by omega
   have hFin:=Lib.hid (show withf fs p=fs ++ [(p,1)] from withf_miss fs fun j hj=>Hst.out j (by rw [← Hn.out] at hj;omega))
   clear hst hbr hfo hi hlt hgo
   obtain ⟨us,hown,hlay⟩:=HO.out
   have Hown:=Lib.hid (((hown.below Hbr.out)).below (below_new wo (.cells #[.slice B lb cb,.int .i64 1] 141)))
   have Hlay:=Lib.hid hlay
   have Hul:=Lib.hid (show us.length≤200 by rw [hlay.len (E:=2) fun _ _ hx=>fce_len hx,← Hn.out];omega)
   have HpW:=Lib.hid HP.out
   have Hsz:=Lib.hid (show w.heap.size≤(wo.alloc (.cells #[.slice B lb cb,.int .i64 1] 141)).heap.size from Nat.le_trans (Nat.le_trans HB1.out.size Hbr.out.size) (below_new _ _).size)
   have Hvn:=Lib.hid (show ∀ u∈[Value.slice B lb cb,Value.int .i64 1],Nd u from fun u hu=>by
    simp at hu
    rcases hu with rfl | rfl
    ·exact nd_slc _ _ _
    ·exact nd_i64 _)
   have Hvc:=Lib.hid (show ∀ (j:Nat) (u:Value),[Value.slice B lb cb,Value.int .i64 1][j]?=some u→(wo.alloc (.cells #[.slice B lb cb,.int .i64 1] 141)).cell? ((⟨wo.heap.size,0,none⟩:Addr).add j)=some u from fun j u hj=>by
    match j,hj with
    | 0,hj=>simp at hj;subst hj;rw [Addr.add_lit];simp
    | 1,hj=>simp at hj;subst hj;rw [Addr.add_lit];simp
    | j+2,hj=>simp at hj)
   clear hown hlay
   go_wp2_with (at_builtin;refine wpList_app_fac rfl (.tmp 32) (.tmp 35) rfl w.heap.size _ us [.slice B lb cb,.int .i64 1] rfl Hown.out Hsz.out ⟨wo.heap.size,0,none⟩ 1 1 rfl rfl Hvc.out Hvn.out (.inl (by omega)) (by have:=Hul.out;simp;omega) 36 rfl ?_;intro v5 w5 hg5)
   have hb5:=hg5.below Hsz.out
   have hB:Below w.heap.size w w5:=((HB1.out.trans (Hbr.out.mono HB1.out.size)).trans ((below_new wo _).mono (Nat.le_trans HB1.out.size Hbr.out.size))).trans hb5
   have hlay5:Lay (FcE w5) (fs ++ [(p,1)]) (us ++ [.slice B lb cb,.int .i64 1]):=(Hlay.out.mono fun x vs hx=>hx.below hB).app ⟨B,lb,cb,rfl,HpW.out.below hB⟩
   obtain ⟨A5,l5,c5,e5,hs5⟩:=hg5.1.sle (by decide) hlay5 fun _ _ hx=>fce_len hx
   have Hs5:=Lib.hid hs5
   have HB5:=Lib.hid hB
   have HL5:=Lib.hid (show 0<l5 by have:=hs5.length;simp at this;omega)
   subst e5
   clear hg5 hb5 hB hlay5 hs5
   go_wp2
   go_ret
   exact ⟨⟨A5,l5,c5,rfl,by rw [hFin.out];exact Hs5.out,HL5.out⟩,HB5.out⟩
end Go.Proofs.YtjmglmgokfcgoaaGreat
namespace Go.Proofs.YtjmglmgokfcgoaaGreat
open Go Go.RowKit
theorem spl_len2 (q:List Int):(spl q).length≤2:=by
 unfold spl
 split
 ·simp
 ·split
  ·simp
  ·split<;>simp
theorem addf_len:∀ (ps:List (List Int)) (l:List (List Int×Nat)),(addf l ps).length≤l.length+ps.length
 | [],_=>Nat.le_refl _
 | p :: ps,l=>by
   have h1:=withf_len p l
   have h2:=addf_len ps (withf l p)
   show (addf (withf l p) ps).length≤l.length+(ps.length+1)
   omega
theorem facs_len:∀ (qs:List (List Int)) (l:List (List Int×Nat)),(facs l qs).length≤l.length+2*qs.length
 | [],_=>Nat.le_refl _
 | q :: qs,l=>by
   have h1:=addf_len (spl q) l
   have h2:=facs_len qs (addf l (spl q))
   have h3:=spl_len2 q
   show (facs (addf l (spl q)) qs).length≤l.length+2*(qs.length+1)
   omega
theorem addf_pow:∀ {ps:List (List Int)} {l:List (List Int×Nat)} {N:Nat},(∀ x∈l,x.2≤N)→∀ x∈addf l ps,x.2≤N+ps.length
 | [],_,_,h=>h
 | p :: ps,l,N,h=>fun x hx=>by
   have:=addf_pow (ps:=ps) (l:=withf l p) (N:=N+1) (withf_pow h) x hx
   simp only [List.length_cons]
   omega
theorem facs_pow:∀ {qs:List (List Int)} {l:List (List Int×Nat)} {N:Nat},(∀ x∈l,x.2≤N)→∀ x∈facs l qs,x.2≤N+2*qs.length
 | [],_,_,h=>h
 | q :: qs,l,N,h=>fun x hx=>by
   have:=facs_pow (qs:=qs) (l:=addf l (spl q)) (N:=N+2) (fun y hy=>by
    have h1:=addf_pow h y hy
    have h2:=spl_len2 q
    omega) x hx
   simp only [List.length_cons]
   omega
theorem addf_app (l:List (List Int×Nat)):∀ (ps:List (List Int)) (p:List Int),addf l (ps ++ [p])=withf (addf l ps) p:=fun ps p=>by
 induction ps generalizing l with
 | nil=>rfl
 | cons r rs ih=>exact ih _
theorem facs_app (l:List (List Int×Nat)):∀ (qs:List (List Int)) (q:List Int),facs l (qs ++ [q])=addf (facs l qs) (spl q):=fun qs q=>by
 induction qs generalizing l with
 | nil=>rfl
 | cons r rs ih=>exact ih _
structure Fsm (p:List Int):Prop where
 tr:ptrim p=p
 len:p.length≤3
 bd:∀ j,(p.getD j 0).natAbs≤29
theorem fsm_nrm {q:List Int} (h3:plen q≤3) (h0:plen q≠0) (hb:∀ j,(q.getD j 0).natAbs≤29):Fsm (nrm q):=⟨by
 have h1:=nrm_plen h0
 unfold ptrim
 rw [h1,← nrm_len,List.take_length],by rw [nrm_len];exact h3,nrm_le hb⟩
theorem spl_fsm {q:List Int} (hl:q.length=3) (hs:Sma q):∀ p∈spl q,Fsm p:=fun p hp=>by
 have h9:=sma_abs hl hs
 have hp3:plen q≤3:=by have:=plen_le q;omega
 unfold spl at hp
 split at hp
 ·cases hp
 ·split at hp
  ·rw [List.mem_singleton.1 hp];exact fsm_nrm hp3 (by omega) fun j=>by have:=h9 j;omega
  ·have h0:plen q≠0:=by omega
   have hld:=nrm_lead h0
   rw [show plen q=3 by omega] at hld
   have n9:=nrm_le h9
   split at hp
   ·rename_i s hsq
    have hss:(s:Int)*(s:Int)=dsc (nrm q):=by
     unfold sqd at hsq
     split at hsq
     ·rename_i he
      cases hsq
      exact he.choose_spec
     ·cases hsq
    have hs20:s≤20:=by
     refine Nat.le_of_not_lt fun hlt=>?_
     have h1:21*21≤s*s:=Nat.mul_le_mul hlt hlt
     have h2:((s*s:Nat):Int)=dsc (nrm q):=by rw [Int.natCast_mul];exact hss
     have m1:((nrm q).getD 1 0*(nrm q).getD 1 0).natAbs≤9*9:=by rw [Int.natAbs_mul];exact Nat.mul_le_mul (n9 1) (n9 1)
     have m2:(4*(nrm q).getD 2 0*(nrm q).getD 0 0).natAbs≤36*9:=by rw [Int.natAbs_mul];exact Nat.mul_le_mul (by have:=n9 2;omega) (n9 0)
     unfold dsc at h2
     omega
    have key:∀ z:Int,z.natAbs≤20→Fsm (lin1 (nrm q) z):=fun z hz=>by
     have hp2:plen [(nrm q).getD 1 0+z,2*(nrm q).getD 2 0]=2:=by rw [plen_cons_succ (by rw [plen_cons_one rfl (by have:0<(nrm q).getD 2 0:=hld;omega)];omega),plen_cons_one rfl (by have:0<(nrm q).getD 2 0:=hld;omega)]
     exact fsm_nrm (by omega) (by omega) fun j=>gd2 (by have:=n9 1;omega) (by have:=n9 2;omega) j
    rcases List.mem_cons.1 hp with e | e
    ·rw [e];exact key _ (by omega)
    ·rw [List.mem_singleton.1 e];exact key _ (by omega)
   ·rw [List.mem_singleton.1 hp];exact fsm_nrm hp3 h0 fun j=>by have:=h9 j;omega
theorem facs_fsm {qs:List (List Int)} (ht:Tri qs):∀ x∈facs [] qs,Fsm x.1:=facs_mem (fun q h=>spl_fsm (ht q h).1 (ht q h).2) (fun x hx=>by cases hx)
theorem tri_take {qs:List (List Int)} (h:Tri qs) (i:Nat):Tri (qs.take i):=fun q hq=>h q (List.mem_of_mem_take hq)
theorem facs_ok {qs:List (List Int)} (ht:Tri qs) (h5:qs.length≤5) {q:List Int} (hq:q.length=3) (hs:Sma q) (k:Nat):∀ x∈addf (facs [] qs) ((spl q).take k),ptrim x.1=x.1∧x.1.length≤1000∧x.2≤100:=fun x hx=>by
 have h1:=addf_mem (P:=Fsm) (fun p hp=>spl_fsm hq hs p (List.mem_of_mem_take hp)) (facs_fsm ht) x hx
 have h2:=addf_pow (facs_pow (qs:=qs) (l:=[]) (N:=0) (fun x hx=>by cases hx)) x hx
 have h3:=spl_len2 q
 have h4:((spl q).take k).length≤(spl q).length:=by rw [List.length_take];omega
 exact ⟨h1.tr,by have:=h1.len;omega,by omega⟩
theorem facs_ln {qs:List (List Int)} (h5:qs.length≤5) (q:List Int) (k:Nat):(addf (facs [] qs) ((spl q).take k)).length≤12:=by
 have h1:=addf_len ((spl q).take k) (facs [] qs)
 have h2:=facs_len qs []
 have h3:=spl_len2 q
 have h4:((spl q).take k).length≤(spl q).length:=by rw [List.length_take];omega
 simp only [List.length_nil] at h2
 omega
theorem tr_load {w:World} {b o i la:Nat} {qs:List (List Int)} (hc:∀ i,i<la→∀ k,k<3→w.cell? ⟨b,o+i*3+k,none⟩=some (.int .i8 ((qs.getD i []).getD k 0))) (hi:i<la) :
 w.cell? ⟨b,o+i*3,none⟩=some (.int .i8 ((qs.getD i []).getD 0 0))∧w.cell? ⟨b,o+i*3+1,none⟩=some (.int .i8 ((qs.getD i []).getD 1 0))∧w.cell? ⟨b,o+i*3+2,none⟩=some (.int .i8 ((qs.getD i []).getD 2 0)):=by
 have e0:=hc i hi 0 (by omega)
 rw [Nat.add_zero] at e0
 exact ⟨e0,hc i hi 1 (by omega),hc i hi 2 (by omega)⟩
theorem ps_at {w:World} {A:Option Addr} {l c:Nat} {ps:List (List Int)} (h:PsAt w A l c ps) {k:Nat} (hk:k<l):∃ b o A1 l1 c1,A=some ⟨b,o,none⟩∧w.cell? ⟨b,o+k,none⟩=some (.slice A1 l1 c1)∧I64At w A1 l1 c1 (ps.getD k []):=by
 rcases h.elems with ⟨h0,_⟩ | ⟨b,o,e,hb,hv⟩
 ·omega
 ·have hkl:k<ps.length:=by rw [h.length];exact hk
  have eg:ps[k]?=some (ps.getD k []):=by rw [List.getD_eq_getElem?_getD,List.getElem?_eq_getElem hkl];rfl
  obtain ⟨vs,⟨A1,l1,c1,ev,h1⟩,hc⟩:=hv k _ eg
  subst ev
  have:=hc 0 _ rfl
  rw [Nat.mul_one,Nat.add_zero] at this
  exact ⟨b,o,A1,l1,c1,e,this,h1⟩
def Zer (qs:List (List Int)):Prop:=∃ q∈qs,plen q=0
def FacR (qs:List (List Int)) (e:Ending) (w':World):Prop:=∃ u A' l' c' fs,e=.returned (.tuple #[.int .i64 u,.slice A' l' c'])∧(u=0↔Zer qs)∧FsAt w' A' l' c' fs∧(u=0→fs=[])∧(u≠0→fs=facs [] qs)
theorem take_snoc {α:Type} {l:List α} {i:Nat} (h:i<l.length) (d:α):l.take (i+1)=l.take i ++ [l.getD i d]:=by
 rw [List.take_add_one,List.getElem?_eq_getElem h,Option.toList_some,List.getD_eq_getElem?_getD,List.getElem?_eq_getElem h]
 rfl
set_option maxRecDepth 100000 in
set_option maxHeartbeats 8000000 in
theorem factors_any {w:World} {A:Option Addr} {la ca:Nat} {qs:List (List Int)} (h:TrAt w A la ca qs) (hl:la≤5) (ht:Tri qs) :
 Calls Tryz.prog 15 #[.slice A la ca] w fun e w'=>FacR qs e w'∧Below w.heap.size w w':=by
 have H:=Lib.hid h
 have Hl:=Lib.hid h.length
 have HT:=Lib.hid ht
 clear h ht
 go_enter Tryz.func15,Tryz.ntmps15
 go_wp2
 go_loopw [4,5,6] (fun s4 s5 s6 wr=>∃ (i:Nat) (u:Int) (A':Option Addr) (l' c':Nat),i≤la∧s4=.int .i64 u∧s5=.slice A' l' c'∧s6=.int .i64 (i:Int)∧u.natAbs≤9^i∧(u=0↔Zer (qs.take i))∧FsAt wr A' l' c' (facs [] (qs.take i))∧(l'=0→A'=none∧c'=0)∧Below w.heap.size w wr) (fun _ _ s6 _=>la-(intOf s6).toNat)
 case atStart=>exact ⟨0,1,none,0,0,Nat.zero_le _,rfl,rfl,rfl,Nat.le_refl _,⟨fun h=>absurd h (by decide),fun ⟨q,hq,_⟩=>(by cases hq)⟩,⟨rfl,Nat.le_refl _,.inl ⟨rfl,rfl,rfl⟩⟩,fun _=>⟨rfl,rfl⟩,Bel.go⟩
 case round =>
  obtain ⟨i,u,A',l',c',hi,rfl,rfl,rfl,hu,huz,hF,h0,hbw⟩:=hrel
  obtain ⟨wo,rfl⟩:∃ wo:World,wo=wr:=⟨_,rfl⟩
  have HF:=Lib.hid hF
  have H0:=Lib.hid h0
  have Huz:=Lib.hid huz
  have Hbw:=Lib.hid hbw
  by_cases hlt:i<la
  ·have Hlt:=Lib.hid hlt
   obtain ⟨b,o,rfl,hbl,hc⟩:=(H.out.below hbw).at (by omega)
   have hil:i<qs.length:=by rw [Hl.out];exact hlt
   have hq:=HT.out (qs.getD i []) (by rw [List.getD_eq_getElem?_getD,List.getElem?_eq_getElem hil];exact List.getElem_mem _)
   obtain ⟨e0,e1,e2⟩:=tr_load hc hlt
   have hl3:=list3 hq.1
   have s0:=hq.2 0 (by omega)
   have s1:=hq.2 1 (by omega)
   have s2:=hq.2 2 (by omega)
   have HQ:=Lib.hid hq
   have HN:=Lib.hid (take_snoc hil [])
   obtain ⟨q,hqd⟩:∃ q,q=qs.getD i []:=⟨_,rfl⟩
   rw [← hqd] at e0 e1 e2 hl3 s0 s1 s2 HQ HN
   obtain ⟨x0,hx0⟩:∃ x,x=q.getD 0 0:=⟨_,rfl⟩
   obtain ⟨x1,hx1⟩:∃ x,x=q.getD 1 0:=⟨_,rfl⟩
   obtain ⟨x2,hx2⟩:∃ x,x=q.getD 2 0:=⟨_,rfl⟩
   rw [← hx0] at e0 s0 hl3
   rw [← hx1] at e1 s1 hl3
   rw [← hx2] at e2 s2 hl3
   have HL3:=Lib.hid hl3.symm
   have ti:(i:Int)<(la:Int):=by omega
   have tw:IntKind.i64.wrap ((i:Int)+1)=(i:Int)+1:=IntWalk.i64_in _ (by omega)
   have HTI:=Lib.hid (tri_take HT.out i)
   have HLI:=Lib.hid (show (qs.take i).length≤5 by rw [List.length_take];omega)
   have h9i:9^i≤9^4:=Nat.pow_le_pow_right (by decide) (by omega)
   have H9:=Lib.hid hu
   have hu4:u.natAbs≤6561:=by omega
   clear hx0 hx1 hx2 hc hq hl3 hqd hF h0 hbw huz hi hlt hil hu h9i
   go_wp2_with fail
   refine (wid_any x0 x1 x2 _ ⟨by omega,by omega⟩ ⟨by omega,by omega⟩ ⟨by omega,by omega⟩).mono ?_
   rintro e w1 ⟨A1,c1,rfl,h1,hb1⟩
   have H1:=Lib.hid h1
   have HF1:=Lib.hid (fs_below HF.out hb1)
   have Hbw1:=Lib.hid (Hbw.out.trans (hb1.mono Hbw.out.size))
   clear h1 hb1 e0 e1 e2 hbl
   go_wp2_with fail
   refine (fsplit_any _ _ x0 x1 x2 _ H1.out (by omega) (by omega) (by omega)).mono ?_
   rintro e w2 ⟨⟨v,Ap,lp,cp,rfl,hv0,hv9,hps⟩,hb2⟩
   rw [HL3.out] at hv0 hps
   have HV0:=Lib.hid hv0
   have HPs:=Lib.hid hps
   have HF2:=Lib.hid (fs_below HF1.out hb2)
   have Hbw2:=Lib.hid (Hbw1.out.trans (hb2.mono Hbw1.out.size))
   have HLp:=Lib.hid hps.length
   have hlp2:lp≤2:=by rw [← hps.length];exact spl_len2 q
   have hm5:(u*v).natAbs≤6561*9:=by rw [Int.natAbs_mul];exact Nat.mul_le_mul hu4 hv9
   have HU5:=Lib.hid (show (u*v).natAbs≤9^(i+1) by rw [Int.natAbs_mul,Nat.pow_succ];exact Nat.mul_le_mul H9.out hv9)
   have HUZ:=Lib.hid (show u*v=0↔Zer (qs.take (i+1)) by
    rw [HN.out,Int.mul_eq_zero,Huz.out,HV0.out]
    unfold Zer
    constructor
    ·rintro (⟨r,hr,h⟩ | h)
     ·exact ⟨r,List.mem_append_left _ hr,h⟩
     ·exact ⟨q,by simp,h⟩
    ·rintro ⟨r,hr,h⟩
     rcases List.mem_append.1 hr with hr | hr
     ·exact .inl ⟨r,hr,h⟩
     ·rw [List.mem_singleton.1 hr] at h;exact .inr h)
   obtain ⟨U,hU⟩:∃ U,U=u*v:=⟨_,rfl⟩
   rw [← hU] at hm5 HU5 HUZ
   have iU:IntKind.i64.wrap U=U:=IntWalk.i64_in _ (by omega)
   have eU:u*v=U:=hU.symm
   clear hU hps hb2 hv0 hv9 hu4
   go_wp2
   go_loopw [5,9] (fun s5 s9 wx=>∃ (k:Nat) (A':Option Addr) (l' c':Nat),k≤lp∧s5=.slice A' l' c'∧s9=.int .i64 (k:Int)∧FsAt wx A' l' c' (addf (facs [] (qs.take i)) ((spl q).take k))∧(l'=0→A'=none∧c'=0)∧Below w2.heap.size w2 wx) (fun _ s9 _=>lp-(intOf s9).toNat)
   case atStart=>exact ⟨0,_,_,_,Nat.zero_le _,rfl,rfl,HF2.out,H0.out,Below.refl _ _⟩
   case round =>
    obtain ⟨k,A6,l6,c6,hk,rfl,rfl,hF6,h06,hbx⟩:=hrel
    have HF6:=Lib.hid hF6
    have H06:=Lib.hid h06
    have Hbx:=Lib.hid hbx
    by_cases hkl:k<lp
    ·have Hkl:=Lib.hid hkl
     obtain ⟨b',o',A7,l7,c7,rfl,k1,k2⟩:=ps_at (ps_below HPs.out hbx) hkl
     have K2:=Lib.hid k2
     have hkk:k<(spl q).length:=by rw [HLp.out];exact hkl
     have HNK:=Lib.hid (take_snoc hkk [])
     have hfp:=spl_fsm HQ.out.1 HQ.out.2 ((spl q).getD k []) (by rw [List.getD_eq_getElem?_getD,List.getElem?_eq_getElem hkk];exact List.getElem_mem _)
     have HFP:=Lib.hid hfp
     have hl7:l7≤1000:=by rw [← k2.length];have:=hfp.len;omega
     have hl6:l6≤100:=by rw [← hF6.length];have:=facs_ln HLI.out q k;omega
     have tk1:(k:Int)<(lp:Int):=by omega
     have tk2:IntKind.i64.wrap ((k:Int)+1)=(k:Int)+1:=IntWalk.i64_in _ (by omega)
     clear k2 hkk hF6 h06 hbx hfp hk hkl
     go_wp2_with fail
     refine (with_any _ _ _ _ _ _ _ ((spl q).getD k []) _ HF6.out K2.out hl6 hl7 HFP.out.tr (facs_ok HTI.out HLI.out HQ.out.1 HQ.out.2 k) H06.out).mono ?_
     rintro e w8 ⟨⟨A8,l8,c8,rfl,h8,p8⟩,hb8⟩
     have H8:=Lib.hid h8
     have Hp8:=Lib.hid p8
     have Hb8:=Lib.hid (Hbx.out.trans (hb8.mono Hbx.out.size))
     clear h8 p8 hb8
     go_wp2
     go_roundw
     case rel=>exact ⟨k+1,_,_,_,Hkl.out,rfl,by go_num,by rw [HNK.out,addf_app];exact H8.out,fun h=>absurd h (by have:=Hp8.out;omega),Hb8.out⟩
     case measure=>have:=Hkl.out;simp [intOf];omega
    ·have tk1:¬ (k:Int)<(lp:Int):=by omega
     have HE:=Lib.hid (show addf (facs [] (qs.take i)) ((spl q).take k)=facs [] (qs.take (i+1)) by rw [HN.out,facs_app,List.take_of_length_le (l:=spl q) (by rw [HLp.out];omega)])
     clear hF6 h06 hbx hk hkl
     go_wp2
     go_roundw
     case rel=>exact ⟨i+1,U,_,_,_,Hlt.out,rfl,rfl,by go_num,HU5.out,HUZ.out,by rw [← HE.out];exact HF6.out,H06.out,Hbw2.out.trans (Hbx.out.mono Hbw2.out.size)⟩
     case measure=>have:=Hlt.out;simp [intOf];omega
  ·have ti:¬ (i:Int)<(la:Int):=by omega
   have HE:qs.take i=qs:=by rw [List.take_of_length_le (by rw [Hl.out];omega)]
   rw [HE] at HF Huz
   have Hll:=Lib.hid hF.length
   clear hF h0 hbw hi hlt huz hu
   by_cases hu0:u=0
   ·subst hu0
    go_wp2
    refine bodyPost_ret (v:=.tuple #[.int .i64 0,.slice none 0 0]) (by simp [results,Tryz.results15,go_sem]) rfl ⟨⟨0,none,0,0,[],rfl,⟨fun _=>Huz.out.1 trivial,fun _=>rfl⟩,⟨rfl,Nat.le_refl _,.inl ⟨rfl,rfl,rfl⟩⟩,fun _=>rfl,fun h=>absurd rfl h⟩,Hbw.out⟩
   ·have bu:(u == 0)=false:=by rw [beq_eq_false_iff_ne];exact hu0
    have Hu0:=Lib.hid hu0
    clear hu0
    go_wp2
    refine bodyPost_ret (v:=.tuple #[.int .i64 u,.slice A' l' c']) (by simp [results,Tryz.results15,go_sem]) rfl ⟨⟨u,A',l',c',facs [] qs,rfl,Huz.out,HF.out,fun h=>absurd h Hu0.out,fun _=>rfl⟩,Hbw.out⟩
end Go.Proofs.YtjmglmgokfcgoaaGreat
namespace Go.Proofs.YtjmglmgokfcgoaaGreat
open Go.RowKit
def atv (n d:Int):List Int→Int
 | []=>0
 | a :: t=>atv n d t*n+a*d^t.length
theorem atv_pv {n d:Int} (hd:0<d):∀ f:List Int,((atv n d f:Int):Rat)*(d:Rat)=(d:Rat)^f.length*pv f ((n:Rat) / (d:Rat))
 | []=>by
   show ((0:Int):Rat)*_=_*0
   rw [Rat.mul_zero]
   simp
 | a :: t=>by
   have ih:=atv_pv (n:=n) hd t
   have hd':(0:Rat)<(d:Rat):=by exact_mod_cast hd
   show ((atv n d t*n+a*d^t.length:Int):Rat)*(d:Rat)=(d:Rat)^(t.length+1)*((a:Rat)+(n:Rat) / (d:Rat)*pv t ((n:Rat) / (d:Rat)))
   rw [Rat.intCast_add,Rat.intCast_mul,Rat.intCast_mul,Rat.intCast_pow,Rat.pow_succ]
   have e:(d:Rat)*((n:Rat) / (d:Rat))=(n:Rat):=by rw [Rat.mul_comm,Rat.div_mul_cancel (by grind)]
   generalize pv t ((n:Rat) / (d:Rat))=P at *
   generalize (n:Rat) / (d:Rat)=y at *
   generalize (d:Rat)^t.length=E at *
   generalize ((atv n d t:Int):Rat)=A at *
   have h1:A*(n:Rat)*(d:Rat)=(E*P)*((d:Rat)*y):=by rw [e,← ih];grind
   rw [Rat.add_mul,h1]
   grind
theorem atv_sg {n d:Int} (hd:0<d) (f:List Int):sg (atv n d f)=sgp f (Pt.of ((n:Rat) / (d:Rat))):=by
 have hd':(0:Rat)<(d:Rat):=by exact_mod_cast hd
 unfold sgp
 rw [sgf_of (lp_pv f)]
 have h:=atv_pv (n:=n) hd f
 have hE:(0:Rat)<(d:Rat)^f.length:=Rat.pow_pos hd'
 generalize pv f ((n:Rat) / (d:Rat))=P at *
 generalize (d:Rat)^f.length=E at *
 rcases sg_cases (atv n d f) with ⟨c,e⟩ | ⟨c,e⟩ | ⟨c,e⟩<;>rw [e]
 ·have c':((atv n d f:Int):Rat)<0:=by exact_mod_cast c
  have h1:E*P<0:=by
   rw [← h]
   have:=Rat.mul_pos (show (0:Rat) < -((atv n d f:Int):Rat) by grind) hd'
   grind
  have h2:P<0:=Classical.byContradiction fun hn=>by
   have:=Rat.mul_nonneg (Rat.le_of_lt hE) (show (0:Rat)≤P by grind)
   grind
  rw [if_neg (by grind),if_pos h2]
 ·rw [c] at h
  have h1:E*P=0:=by rw [← h];simp
  have h2:P=0:=by
   rcases Rat.mul_eq_zero.1 h1 with c | c
   ·grind
   ·exact c
  rw [h2]
  rfl
 ·have c':(0:Rat)<((atv n d f:Int):Rat):=by exact_mod_cast c
  have h1:0<E*P:=by rw [← h];exact Rat.mul_pos c' hd'
  have h2:0<P:=Classical.byContradiction fun hn=>by
   have:=Rat.mul_nonneg (Rat.le_of_lt hE) (show (0:Rat)≤-P by grind)
   grind
  rw [if_pos h2]
def Irr (p:List Int):Prop:=(isLin p∨isQd p)∧pcont p=1
theorem isLin.plen {p:List Int} (h:isLin p):Go.Proofs.YtjmglmgokfcgoaaGreat.plen p=2:=plen_eq p 1 (by have:=plen_le p;have:=h.1;omega) (by have:=h.2;omega)
theorem isQd.plen {p:List Int} (h:isQd p):Go.Proofs.YtjmglmgokfcgoaaGreat.plen p=3:=plen_eq p 2 (by have:=plen_le p;have:=h.1;omega) (by have:=h.2.1;omega)
theorem Irr.ne {p:List Int} (h:Irr p):plen p≠0:=by
 rcases h.1 with c | c
 ·rw [c.plen];decide
 ·rw [c.plen];decide
theorem lin_root {p:List Int} (h:isLin p) (x:Pt):sgp p x=0↔x=Pt.of (((-p.getD 0 0:Int):Rat) / ((p.getD 1 0:Int):Rat)):=by
 have hp:=list2 h.1
 have h1:p=[-(-p.getD 0 0),p.getD 1 0]:=by rw [Int.neg_neg];exact hp
 conv=>lhs;rw [h1]
 exact lin2_root h.2 x
theorem qd_rat {p:List Int} (h:isQd p) {n d:Int} (hd:0<d):sgp p (Pt.of ((n:Rat) / (d:Rat)))≠0:=fun h0=>by
 rw [← atv_sg hd] at h0
 have h1:atv n d p=0:=by rcases sg_cases (atv n d p) with ⟨_,e⟩ | ⟨c,_⟩ | ⟨_,e⟩<;>first | exact c | omega
 have hp:=list3 h.1
 rw [hp] at h1
 generalize ha:p.getD 0 0=a at *
 generalize hb:p.getD 1 0=b at *
 generalize hc:p.getD 2 0=c at *
 have h2:((0*n+c*d^0)*n+b*d^1)*n+a*d^2=0:=h1
 have h3:(2*c*n+b*d)*(2*c*n+b*d)=dsc p*(d*d):=by unfold dsc;rw [ha,hb,hc];grind
 generalize 2*c*n+b*d=m at h3
 have h4:d.natAbs^2∣m.natAbs^2:=by
  have e:m.natAbs^2=(dsc p).natAbs*d.natAbs^2:=by
   have:=congrArg Int.natAbs h3
   rw [Int.natAbs_mul,Int.natAbs_mul,Int.natAbs_mul] at this
   rw [Nat.pow_two,Nat.pow_two]
   exact this
  rw [e]
  exact Nat.dvd_mul_left _ _
 obtain ⟨s,hs⟩:=(Nat.pow_dvd_pow_iff (by decide)).1 h4
 refine h.2.2 s ?_
 have h5:(m.natAbs:Int)*(m.natAbs:Int)=m*m:=Int.natAbs_mul_self' m
 have h6:(d.natAbs:Int)=d:=by omega
 rw [hs,Int.natCast_mul,h6,h3] at h5
 have h7:(d*d)*((s:Int)*(s:Int))=(d*d)*dsc p:=by grind
 exact Int.eq_of_mul_eq_mul_left (by have:=Int.mul_pos hd hd;omega) h7
theorem qd_roots {p:List Int} (h:isQd p) (hd:0<dsc p):∃ z0 z1,z0<z1∧Lst (fun x=>sgp p x=0) [z0,z1]∧z0<Pt.of (((-p.getD 1 0:Int):Rat) / ((2*p.getD 2 0:Int):Rat))∧Pt.of (((-p.getD 1 0:Int):Rat) / ((2*p.getD 2 0:Int):Rat))<z1 ∧
 (∀ y,y<z0→sgp p y=1)∧(∀ y,z0<y→y<z1→sgp p y=-1)∧(∀ y,z1<y→sgp p y=1):=by
 have hp:=list3 h.1
 have hl:=h.plen
 have hlead:plead p=p.getD 2 0:=by unfold plead;rw [hl]
 obtain ⟨B,hB,f1,f2⟩:=far (f:=p) (by omega)
 have e1:sgE false p=1:=by show sg (plead p)=1;rw [hlead,sgq h.2.1]
 have e2:sgE true p=1:=by show (-1)^(plen p-1)*sg (plead p)=1;rw [hlead,sgq h.2.1,hl];rfl
 rw [e1] at f1
 rw [e2] at f2
 have hc2:0<2*p.getD 2 0:=by have:=h.2.1;omega
 generalize hV:((-p.getD 1 0:Int):Rat) / ((2*p.getD 2 0:Int):Rat)=V
 have hv:sgp p (Pt.of V)=-1:=by
  rw [← hV,← atv_sg hc2]
  refine sgqn ?_
  conv=>lhs;rw [hp]
  show ((0*(-p.getD 1 0)+p.getD 2 0*(2*p.getD 2 0)^0)*(-p.getD 1 0)+p.getD 1 0*(2*p.getD 2 0)^1)*(-p.getD 1 0)+p.getD 0 0*(2*p.getD 2 0)^2<0
  have hc:=h.2.1
  have h2:((0*(-p.getD 1 0)+p.getD 2 0*(2*p.getD 2 0)^0)*(-p.getD 1 0)+p.getD 1 0*(2*p.getD 2 0)^1)*(-p.getD 1 0)+p.getD 0 0*(2*p.getD 2 0)^2=-(p.getD 2 0*dsc p):=by unfold dsc;grind
  rw [h2]
  have:=Int.mul_pos hc hd
  omega
 -- far points on both sides
 have lo:∀ y:Pt,∃ t:Rat,Pt.of t<y∧sgp p (Pt.of t)=1:=fun y=>by
  obtain ⟨q,hq⟩:=y.ne
  refine ⟨min q (-B)-1,Pt.of_lt.2 (Pt.Lle hq (by grind)),f2 _ (by grind)⟩
 have hi:∀ y:Pt,∃ t:Rat,y<Pt.of t∧sgp p (Pt.of t)=1:=fun y=>by
  obtain ⟨q,hq⟩:=y.bd
  refine ⟨max q B+1,Pt.lt_of.2 (Pt.up hq (by grind)),f1 _ (by grind)⟩
 obtain ⟨t0,k0,k1⟩:=lo (Pt.of V)
 obtain ⟨t1,k2,k3⟩:=hi (Pt.of V)
 obtain ⟨z0,a1,a2,a3⟩:=ivt (lp_pv p) k0 (show sgp p (Pt.of t0)*sgp p (Pt.of V)=-1 by rw [k1,hv];rfl)
 obtain ⟨z1,b1,b2,b3⟩:=ivt (lp_pv p) k2 (show sgp p (Pt.of V)*sgp p (Pt.of t1)=-1 by rw [k3,hv];rfl)
 have a3':sgp p z0=0:=a3
 have b3':sgp p z1=0:=b3
 have hz:=Pt.lt_trans a2 b1
 have only:∀ y,sgp p y=0→y=z0∨y=z1:=fun y hy=>by
  rcases Pt.tri y z0 with c | c | c
  ·have:=rts_le 2 p hl [y,z0,z1] (by simp [c,hz,Pt.lt_trans c hz]) (by intro x hx;simp at hx;rcases hx with rfl | rfl | rfl<;>assumption)
   simp at this
  ·exact .inl c
  ·rcases Pt.tri y z1 with c2 | c2 | c2
   ·have:=rts_le 2 p hl [z0,y,z1] (by simp [c,c2,hz]) (by intro x hx;simp at hx;rcases hx with rfl | rfl | rfl<;>assumption)
    simp at this
   ·exact .inr c2
   ·have:=rts_le 2 p hl [z0,z1,y] (by simp [c,c2,hz]) (by intro x hx;simp at hx;rcases hx with rfl | rfl | rfl<;>assumption)
    simp at this
 have nz:∀ y,y≠z0→y≠z1→sgp p y=1∨sgp p y=-1:=fun y h1 h2=>by
  rcases sgp_or p y with c | c | c
  ·exact .inl c
  ·exact .inr c
  ·rcases only y c with c | c
   ·exact absurd c h1
   ·exact absurd c h2
 have ne1:∀ {x y:Pt},x<y→x≠y:=fun h e=>by subst e;exact Pt.irr _ h
 refine ⟨z0,z1,hz,⟨by simp [hz],fun y=>⟨fun hy=>by simp at hy;rcases hy with rfl | rfl<;>assumption,fun hy=>by simp;exact only y hy⟩⟩,a2,b1,fun y hy=>?_,fun y h0 h1=>?_,fun y hy=>?_⟩
 ·rcases nz y (ne1 hy) (ne1 (Pt.lt_trans hy hz)) with c | c
  ·exact c
  ·obtain ⟨t,k4,k5⟩:=lo y
   obtain ⟨z,d1,d2,d3⟩:=ivt (lp_pv p) k4 (show sgp p (Pt.of t)*sgp p y=-1 by rw [k5,c];rfl)
   rcases only z d3 with e | e
   ·rw [e] at d2;exact absurd d2 (Pt.asym hy)
   ·rw [e] at d2;exact absurd d2 (Pt.asym (Pt.lt_trans hy hz))
 ·rcases nz y (fun e=>ne1 h0 e.symm) (ne1 h1) with c | c
  ·rcases Pt.tri y (Pt.of V) with c2 | c2 | c2
   ·obtain ⟨z,d1,d2,d3⟩:=ivt (lp_pv p) c2 (show sgp p y*sgp p (Pt.of V)=-1 by rw [hv,c];rfl)
    rcases only z d3 with e | e
    ·rw [e] at d1;exact absurd d1 (Pt.asym h0)
    ·rw [e] at d2;exact absurd d2 (Pt.asym b1)
   ·rw [c2,hv] at c;cases c
   ·obtain ⟨z,d1,d2,d3⟩:=ivt (lp_pv p) c2 (show sgp p (Pt.of V)*sgp p y=-1 by rw [hv,c];rfl)
    rcases only z d3 with e | e
    ·rw [e] at d1;exact absurd d1 (Pt.asym a2)
    ·rw [e] at d2;exact absurd d2 (Pt.asym h1)
  ·exact c
 ·rcases nz y (fun e=>ne1 (Pt.lt_trans hz hy) e.symm) (fun e=>ne1 hy e.symm) with c | c
  ·exact c
  ·obtain ⟨t,k4,k5⟩:=hi y
   obtain ⟨z,d1,d2,d3⟩:=ivt (lp_pv p) k4 (show sgp p y*sgp p (Pt.of t)=-1 by rw [k5,c];rfl)
   rcases only z d3 with e | e
   ·rw [e] at d1;exact absurd d1 (Pt.asym (Pt.lt_trans hz hy))
   ·rw [e] at d1;exact absurd d1 (Pt.asym hy)
end Go.Proofs.YtjmglmgokfcgoaaGreat
namespace Go.Proofs.YtjmglmgokfcgoaaGreat
open Go.RowKit
def realn (p:List Int):Nat:=if p.length=2 then 1 else if 0<dsc p then 2 else 0
def cmpv (p:List Int) (k:Nat) (n d:Int):Int :=
 if p.length=2 then -sg (atv n d p) else if atv n d p<0 then 2*(k:Int)-1 else if -p.getD 1 0*d<2*p.getD 2 0*n then -1 else 1
noncomputable def rts (p:List Int):List Pt:=if h:plen p≠0 then (roots_ex h).choose else []
theorem rts_lst {p:List Int} (h:plen p≠0):Lst (fun x=>sgp p x=0) (rts p):=by
 unfold rts
 rw [dif_pos h]
 exact (roots_ex h).choose_spec
theorem qd_none {p:List Int} (h:isQd p) (hd:¬ 0<dsc p):dsc p<0:=by
 have:dsc p≠0:=fun e=>h.2.2 0 (by rw [e];rfl)
 omega
theorem frac_lt' {z z':Int} {q q':Int} (hq:0<q) (hq':0<q'):Pt.of ((z:Rat) / (q:Rat))<Pt.of ((z':Rat) / (q':Rat))↔z*q'<z'*q:=by
 obtain ⟨a,ha⟩:∃ a:Nat,q=(a:Int):=⟨q.toNat,by omega⟩
 obtain ⟨b,hb⟩:∃ b:Nat,q'=(b:Int):=⟨q'.toNat,by omega⟩
 subst ha hb
 have:=pt_lt (z:=z) (z':=z') (q:=a) (q':=b) (by omega) (by omega)
 exact this
theorem rts_irr {p:List Int} (h:isLin p∨isQd p):(rts p).length=realn p∧∀ k,(hk:k<(rts p).length)→∀ n d:Int,0<d →
 (0<cmpv p k n d↔Pt.of ((n:Rat) / (d:Rat))<(rts p)[k])∧(cmpv p k n d<0↔(rts p)[k]<Pt.of ((n:Rat) / (d:Rat)))∧(cmpv p k n d=1∨cmpv p k n d=0∨cmpv p k n d=-1):=by
 rcases h with h | h
 ·have hl:plen p≠0:=by rw [h.plen];decide
  have e:rts p=[Pt.of (((-p.getD 0 0:Int):Rat) / ((p.getD 1 0:Int):Rat))]:=(rts_lst hl).uniq ⟨by simp,fun x=>by show _↔sgp p x=0;rw [lin_root h];simp⟩
  rw [e]
  refine ⟨by unfold realn;rw [if_pos h.1];rfl,fun k hk n d hd=>?_⟩
  have hk0:k=0:=by simpa using hk
  subst hk0
  have ha:atv n d p=p.getD 1 0*n+p.getD 0 0*d:=by
   conv=>lhs;rw [list2 h.1]
   show (0*n+p.getD 1 0*d^0)*n+p.getD 0 0*d^1=_
   grind
  unfold cmpv
  rw [if_pos h.1,ha]
  show (_↔Pt.of _<Pt.of _)∧(_↔Pt.of _<Pt.of _)∧_
  rw [frac_lt' hd h.2,frac_lt' h.2 hd]
  have m1:n*p.getD 1 0=p.getD 1 0*n:=Int.mul_comm _ _
  have m2:-p.getD 0 0*d=-(p.getD 0 0*d):=Int.neg_mul _ _
  rw [m1,m2]
  generalize p.getD 1 0*n=X
  generalize p.getD 0 0*d=Y
  rcases sg_cases (X+Y) with ⟨c,e⟩ | ⟨c,e⟩ | ⟨c,e⟩<;>rw [e]<;>refine ⟨⟨?_,?_⟩,⟨?_,?_⟩,?_⟩<;>omega
 ·have hl:plen p≠0:=by rw [h.plen];decide
  have h2:¬ p.length=2:=by rw [h.1];decide
  by_cases hd:0<dsc p
  ·obtain ⟨z0,z1,hz,hL,hv0,hv1,g0,g1,g2⟩:=qd_roots h hd
   have e:rts p=[z0,z1]:=(rts_lst hl).uniq hL
   rw [e]
   refine ⟨by unfold realn;rw [if_neg h2,if_pos hd];rfl,fun k hk n d hd=>?_⟩
   have hne:=qd_rat h hd (n:=n)
   have hsg:=atv_sg (n:=n) hd p
   have hc2:0<2*p.getD 2 0:=by have:=h.2.1;omega
   have hV:=frac_lt' (z:=-p.getD 1 0) (q:=2*p.getD 2 0) (z':=n) (q':=d) hc2 hd
   have hV2:=frac_lt' (z':=-p.getD 1 0) (q':=2*p.getD 2 0) (z:=n) (q:=d) hd hc2
   unfold cmpv
   rw [if_neg h2]
   rw [show 2*p.getD 2 0*n=n*(2*p.getD 2 0) from Int.mul_comm _ _]
   generalize hy:Pt.of ((n:Rat) / (d:Rat))=y at *
   generalize Pt.of (((-p.getD 1 0:Int):Rat) / ((2*p.getD 2 0:Int):Rat))=V at *
   have key:(atv n d p<0∧z0<y∧y<z1)∨(0<atv n d p∧y<z0∧¬ V<y)∨(0<atv n d p∧z1<y∧V<y):=by
    rcases Pt.tri y z0 with c | c | c
    ·right;left
     have:=g0 y c
     rw [this] at hsg
     exact ⟨by rcases sg_cases (atv n d p) with ⟨_,e⟩ | ⟨_,e⟩ | ⟨_,e⟩<;>omega,c,fun h=>Pt.asym h (Pt.lt_trans c hv0)⟩
    ·exact absurd ((hL.2 y).1 (by rw [c];simp)) hne
    ·rcases Pt.tri y z1 with c2 | c2 | c2
     ·left
      have:=g1 y c c2
      rw [this] at hsg
      exact ⟨by rcases sg_cases (atv n d p) with ⟨_,e⟩ | ⟨_,e⟩ | ⟨_,e⟩<;>omega,c,c2⟩
     ·exact absurd ((hL.2 y).1 (by rw [c2];simp)) hne
     ·right;right
      have:=g2 y c2
      rw [this] at hsg
      exact ⟨by rcases sg_cases (atv n d p) with ⟨_,e⟩ | ⟨_,e⟩ | ⟨_,e⟩<;>omega,c2,Pt.lt_trans hv1 c2⟩
   have hk2:k=0∨k=1:=by simp at hk;omega
   rcases key with ⟨k1,k2,k3⟩ | ⟨k1,k2,k3⟩ | ⟨k1,k2,k3⟩
   ·rw [if_pos k1]
    rcases hk2 with rfl | rfl
    ·exact ⟨⟨fun h=>absurd h (by decide),fun h=>absurd k2 (Pt.asym h)⟩,⟨fun _=>k2,fun _=>by decide⟩,by decide⟩
    ·exact ⟨⟨fun _=>k3,fun _=>by decide⟩,⟨fun h=>absurd h (by decide),fun h=>absurd k3 (Pt.asym h)⟩,by decide⟩
   ·rw [if_neg (by omega),if_neg (fun h=>k3 (hV.2 h))]
    rcases hk2 with rfl | rfl
    ·exact ⟨⟨fun _=>k2,fun _=>by decide⟩,⟨fun h=>absurd h (by decide),fun h=>absurd k2 (Pt.asym h)⟩,by decide⟩
    ·exact ⟨⟨fun _=>Pt.lt_trans k2 hz,fun _=>by decide⟩,⟨fun h=>absurd h (by decide),fun h=>absurd (Pt.lt_trans k2 hz) (Pt.asym h)⟩,by decide⟩
   ·rw [if_neg (by omega),if_pos (hV.1 k3)]
    rcases hk2 with rfl | rfl
    ·exact ⟨⟨fun h=>absurd h (by decide),fun h=>absurd (Pt.lt_trans hz k2) (Pt.asym h)⟩,⟨fun _=>Pt.lt_trans hz k2,fun _=>by decide⟩,by decide⟩
    ·exact ⟨⟨fun h=>absurd h (by decide),fun h=>absurd k2 (Pt.asym h)⟩,⟨fun _=>k2,fun _=>by decide⟩,by decide⟩
  ·have hn:=qd_none h hd
   have e:rts p=[]:=(rts_lst hl).uniq ⟨List.Pairwise.nil,fun x=>⟨fun h=>(by cases h),fun h0=>absurd h0 (qd_sgp h hn x)⟩⟩
   rw [e]
   exact ⟨by unfold realn;rw [if_neg h2,if_neg hd];rfl,fun k hk=>absurd hk (Nat.not_lt_zero k)⟩
theorem irr_prop {p r:List Int} (hp:Irr p) (hr:Irr r) (hl:p.length=r.length) {a b:Int} (ha:0<a) (hb:0<b) (h:∀ k,a*p.getD k 0=b*r.getD k 0):p=r:=by
 have h1:pcont (psc a p)=pcont (psc b r):=pcont_ext fun k=>by rw [psc_get,psc_get,h]
 rw [pcont_psc,pcont_psc,hp.2,hr.2] at h1
 have hab:a=b:=by omega
 subst hab
 refine List.ext_getElem hl fun k h2 h3=>?_
 have:=Int.eq_of_mul_eq_mul_left (by omega) (h k)
 rw [List.getD_eq_getElem?_getD,List.getElem?_eq_getElem h2,List.getD_eq_getElem?_getD,List.getElem?_eq_getElem h3] at this
 exact this
theorem irr_apart {p r:List Int} (hp:Irr p) (hr:Irr r) {x:Pt} (h1:sgp p x=0) (h2:sgp r x=0):p=r:=by
 rcases hp.1 with p1 | p1<;>rcases hr.1 with r1 | r1
 ·have e1:=(lin_root p1 x).1 h1
  have e2:=(lin_root r1 x).1 h2
  rw [e1] at e2
  have e3:-p.getD 0 0*r.getD 1 0=-r.getD 0 0*p.getD 1 0:=by
   have c1:¬ -p.getD 0 0*r.getD 1 0 < -r.getD 0 0*p.getD 1 0:=fun c=>by
    have:=(frac_lt' p1.2 r1.2).2 c
    rw [e2] at this
    exact Pt.irr _ this
   have c2:¬ -r.getD 0 0*p.getD 1 0 < -p.getD 0 0*r.getD 1 0:=fun c=>by
    have:=(frac_lt' r1.2 p1.2).2 c
    rw [e2] at this
    exact Pt.irr _ this
   omega
  refine irr_prop hp hr (by rw [p1.1,r1.1]) r1.2 p1.2 fun k=>?_
  match k with
  | 0=>grind
  | 1=>exact Int.mul_comm _ _
  | k+2=>rw [getD_ge_plen p (k+2) (by rw [p1.plen];omega),getD_ge_plen r (k+2) (by rw [r1.plen];omega),Int.mul_zero,Int.mul_zero]
 ·rw [(lin_root p1 x).1 h1] at h2
  exact absurd h2 (qd_rat r1 p1.2)
 ·rw [(lin_root r1 x).1 h2] at h1
  exact absurd h1 (qd_rat p1 r1.2)
 ·obtain ⟨L,hL⟩:∃ L,L=padd (psc (r.getD 2 0) p) (psc (-p.getD 2 0) r):=⟨_,rfl⟩
  have hg:∀ k,L.getD k 0=r.getD 2 0*p.getD k 0-p.getD 2 0*r.getD k 0:=fun k=>by rw [hL,padd_get,psc_get,psc_get,Int.neg_mul];omega
  have hz:sgp (psc (-p.getD 2 0) r) x=0:=by rw [sgp_psc,h2,Int.mul_zero]
  have hL0:sgp L x=0:=by rw [hL,sgp_add0 hz,sgp_psc,h1,Int.mul_zero]
  have hpl:plen L≤2:=plen_le_of fun k hk=>by
   rw [hg]
   match k,hk with
   | 2,_=>rw [Int.mul_comm];omega
   | k+3,_=>rw [getD_ge_plen p (k+3) (by rw [p1.plen];omega),getD_ge_plen r (k+3) (by rw [r1.plen];omega)];omega
  have hb:L.getD 1 0=0:=Classical.byContradiction fun hb=>by
   -- the common root would be a fraction
   obtain ⟨M,hM,hM1,hM0⟩:∃ M:List Int,isLin M∧sgp M x=0∧True:=by
    rcases Int.lt_or_gt_of_ne hb with c | c
    ·refine ⟨[-L.getD 0 0,-L.getD 1 0],⟨rfl,by show 0 < -L.getD 1 0;omega⟩,?_,trivial⟩
     have:∀ k,([-L.getD 0 0,-L.getD 1 0]:List Int).getD k 0=(psc (-1) L).getD k 0:=fun k=>by
      rw [psc_get]
      match k with
      | 0=>show -L.getD 0 0=_;omega
      | 1=>show -L.getD 1 0=_;omega
      | k+2=>rw [getD_ge_plen L (k+2) (by omega)];rfl
     rw [sgp_congr this,sgp_psc,hL0,Int.mul_zero]
    ·refine ⟨[L.getD 0 0,L.getD 1 0],⟨rfl,c⟩,?_,trivial⟩
     have:∀ k,([L.getD 0 0,L.getD 1 0]:List Int).getD k 0=L.getD k 0:=fun k=>by
      match k with
      | 0=>rfl
      | 1=>rfl
      | k+2=>rw [getD_ge_plen L (k+2) (by omega)];rfl
     rw [sgp_congr this,hL0]
   rw [(lin_root hM x).1 hM1] at h1
   exact absurd h1 (qd_rat p1 hM.2)
  have ha:L.getD 0 0=0:=by
   have:∀ k,([L.getD 0 0]:List Int).getD k 0=L.getD k 0:=fun k=>by
    match k with
    | 0=>rfl
    | 1=>exact hb.symm
    | k+2=>rw [getD_ge_plen L (k+2) (by omega)];rfl
   rw [← sgp_congr this,sgp_const] at hL0
   rcases sg_cases (L.getD 0 0) with ⟨_,e⟩ | ⟨c,_⟩ | ⟨_,e⟩<;>first | exact c | omega
  refine irr_prop hp hr (by rw [p1.1,r1.1]) r1.2.1 p1.2.1 fun k=>?_
  have:=hg k
  match k with
  | 0=>rw [ha] at this;omega
  | 1=>rw [hb] at this;omega
  | k+2=>rw [getD_ge_plen L (k+2) (by omega)] at this;omega
def Dis (l:List (List Int×Nat)):Prop:=l.Pairwise fun a b=>a.1≠b.1
theorem with_dis {p:List Int}:∀ {l:List (List Int×Nat)},Dis l→Dis (withf l p)∧∀ y∈withf l p,y.1=p∨∃ z∈l,y.1=z.1
 | [],_=>⟨List.pairwise_singleton _ _,fun y hy=>.inl (by rw [List.mem_singleton.1 hy])⟩
 | (r,m) :: l,h=>by
   have h':=List.pairwise_cons.1 h
   unfold withf
   split
   ·rename_i e
    refine ⟨List.pairwise_cons.2 ⟨fun y hy=>h'.1 y hy,h'.2⟩,fun y hy=>?_⟩
    rcases List.mem_cons.1 hy with e2 | e2
    ·rw [e2];exact .inl e
    ·exact .inr ⟨y,List.mem_cons_of_mem _ e2,rfl⟩
   ·rename_i e
    obtain ⟨i1,i2⟩:=with_dis (p:=p) h'.2
    refine ⟨List.pairwise_cons.2 ⟨fun y hy e3=>?_,i1⟩,fun y hy=>?_⟩
    ·rcases i2 y hy with c | ⟨z,hz,c⟩
     ·exact e (by rw [← c];exact e3)
     ·exact h'.1 z hz (by rw [← c];exact e3)
    ·rcases List.mem_cons.1 hy with e2 | e2
     ·exact .inr ⟨(r,m),List.mem_cons_self,by rw [e2]⟩
     ·rcases i2 y e2 with c | ⟨z,hz,c⟩
      ·exact .inl c
      ·exact .inr ⟨z,List.mem_cons_of_mem _ hz,c⟩
theorem addf_dis:∀ {ps:List (List Int)} {l:List (List Int×Nat)},Dis l→Dis (addf l ps)
 | [],_,h=>h
 | p :: ps,l,h=>show Dis (addf (withf l p) ps) from addf_dis (ps:=ps) (with_dis h).1
theorem facs_dis:∀ {qs:List (List Int)} {l:List (List Int×Nat)},Dis l→Dis (facs l qs)
 | [],_,h=>h
 | q :: qs,l,h=>show Dis (facs (addf l (spl q)) qs) from facs_dis (qs:=qs) (addf_dis h)
theorem nrm_cont {p:List Int} (h:plen p≠0):pcont (nrm p)=1:=by
 have h1:pcont (psc (rnu p) (nrm p))=pcont p:=pcont_ext fun k=>by rw [psc_get,nrm_get h]
 rw [pcont_psc] at h1
 have h2:(rnu p).natAbs=pcont p:=by unfold rnu;split<;>omega
 rw [h2] at h1
 exact Nat.eq_of_mul_eq_mul_left (Nat.pos_of_ne_zero (pcont_ne h)) (by rw [h1,Nat.mul_one])
theorem spl_irr {q:List Int} (h:plen q≠0) (h3:plen q≤3):∀ p∈spl q,Irr p:=fun p hp=>⟨(spl_spec h h3).1 p hp,by
 have hld:=nrm_lead h
 unfold spl at hp
 split at hp
 ·cases hp
 ·split at hp
  ·rw [List.mem_singleton.1 hp];exact nrm_cont h
  ·have c3:plen q=3:=by omega
   rw [c3] at hld
   have hn:∀ z:Int,plen [(nrm q).getD 1 0+z,2*(nrm q).getD 2 0]≠0:=fun z=>by
    rw [plen_cons_succ (by rw [plen_cons_one rfl (by show 2*(nrm q).getD 2 0≠0;have:0<(nrm q).getD 2 0:=hld;omega)];omega)]
    omega
   split at hp
   ·rcases List.mem_cons.1 hp with e | e
    ·rw [e];exact nrm_cont (hn _)
    ·rw [List.mem_singleton.1 e];exact nrm_cont (hn _)
   ·rw [List.mem_singleton.1 hp];exact nrm_cont h⟩
theorem facs_irr {qs:List (List Int)} (hq:∀ q∈qs,plen q≠0∧plen q≤3):∀ x∈facs [] qs,Irr x.1:=facs_mem (fun q h=>spl_irr (hq q h).1 (hq q h).2) (fun x hx=>by cases hx)
theorem prod_root {qs:List (List Int)} (hq:∀ q∈qs,plen q≠0∧plen q≤3) (x:Pt):sgp (prodf [1] qs) x=0↔∃ y∈facs [] qs,sgp y.1 x=0:=by
 have hP:plen (prodf [1] qs)≠0:=(prodf_mult (Pt.of 0) qs [1] (by decide) fun q h=>(hq q h).1).1
 have hm:=mult_prod hq x
 have hi:=facs_irr hq
 constructor
 ·intro h
  refine Classical.byContradiction fun hn=>?_
  have h1:mult x (prodf [1] qs)≠0:=fun e=>(mult_zero hP).1 e h
  have h2:fsum (fun p=>(mult x p:Int)) (facs [] qs)=fsum (fun _=>0) (facs [] qs):=fsum_congr fun y hy=>by
   have:mult x y.1=0:=(mult_zero (hi y hy).ne).2 fun e=>hn ⟨y,hy,e⟩
   show (mult x y.1:Int)=0
   omega
  have h3:∀ l:List (List Int×Nat),fsum (fun _=>0) l=0:=fun l=>by
   induction l with
   | nil=>rfl
   | cons a l ih=>show (a.2:Int)*0+fsum _ l=0;rw [ih];omega
  rw [h2,h3] at hm
  omega
 ·rintro ⟨y,hy,h⟩
  refine Classical.byContradiction fun hn=>?_
  have h1:=(mult_zero hP).2 hn
  rw [h1] at hm
  exact (mult_zero (hi y hy).ne).1 (fsum_zero hm.symm (facs_pos (fun z hz=>by cases hz)) y hy) h
def ksum (j:Nat→Int):Nat→Int
 | 0=>0
 | k+1=>ksum j k+j k
theorem isum_append (xs ys:List Int):isum (xs ++ ys)=isum xs+isum ys:=by
 induction xs with
 | nil=>show _=0+_;rw [Int.zero_add];rfl
 | cons a xs ih=>show a+isum (xs ++ ys)=a+isum xs+isum ys;omega
theorem isum_ksum (J:Pt→Int) (j:Nat→Int):∀ (n:Nat) (xs:List Pt),xs.length=n→(∀ k,(h:k<xs.length)→J xs[k]=j k)→isum (xs.map J)=ksum j n
 | 0,xs,h,_=>by rw [List.eq_nil_of_length_eq_zero h];rfl
 | n+1,xs,h,hj=>by
   have hne:xs≠[]:=fun e=>by rw [e] at h;cases h
   have hs:xs=xs.dropLast ++ [xs.getLast hne]:=(List.dropLast_concat_getLast hne).symm
   have hlen:xs.dropLast.length=n:=by rw [List.length_dropLast,h];rfl
   have h1:=isum_ksum J j n xs.dropLast hlen fun k hk=>by
    rw [List.getElem_dropLast]
    exact hj k (by omega)
   have h2:J (xs.getLast hne)=j n:=by
    rw [List.getLast_eq_getElem]
    have:=hj (xs.length-1) (by omega)
    rw [this]
    congr 1
    omega
   rw [hs,List.map_append,isum_append,h1]
   show _+(J (xs.getLast hne)+0)=ksum j n+j n
   omega
end Go.Proofs.YtjmglmgokfcgoaaGreat
namespace Go.Proofs.YtjmglmgokfcgoaaGreat
open Go Go.RowKit
structure FcP (p:List Int):Prop where
 irr:isLin p∨isQd p
 bd:∀ j,(p.getD j 0).natAbs≤29
 q9:p.length=3→∀ j,(p.getD j 0).natAbs≤9
theorem FcP.len {p:List Int} (h:FcP p):p.length=2∨p.length=3:=by
 rcases h.irr with c | c
 ·exact .inl c.1
 ·exact .inr c.1
theorem atv_bd {n d:Int} {M Z:Nat} (hZ:1≤Z) (hn:n.natAbs≤Z) (hd:d.natAbs≤Z):∀ f:List Int,(∀ j,(f.getD j 0).natAbs≤M)→(atv n d f).natAbs≤f.length*(M*Z^f.length)
 | [],_=>Nat.zero_le _
 | a :: t,h=>by
   have h1:=atv_bd hZ hn hd t fun j=>h (j+1)
   have h0:a.natAbs≤M:=h 0
   have h2:=Int.natAbs_add_le (atv n d t*n) (a*d^t.length)
   rw [Int.natAbs_mul,Int.natAbs_mul,Int.natAbs_pow] at h2
   have h3:(atv n d t).natAbs*n.natAbs≤t.length*(M*Z^t.length)*Z:=Nat.mul_le_mul h1 hn
   have h4:a.natAbs*d.natAbs^t.length≤M*Z^t.length:=Nat.mul_le_mul h0 (Nat.pow_le_pow_left hd _)
   have h5:M*Z^t.length≤M*Z^(t.length+1):=Nat.mul_le_mul_left _ (Nat.pow_le_pow_right hZ (Nat.le_succ _))
   have h6:t.length*(M*Z^t.length)*Z=t.length*(M*Z^(t.length+1)):=by rw [Nat.pow_succ,Nat.mul_assoc,Nat.mul_assoc]
   show (atv n d t*n+a*d^t.length).natAbs≤(t.length+1)*(M*Z^(t.length+1))
   rw [Nat.succ_mul]
   omega
set_option maxRecDepth 100000 in
theorem sign15_any (n:Int) (w:World):Calls Tryz.prog 170 #[.int .i64 n] w fun e w'=>e=.returned (.int .i64 (sg n))∧w=w':=by
 have HS:=Lib.hid (sg_cases n)
 generalize sg n=s at HS ⊢
 go_enter Tryz.func170,Tryz.ntmps170
 rcases HS.out with ⟨c,rfl⟩ | ⟨c,rfl⟩ | ⟨c,rfl⟩
 ·go_wp2
  go_ret
  exact ⟨rfl,rfl⟩
 ·subst c
  go_wp2
  go_ret
  exact ⟨rfl,rfl⟩
 ·have c2:¬ n<0:=by omega
  go_wp2
  go_ret
  exact ⟨rfl,rfl⟩
set_option maxRecDepth 100000 in
set_option maxHeartbeats 4000000 in
theorem real_any {w:World} {A:Option Addr} {l c:Nat} {p:List Int} (h:I64At w A l c p) (hp:FcP p) :
 Calls Tryz.prog 107 #[.slice A l c] w fun e w'=>e=.returned (.int .i64 (realn p:Int))∧Below w.heap.size w w':=by
 rcases hp.irr with q1 | q1
 ·have hl1:l=2:=by rw [← h.length];exact q1.1
  subst hl1
  have HR:=Lib.hid (show realn p=1 by unfold realn;rw [if_pos q1.1])
  clear h hp q1
  go_enter Tryz.func107,Tryz.ntmps107
  go_wp2
  go_ret
  exact ⟨by rw [HR.out];rfl,Below.refl _ _⟩
 ·have hl1:l=3:=by rw [← h.length];exact q1.1
  subst hl1
  obtain ⟨b1,o1,rfl,hb1,hc1⟩:=h.at_ (by omega)
  have e0:=hc1 0 (by omega)
  have e1:=hc1 1 (by omega)
  have e2:=hc1 2 (by omega)
  rw [Nat.add_zero] at e0
  have HP:=Lib.hid (show realn p=if 0<p.getD 1 0*p.getD 1 0-4*p.getD 2 0*p.getD 0 0 then 2 else 0 by unfold realn;rw [if_neg (by rw [q1.1];decide)];rfl)
  have v0:=hp.bd 0
  have v1:=hp.bd 1
  have v2:=hp.bd 2
  obtain ⟨x0,hx0⟩:∃ x,x=p.getD 0 0:=⟨_,rfl⟩
  obtain ⟨x1,hx1⟩:∃ x,x=p.getD 1 0:=⟨_,rfl⟩
  obtain ⟨x2,hx2⟩:∃ x,x=p.getD 2 0:=⟨_,rfl⟩
  rw [← hx0] at e0 HP v0
  rw [← hx1] at e1 HP v1
  rw [← hx2] at e2 HP v2
  obtain ⟨y1,hy1⟩:∃ y,y=x1*x1:=⟨_,rfl⟩
  obtain ⟨y2,hy2⟩:∃ y,y=4*x2:=⟨_,rfl⟩
  obtain ⟨y3,hy3⟩:∃ y,y=y2*x0:=⟨_,rfl⟩
  have m1:y1.natAbs≤841:=by rw [hy1,Int.natAbs_mul];exact Nat.mul_le_mul v1 v1
  have m3:y3.natAbs≤116*29:=by rw [hy3,Int.natAbs_mul];exact Nat.mul_le_mul (by omega) v0
  have i1:IntKind.i64.wrap y1=y1:=IntWalk.i64_in _ (by omega)
  have i2:IntKind.i64.wrap y2=y2:=IntWalk.i64_in _ (by omega)
  have i3:IntKind.i64.wrap y3=y3:=IntWalk.i64_in _ (by omega)
  have i4:IntKind.i64.wrap (y1-y3)=y1-y3:=IntWalk.i64_in _ (by omega)
  have f1:x1*x1=y1:=hy1.symm
  have f2:4*x2=y2:=hy2.symm
  have f3:y2*x0=y3:=hy3.symm
  rw [f1,f2,f3] at HP
  clear hx0 hx1 hx2 hc1 h hp q1 hy1 hy2 hy3 v0 v1 v2 m1 m3
  go_enter Tryz.func107,Tryz.ntmps107
  go_wp2_with fail
  refine wp_region_held_drew (S:=fun w'=>w'.cell? ⟨b1,o1,none⟩=some (.int .i64 x0)∧w'.cell? ⟨b1,o1+1,none⟩=some (.int .i64 x1)∧w'.cell? ⟨b1,o1+2,none⟩=some (.int .i64 x2)) (by kernel_rfl) (by (try dsimp only);go_keep) (fun hHeld=>?_)
  (refine tk (i:=0) (v:=?_) rfl rfl (Or.inl ⟨by rfl,?_⟩) ?_;rotate_left;(focus (intro w hSw;(try dsimp only at hSw);go_simp;(try with_reducible rfl)));(simp only [put_lit,List.set]))
  (refine tk (i:=1) (v:=?_) rfl rfl (Or.inl ⟨by rfl,?_⟩) ?_;rotate_left;(focus (intro w hSw;(try dsimp only at hSw);go_simp;(try with_reducible rfl)));(simp only [put_lit,List.set]))
  (refine tk (i:=2) (v:=?_) rfl rfl (Or.inl ⟨by rfl,?_⟩) ?_;rotate_left;(focus (intro w hSw;(try dsimp only at hSw);go_simp;(try with_reducible rfl)));(simp only [put_lit,List.set]))
  (refine tk (i:=3) (v:=?_) rfl rfl (Or.inl ⟨by rfl,?_⟩) ?_;rotate_left;(focus (intro w hSw;(try dsimp only at hSw);go_simp;(try with_reducible rfl)));(simp only [put_lit,List.set]))
  (refine tk (i:=4) (v:=?_) rfl rfl (Or.inl ⟨by rfl,?_⟩) ?_;rotate_left;(focus (intro w hSw;(try dsimp only at hSw);go_simp;(try with_reducible rfl)));(simp only [put_lit,List.set]))
  (refine tk (i:=5) (v:=?_) rfl rfl (Or.inl ⟨by rfl,?_⟩) ?_;rotate_left;(focus (intro w hSw;(try dsimp only at hSw);go_simp;(try with_reducible rfl)));(simp only [put_lit,List.set]))
  (refine tk (i:=6) (v:=?_) rfl rfl (Or.inl ⟨by rfl,?_⟩) ?_;rotate_left;(focus (intro w hSw;(try dsimp only at hSw);go_simp;(try with_reducible rfl)));(simp only [put_lit,List.set]))
  (refine tk (i:=7) (v:=?_) rfl rfl (Or.inl ⟨by rfl,?_⟩) ?_;rotate_left;(focus (intro w hSw;(try dsimp only at hSw);go_simp;(try with_reducible rfl)));(simp only [put_lit,List.set]))
  (refine tk (i:=8) (v:=?_) rfl rfl (Or.inl ⟨by rfl,?_⟩) ?_;rotate_left;(focus (intro w hSw;(try dsimp only at hSw);go_simp;(try with_reducible rfl)));(simp only [put_lit,List.set]))
  (refine tk (i:=9) (v:=?_) rfl rfl (Or.inl ⟨by rfl,?_⟩) ?_;rotate_left;(focus (intro w hSw;(try dsimp only at hSw);go_simp;(try with_reducible rfl)));(simp only [put_lit,List.set]))
  (refine tk (i:=10) (v:=?_) rfl rfl (Or.inl ⟨by rfl,?_⟩) ?_;rotate_left;(focus (intro w hSw;(try dsimp only at hSw);go_simp;(try with_reducible rfl)));(simp only [put_lit,List.set]))
  (refine tk (i:=11) (v:=?_) rfl rfl (Or.inl ⟨by rfl,?_⟩) ?_;rotate_left;(focus (intro w hSw;(try dsimp only at hSw);go_simp;(try with_reducible rfl)));(simp only [put_lit,List.set]))
  (refine tk (i:=12) (v:=?_) rfl rfl (Or.inl ⟨by rfl,?_⟩) ?_;rotate_left;(focus (intro w hSw;(try dsimp only at hSw);go_simp;(try with_reducible rfl)));(simp only [put_lit,List.set]))
  (refine tk (i:=13) (v:=?_) rfl rfl (Or.inl ⟨by rfl,?_⟩) ?_;rotate_left;(focus (intro w hSw;(try dsimp only at hSw);go_simp;(try with_reducible rfl)));(simp only [put_lit,List.set]))
  (refine tk (i:=14) (v:=?_) rfl rfl (Or.inl ⟨by rfl,?_⟩) ?_;rotate_left;(focus (intro w hSw;(try dsimp only at hSw);go_simp;(try with_reducible rfl)));(simp only [put_lit,List.set]))
  (refine tk (i:=15) (v:=?_) rfl rfl (Or.inl ⟨by rfl,?_⟩) ?_;rotate_left;(focus (intro w hSw;(try dsimp only at hSw);go_simp;(try with_reducible rfl)));(simp only [put_lit,List.set]))
  (refine tk (i:=16) (v:=?_) rfl rfl (Or.inl ⟨by rfl,?_⟩) ?_;rotate_left;(focus (intro w hSw;(try dsimp only at hSw);go_simp;(try with_reducible rfl)));(simp only [put_lit,List.set]))
  refine wpAnyH_done (by kernel_rfl) ?_ _
  clear hHeld i1 i2 i3 f1 f2 f3
  by_cases cd:0<y1-y3
  ·rw [if_pos cd] at HP
   have cd':y3<y1:=by omega
   go_wp2
   go_ret
   exact ⟨by rw [HP.out];rfl,below_drewn (Below.refl _ _) _⟩
  ·rw [if_neg cd] at HP
   have cd':¬ y3<y1:=by omega
   go_wp2
   go_ret
   exact ⟨by rw [HP.out];rfl,below_drewn (Below.refl _ _) _⟩
set_option maxRecDepth 100000 in
set_option maxHeartbeats 4000000 in
theorem at15_any {w:World} {A:Option Addr} {l c:Nat} {f:List Int} (h:I64At w A l c f) (n d:Int) (hl:l≤100) {M Z:Nat} (hM:1≤M) (hZ:1≤Z) (hn:n.natAbs≤Z) (hd:d.natAbs≤Z) (hf:∀ j,(f.getD j 0).natAbs≤M) (hs:(l+1)*(M*Z^(l+1))≤4611686018427387904) :
 Calls Tryz.prog 109 #[.slice A l c,.int .i64 n,.int .i64 d] w fun e w'=>e=.returned (.int .i64 (sg (atv n d f)))∧Below w.heap.size w w':=by
 have H:=Lib.hid h
 have Hll:=Lib.hid h.length
 have hZl:∀ k,k≤l+1→M*Z^k≤4611686018427387904:=fun k hk=>by
  have h1:Z^k≤Z^(l+1):=Nat.pow_le_pow_right hZ hk
  have h2:M*Z^k≤M*Z^(l+1):=Nat.mul_le_mul_left _ h1
  have h3:M*Z^(l+1)≤(l+1)*(M*Z^(l+1)):=Nat.le_mul_of_pos_left _ (by omega)
  omega
 have HZL:=Lib.hid hZl
 -- the value of the upper coefficients
 have HV:=Lib.hid (show ∀ k,k≤l→(atv n d (f.drop k)).natAbs≤4611686018427387904∧(atv n d (f.drop k)*n).natAbs≤4611686018427387904 from fun k hk=>by
  have h1:=atv_bd (M:=M) hZ hn hd (f.drop k) fun j=>by
   rw [List.getD_eq_getElem?_getD,List.getElem?_drop,← List.getD_eq_getElem?_getD]
   exact hf _
  have hlk:(f.drop k).length≤l:=by rw [List.length_drop,h.length];omega
  generalize (f.drop k).length=m at h1 hlk
  have h2:M*Z^m≤M*Z^l:=Nat.mul_le_mul_left _ (Nat.pow_le_pow_right hZ hlk)
  have h3:m*(M*Z^m)≤l*(M*Z^l):=Nat.mul_le_mul hlk h2
  have h4:l*(M*Z^l)*Z=l*(M*Z^(l+1)):=by rw [Nat.pow_succ,Nat.mul_assoc,Nat.mul_assoc]
  have h5:l*(M*Z^(l+1))≤(l+1)*(M*Z^(l+1)):=Nat.mul_le_mul_right _ (Nat.le_succ _)
  have h6:l*(M*Z^l)≤l*(M*Z^l)*Z:=Nat.le_mul_of_pos_right _ hZ
  refine ⟨by omega,?_⟩
  rw [Int.natAbs_mul]
  have h7:(atv n d (f.drop k)).natAbs*n.natAbs≤l*(M*Z^l)*Z:=Nat.mul_le_mul (by omega) hn
  omega)
 have HP:=Lib.hid (show ∀ k,k≤l+1→(d^k).natAbs≤4611686018427387904 from fun k hk=>by
  rw [Int.natAbs_pow]
  have h1:=Nat.pow_le_pow_left hd k
  have h2:=hZl k hk
  have h3:Z^k≤M*Z^k:=Nat.le_mul_of_pos_left _ hM
  omega)
 have HM:=Lib.hid (show ∀ j k,k≤l→(f.getD j 0*d^k).natAbs≤4611686018427387904 from fun j k hk=>by
  rw [Int.natAbs_mul,Int.natAbs_pow]
  have h1:(f.getD j 0).natAbs*d.natAbs^k≤M*Z^k:=Nat.mul_le_mul (hf j) (Nat.pow_le_pow_left hd k)
  have h2:=hZl k (by omega)
  omega)
 clear h hf hs hZl hM hZ hn hd
 have iw:IntKind.i64.wrap ((l:Int)-1)=(l:Int)-1:=IntWalk.i64_in _ (by omega)
 go_enter Tryz.func109,Tryz.ntmps109
 go_wp2
 go_loopw [7,8,9] (fun s7 s8 s9 wr=>∃ j:Nat,j≤l∧s7=.int .i64 (atv n d (f.drop j))∧s8=.int .i64 (d^(l-j))∧s9=.int .i64 ((j:Int)-1)∧Below w.heap.size w wr) (fun _ _ s9 _=>(intOf s9+1).toNat)
 case atStart=>exact ⟨l,Nat.le_refl _,by rw [List.drop_of_length_le (by rw [Hll.out];exact Nat.le_refl _)];rfl,by rw [Nat.sub_self,Int.pow_zero],rfl,Below.refl _ _⟩
 case round =>
  obtain ⟨j,hj,rfl,rfl,rfl,hbw⟩:=hrel
  have Hbw:=Lib.hid hbw
  by_cases h0:0<j
  ·obtain ⟨i,rfl⟩:∃ i,j=i+1:=⟨j-1,by omega⟩
   obtain ⟨b,o,rfl,hb,hc⟩:=(H.out.below hbw).at_ (by omega)
   have e1:=hc i (by omega)
   have hd1:f.drop i=f.getD i 0 :: f.drop (i+1):=by
    have hil:i<f.length:=by rw [Hll.out];omega
    rw [List.drop_eq_getElem_cons hil,List.getD_eq_getElem?_getD,List.getElem?_eq_getElem hil]
    rfl
   have hA:atv n d (f.drop i)=atv n d (f.drop (i+1))*n+f.getD i 0*d^(l-(i+1)):=by
    rw [hd1]
    show atv n d (f.drop (i+1))*n+f.getD i 0*d^(f.drop (i+1)).length=_
    rw [List.length_drop,Hll.out]
   have hD:d^(l-i)=d^(l-(i+1))*d:=by rw [← Int.pow_succ];congr 1;omega
   have b1:=(HV.out (i+1) hj).2
   have b2:=HM.out i (l-(i+1)) (by omega)
   have b3:=(HV.out i (by omega)).1
   have b4:=HP.out (l-i) (by omega)
   rw [hA] at b3
   rw [hD] at b4
   have HA:=Lib.hid hA
   have HD:=Lib.hid hD
   obtain ⟨V,hV⟩:∃ V,V=atv n d (f.drop (i+1)):=⟨_,rfl⟩
   obtain ⟨P,hP⟩:∃ P,P=d^(l-(i+1)):=⟨_,rfl⟩
   obtain ⟨x,hx⟩:∃ x,x=f.getD i 0:=⟨_,rfl⟩
   rw [← hV] at b1 b3 HA ⊢
   rw [← hP] at b2 b3 b4 HA HD ⊢
   rw [← hx] at b2 b3 e1 HA
   have i0:((i+1:Nat):Int)-1=(i:Int):=by omega
   have i1:IntKind.i64.wrap (V*n)=V*n:=IntWalk.i64_in _ (by omega)
   have i2:IntKind.i64.wrap (x*P)=x*P:=IntWalk.i64_in _ (by omega)
   have i3:IntKind.i64.wrap (V*n+x*P)=V*n+x*P:=IntWalk.i64_in _ (by omega)
   have i4:IntKind.i64.wrap (P*d)=P*d:=IntWalk.i64_in _ (by omega)
   have i5:IntKind.i64.wrap ((i:Int)-1)=(i:Int)-1:=IntWalk.i64_in _ (by omega)
   have i6:(i:Int)<(l:Int):=by omega
   have i7:(0:Int)≤(i:Int):=by omega
   have Hi:=Lib.hid (show i≤l by omega)
   rw [i0]
   clear hV hP hx hd1 hA hD hc hb hbw b1 b2 b3 b4 hj h0
   go_wp2
   go_roundw
   case rel=>exact ⟨i,Hi.out,by rw [HA.out],by rw [HD.out],rfl,Hbw.out⟩
   case measure=>simp [intOf]
  ·obtain rfl:j=0:=by omega
   have HE:f.drop 0=f:=rfl
   rw [HE]
   clear hbw hj h0
   go_wp2_with fail
   refine (sign15_any _ _).mono ?_
   rintro e w2 ⟨rfl,hw2⟩
   obtain rfl:=hw2
   go_wp2
   go_ret
   exact ⟨rfl,Hbw.out⟩
end Go.Proofs.YtjmglmgokfcgoaaGreat
namespace Go.Proofs.YtjmglmgokfcgoaaGreat
open Go Go.RowKit
theorem sg_neg_iff (n:Int):sg n<0↔n<0:=by rcases sg_cases n with ⟨c,e⟩ | ⟨c,e⟩ | ⟨c,e⟩<;>omega
set_option maxRecDepth 100000 in
set_option maxHeartbeats 4000000 in
theorem cmp15_any {w:World} {A:Option Addr} {l c:Nat} {p:List Int} (h:I64At w A l c p) (hp:FcP p) (k:Nat) (hk:k≤1) (n d:Int) (hn:n.natAbs≤128) (hd:d.natAbs≤128) :
 Calls Tryz.prog 169 #[.slice A l c,.int .i64 (k:Int),.int .i64 n,.int .i64 d] w fun e w'=>e=.returned (.int .i64 (cmpv p k n d))∧Below w.heap.size w w':=by
 have H:=Lib.hid h
 have hl3:l=2∨l=3:=by rw [← h.length];exact hp.len
 have HB:=Lib.hid hp.bd
 go_enter Tryz.func169,Tryz.ntmps169
 rcases hl3 with rfl | rfl
 ·have HC:=Lib.hid (show cmpv p k n d=-sg (atv n d p) by unfold cmpv;rw [if_pos h.length])
  generalize cmpv p k n d=C at HC ⊢
  clear h hp
  go_wp2_with fail
  refine (at15_any H.out n d (by omega) (M:=29) (Z:=128) (by decide) (by decide) hn hd HB.out (by decide)).mono ?_
  rintro e w1 ⟨rfl,hb1⟩
  have hs:=sg_cases (atv n d p)
  generalize sg (atv n d p)=S at hs HC
  have i1:IntKind.i64.wrap (-S)=-S:=IntWalk.i64_in _ (by omega)
  have Hb1:=Lib.hid hb1
  clear hs hb1
  go_wp2
  go_ret
  exact ⟨by rw [HC.out];rfl,Hb1.out⟩
 ·have HC:=Lib.hid (show cmpv p k n d=if atv n d p<0 then 2*(k:Int)-1 else if -p.getD 1 0*d<2*p.getD 2 0*n then -1 else 1 by unfold cmpv;rw [if_neg (by rw [h.length];decide)])
  generalize cmpv p k n d=C at HC ⊢
  clear h hp
  go_wp2_with fail
  refine (at15_any H.out n d (by omega) (M:=29) (Z:=128) (by decide) (by decide) hn hd HB.out (by decide)).mono ?_
  rintro e w1 ⟨rfl,hb1⟩
  have hs:=sg_cases (atv n d p)
  have hsn:=sg_neg_iff (atv n d p)
  generalize sg (atv n d p)=S at hs hsn ⊢
  have Hb1:=Lib.hid hb1
  by_cases c0:S<0
  ·rw [if_pos (hsn.1 c0)] at HC
   have i1:IntKind.i64.wrap (2*(k:Int))=2*(k:Int):=IntWalk.i64_in _ (by omega)
   have i2:IntKind.i64.wrap (2*(k:Int)-1)=2*(k:Int)-1:=IntWalk.i64_in _ (by omega)
   clear hs hsn hb1
   go_wp2
   go_ret
   exact ⟨by rw [HC.out];rfl,Hb1.out⟩
  ·rw [if_neg (fun h=>c0 (hsn.2 h))] at HC
   obtain ⟨b1,o1,rfl,hb,hc1⟩:=(H.out.below hb1).at_ (by omega)
   have e1:=hc1 1 (by omega)
   have e2:=hc1 2 (by omega)
   have v1:=HB.out 1
   have v2:=HB.out 2
   obtain ⟨x1,hx1⟩:∃ x,x=p.getD 1 0:=⟨_,rfl⟩
   obtain ⟨x2,hx2⟩:∃ x,x=p.getD 2 0:=⟨_,rfl⟩
   rw [← hx1] at e1 HC v1
   rw [← hx2] at e2 HC v2
   obtain ⟨y1,hy1⟩:∃ y,y=2*x2:=⟨_,rfl⟩
   obtain ⟨y2,hy2⟩:∃ y,y=y1*n:=⟨_,rfl⟩
   obtain ⟨y3,hy3⟩:∃ y,y=-x1:=⟨_,rfl⟩
   obtain ⟨y4,hy4⟩:∃ y,y=y3*d:=⟨_,rfl⟩
   have m2:y2.natAbs≤58*128:=by rw [hy2,Int.natAbs_mul];exact Nat.mul_le_mul (by omega) hn
   have m4:y4.natAbs≤29*128:=by rw [hy4,Int.natAbs_mul];exact Nat.mul_le_mul (by omega) hd
   have i1:IntKind.i64.wrap y1=y1:=IntWalk.i64_in _ (by omega)
   have i2:IntKind.i64.wrap y2=y2:=IntWalk.i64_in _ (by omega)
   have i3:IntKind.i64.wrap y3=y3:=IntWalk.i64_in _ (by omega)
   have i4:IntKind.i64.wrap y4=y4:=IntWalk.i64_in _ (by omega)
   have f1:2*x2=y1:=hy1.symm
   have f2:y1*n=y2:=hy2.symm
   have f3:-x1=y3:=hy3.symm
   have f4:y3*d=y4:=hy4.symm
   rw [f3,f1,f4,f2] at HC
   clear hx1 hx2 hc1 hy1 hy2 hy3 hy4 v1 v2 m2 m4 hs hsn hb1
   go_wp2_with fail
   refine wp_region_held_drew (S:=fun w'=>w'.cell? ⟨b1,o1+1,none⟩=some (.int .i64 x1)∧w'.cell? ⟨b1,o1+2,none⟩=some (.int .i64 x2)) (by kernel_rfl) (by (try dsimp only);go_keep) (fun hHeld=>?_)
   (refine tk (i:=0) (v:=?_) rfl rfl (Or.inl ⟨by rfl,?_⟩) ?_;rotate_left;(focus (intro w hSw;(try dsimp only at hSw);go_simp;(try with_reducible rfl)));(simp only [put_lit,List.set]))
   (refine tk (i:=1) (v:=?_) rfl rfl (Or.inl ⟨by rfl,?_⟩) ?_;rotate_left;(focus (intro w hSw;(try dsimp only at hSw);go_simp;(try with_reducible rfl)));(simp only [put_lit,List.set]))
   (refine tk (i:=2) (v:=?_) rfl rfl (Or.inl ⟨by rfl,?_⟩) ?_;rotate_left;(focus (intro w hSw;(try dsimp only at hSw);go_simp;(try with_reducible rfl)));(simp only [put_lit,List.set]))
   (refine tk (i:=3) (v:=?_) rfl rfl (Or.inl ⟨by rfl,?_⟩) ?_;rotate_left;(focus (intro w hSw;(try dsimp only at hSw);go_simp;(try with_reducible rfl)));(simp only [put_lit,List.set]))
   (refine tk (i:=4) (v:=?_) rfl rfl (Or.inl ⟨by rfl,?_⟩) ?_;rotate_left;(focus (intro w hSw;(try dsimp only at hSw);go_simp;(try with_reducible rfl)));(simp only [put_lit,List.set]))
   (refine tk (i:=5) (v:=?_) rfl rfl (Or.inl ⟨by rfl,?_⟩) ?_;rotate_left;(focus (intro w hSw;(try dsimp only at hSw);go_simp;(try with_reducible rfl)));(simp only [put_lit,List.set]))
   (refine tk (i:=6) (v:=?_) rfl rfl (Or.inl ⟨by rfl,?_⟩) ?_;rotate_left;(focus (intro w hSw;(try dsimp only at hSw);go_simp;(try with_reducible rfl)));(simp only [put_lit,List.set]))
   (refine tk (i:=7) (v:=?_) rfl rfl (Or.inl ⟨by rfl,?_⟩) ?_;rotate_left;(focus (intro w hSw;(try dsimp only at hSw);go_simp;(try with_reducible rfl)));(simp only [put_lit,List.set]))
   (refine tk (i:=8) (v:=?_) rfl rfl (Or.inl ⟨by rfl,?_⟩) ?_;rotate_left;(focus (intro w hSw;(try dsimp only at hSw);go_simp;(try with_reducible rfl)));(simp only [put_lit,List.set]))
   (refine tk (i:=9) (v:=?_) rfl rfl (Or.inl ⟨by rfl,?_⟩) ?_;rotate_left;(focus (intro w hSw;(try dsimp only at hSw);go_simp;(try with_reducible rfl)));(simp only [put_lit,List.set]))
   (refine tk (i:=10) (v:=?_) rfl rfl (Or.inl ⟨by rfl,?_⟩) ?_;rotate_left;(focus (intro w hSw;(try dsimp only at hSw);go_simp;(try with_reducible rfl)));(simp only [put_lit,List.set]))
   (refine tk (i:=11) (v:=?_) rfl rfl (Or.inl ⟨by rfl,?_⟩) ?_;rotate_left;(focus (intro w hSw;(try dsimp only at hSw);go_simp;(try with_reducible rfl)));(simp only [put_lit,List.set]))
   (refine tk (i:=12) (v:=?_) rfl rfl (Or.inl ⟨by rfl,?_⟩) ?_;rotate_left;(focus (intro w hSw;(try dsimp only at hSw);go_simp;(try with_reducible rfl)));(simp only [put_lit,List.set]))
   refine wpAnyH_done (by kernel_rfl) ?_ _
   clear hHeld i1 i2 i3 f1 f2 f3
   by_cases cd:y4<y2
   ·rw [if_pos cd] at HC
    go_wp2
    go_ret
    exact ⟨by rw [HC.out];rfl,below_drewn Hb1.out _⟩
   ·rw [if_neg cd] at HC
    go_wp2
    go_ret
    exact ⟨by rw [HC.out];rfl,below_drewn Hb1.out _⟩
def inb (p:List Int) (k:Nat) (a b a' b':Int):Bool:=decide (0<cmpv p k (frn a b) (frd b)) && decide (cmpv p k (frn a' b') (frd b')≤0)
set_option maxRecDepth 100000 in
set_option maxHeartbeats 4000000 in
theorem in15_any {w:World} {A:Option Addr} {l c:Nat} {p:List Int} (h:I64At w A l c p) (hp:FcP p) (k:Nat) (hk:k≤1) (a b a' b':Int) (ha:I8 a) (hb:I8 b) (ha':I8 a') (hb':I8 b') :
 Calls Tryz.prog 108 #[.slice A l c,.int .i64 (k:Int),.agg #[.int .i8 a,.int .i8 b],.agg #[.int .i8 a',.int .i8 b']] w fun e w'=>e=.returned (.bool (inb p k a b a' b'))∧Below w.heap.size w w':=by
 obtain ⟨n1,n2,n3⟩:=fr_bd ha hb
 obtain ⟨n4,n5,n6⟩:=fr_bd ha' hb'
 have H:=Lib.hid h
 have HP:=Lib.hid hp
 have HI:=Lib.hid (show inb p k a b a' b'=(decide (0<cmpv p k (frn a b) (frd b)) && decide (cmpv p k (frn a' b') (frd b')≤0)) from rfl)
 generalize inb p k a b a' b'=R at HI ⊢
 have hbx:Below w.heap.size w (w.alloc (.cells #[.int .i8 a,.int .i8 b] 66)):=below_new _ _
 have hby:Below (w.alloc (.cells #[.int .i8 a,.int .i8 b] 66)).heap.size (w.alloc (.cells #[.int .i8 a,.int .i8 b] 66)) ((w.alloc (.cells #[.int .i8 a,.int .i8 b] 66)).alloc (.cells #[.int .i8 a',.int .i8 b'] 66)):=below_new _ _
 have hb0:=hbx.trans (hby.mono hbx.size)
 have P1:=Lib.hid ((Pai.make w a b 66).move hby)
 have P2:=Lib.hid (Pai.make (w.alloc (.cells #[.int .i8 a,.int .i8 b] 66)) a' b' 66)
 have Hb:=Lib.hid hb0
 have H1:=Lib.hid (h.below hb0)
 obtain ⟨wb,hwb⟩:∃ wb,wb=((w.alloc (.cells #[.int .i8 a,.int .i8 b] 66)).alloc (.cells #[.int .i8 a',.int .i8 b'] 66)):=⟨_,rfl⟩
 have hg2:(w.alloc (.cells #[.int .i8 a,.int .i8 b] 66)).heap.size=w.heap.size+1:=by simp
 rw [hg2] at P2
 rw [← hwb] at P1 P2 Hb H1
 clear hbx hby hb0 h hp hg2
 go_enter Tryz.func108,Tryz.ntmps108
 have s0:=P1.out.c0
 have s1:=P1.out.c1
 have t0:=P2.out.c0
 have t1:=P2.out.c1
 rw [hwb] at s0 s1 t0 t1
 go_wp2_with fail
 rw [← hwb]
 refine (frac_any a b _ ha hb).mono ?_
 rintro e w1 ⟨rfl,hb1⟩
 have P21:=Lib.hid (P2.out.move hb1)
 have u0:=P21.out.c0
 have u1:=P21.out.c1
 have H11:=Lib.hid (H1.out.below hb1)
 have Hb1:=Lib.hid (Hb.out.trans (hb1.mono Hb.out.size))
 clear s0 s1 t0 t1 hb1 hwb
 go_wp2_with fail
 refine (frac_any a' b' _ ha' hb').mono ?_
 rintro e w2 ⟨rfl,hb2⟩
 have H2:=Lib.hid (H11.out.below hb2)
 have Hb2:=Lib.hid (Hb1.out.trans (hb2.mono Hb1.out.size))
 clear u0 u1 hb2
 generalize frn a b=na at *
 generalize frd b=da at *
 generalize frn a' b'=nb at *
 generalize frd b'=db at *
 go_wp2_with fail
 refine (cmp15_any H2.out HP.out k hk na da n1 (by omega)).mono ?_
 rintro e w3 ⟨rfl,hb3⟩
 have H3:=Lib.hid (H2.out.below hb3)
 have Hb3:=Lib.hid (Hb2.out.trans (hb3.mono Hb2.out.size))
 clear hb3
 generalize cmpv p k na da=C1 at HI ⊢
 by_cases c1:0<C1
 ·rw [decide_eq_true c1,Bool.true_and] at HI
  go_wp2_with fail
  refine (cmp15_any H3.out HP.out k hk nb db n4 (by omega)).mono ?_
  rintro e w4 ⟨rfl,hb4⟩
  have Hb4:=Lib.hid (Hb3.out.trans (hb4.mono Hb3.out.size))
  clear hb4
  generalize cmpv p k nb db=C2 at HI ⊢
  go_wp2
  go_ret
  exact ⟨by rw [HI.out];rfl,Hb4.out⟩
 ·rw [decide_eq_false c1,Bool.false_and] at HI
  go_wp2
  go_ret
  exact ⟨by rw [HI.out];rfl,Hb3.out⟩
end Go.Proofs.YtjmglmgokfcgoaaGreat
namespace Go.Proofs.YtjmglmgokfcgoaaGreat
open Go Go.RowKit
theorem realn_le (p:List Int):realn p≤2:=by
 unfold realn
 repeat' split
 all_goals omega
theorem ksum_bd {j:Nat→Int} (h:∀ k,(j k).natAbs≤1):∀ n,(ksum j n).natAbs≤n
 | 0=>Nat.le_refl _
 | n+1=>by
   have h1:=ksum_bd h n
   have h2:=h n
   show (ksum j n+j n).natAbs≤n+1
   omega
structure FsI (w:World) (A:Option Addr) (l i:Nat) (fs:List (List Int×Nat)) (r:List Int) (b o:Nat) (A1:Option Addr) (l1 c1:Nat):Prop where
 eq:A=some ⟨b,o,none⟩
 cell:w.cell? ⟨b,o+i*2,none⟩=some (.slice A1 l1 c1)
 lt:b<w.heap.size
 at_:I64At w A1 l1 c1 r
theorem fs_i {w:World} {A:Option Addr} {l c:Nat} {fs:List (List Int×Nat)} (h:FsAt w A l c fs) {i:Nat} (hi:i<l):∃ b o A1 l1 c1,FsI w A l i fs (fs.getD i ([],0)).1 b o A1 l1 c1:=by
 rcases h.elems with ⟨h0,_⟩ | ⟨b,o,e,hb,hv⟩
 ·omega
 ·obtain ⟨vs,⟨A1,l1,c1,ev,h1⟩,hc⟩:=hv i _ (getD_fs (by rw [h.length];exact hi))
  subst ev
  have:=hc 0 _ rfl
  rw [Nat.add_zero] at this
  exact ⟨b,o,A1,l1,c1,e,this,hb,h1⟩
theorem FsI.below {w w':World} {A:Option Addr} {l i:Nat} {fs:List (List Int×Nat)} {r:List Int} {b o:Nat} {A1:Option Addr} {l1 c1:Nat} (h:FsI w A l i fs r b o A1 l1 c1) (hb:Below w.heap.size w w'):FsI w' A l i fs r b o A1 l1 c1 :=
 ⟨h.eq,(hb.cell (p:=⟨b,o+i*2,none⟩) h.lt).trans h.cell,Nat.lt_of_lt_of_le h.lt hb.size,h.at_.below hb⟩
end Go.Proofs.YtjmglmgokfcgoaaGreat
namespace Go.Proofs.YtjmglmgokfcgoaaGreat
open Go Go.RowKit
theorem fsum_app (J:List Int→Int) (x:List Int×Nat):∀ l:List (List Int×Nat),fsum J (l ++ [x])=fsum J l+(x.2:Int)*J x.1
 | []=>by show (x.2:Int)*J x.1+0=0+_;omega
 | (r,m) :: l=>by
   show (m:Int)*J r+fsum J (l ++ [x])=(m:Int)*J r+fsum J l+_
   rw [fsum_app J x l]
   omega
def wsum (j:List Int→Nat→Int) (l:List (List Int×Nat)):Int:=fsum (fun p=>ksum (j p) (realn p)) l
theorem wsum_bd {j:List Int→Nat→Int} (h:∀ p k,(j p k).natAbs≤1):∀ (l:List (List Int×Nat)),(∀ x∈l,x.2≤100)→(wsum j l).natAbs≤200*l.length
 | [],_=>Nat.le_refl _
 | (r,m) :: l,hm=>by
   have h1:=wsum_bd h l fun x hx=>hm x (List.mem_cons_of_mem _ hx)
   have h2:((m:Int)*ksum (j r) (realn r)).natAbs≤100*2:=by
    rw [Int.natAbs_mul,Int.natAbs_natCast]
    exact Nat.mul_le_mul (hm _ (List.mem_cons_self ..)) (Nat.le_trans (ksum_bd (h r) _) (realn_le r))
   have e:wsum j ((r,m) :: l)=(m:Int)*ksum (j r) (realn r)+wsum j l:=rfl
   rw [e,List.length_cons]
   omega
theorem fs_p {w:World} {b o l c:Nat} {fs:List (List Int×Nat)} (h:FsAt w (some ⟨b,o,none⟩) l c fs) {i:Nat} (hi:i<l):w.cell? ⟨b,o+i*2+1,none⟩=some (.int .i64 (((fs.getD i ([],0)).2:Nat):Int)):=by
 rcases h.elems with ⟨h0,_⟩ | ⟨b',o',e,hb,hv⟩
 ·omega
 ·injection e with e
  injection e with e1 e2 e3
  subst e1 e2
  obtain ⟨vs,⟨A1,l1,c1,ev,h1⟩,hc⟩:=hv i _ (getD_fs (by rw [h.length];exact hi))
  subst ev
  exact hc 1 _ rfl
set_option maxRecDepth 100000 in
set_option maxHeartbeats 8000000 in
theorem count17_any {w:World} {A:Option Addr} {l c:Nat} {fs:List (List Int×Nat)} (hF:FsAt w A l c fs) (hl:l≤100) (hs:∀ x∈fs,FcP x.1) (hpw:∀ x∈fs,x.2≤100) (a b a' b':Int) (ha:I8 a) (hb:I8 b) (ha':I8 a') (hb':I8 b') :
 Calls Tryz.prog 36 #[.slice A l c,.agg #[.int .i8 a,.int .i8 b],.agg #[.int .i8 a',.int .i8 b']] w fun e w'=>e=.returned (.int .i64 (wsum (fun p k=>if inb p k a b a' b' then 1 else 0) fs))∧Below w.heap.size w w':=by
 have HS:=Lib.hid hs
 have Hll:=Lib.hid hF.length
 have HSB:=Lib.hid (fun n=>wsum_bd (j:=fun p k=>if inb p k a b a' b' then 1 else 0) (fun p k=>by split<;>decide) (fs.take n) (fun x hx=>hpw x (List.mem_of_mem_take hx)))
 have HPW:=Lib.hid hpw
 have hbx:Below w.heap.size w (w.alloc (.cells #[.int .i8 a,.int .i8 b] 66)):=below_new _ _
 have hby:Below (w.alloc (.cells #[.int .i8 a,.int .i8 b] 66)).heap.size (w.alloc (.cells #[.int .i8 a,.int .i8 b] 66)) ((w.alloc (.cells #[.int .i8 a,.int .i8 b] 66)).alloc (.cells #[.int .i8 a',.int .i8 b'] 66)):=below_new _ _
 have hb0:=hbx.trans (hby.mono hbx.size)
 have P1:=Lib.hid ((Pai.make w a b 66).move hby)
 have P2:=Lib.hid (Pai.make (w.alloc (.cells #[.int .i8 a,.int .i8 b] 66)) a' b' 66)
 have Hb:=Lib.hid hb0
 have H1:=Lib.hid (fs_below hF hb0)
 obtain ⟨wb,hwb⟩:∃ wb,wb=((w.alloc (.cells #[.int .i8 a,.int .i8 b] 66)).alloc (.cells #[.int .i8 a',.int .i8 b'] 66)):=⟨_,rfl⟩
 have hg2:(w.alloc (.cells #[.int .i8 a,.int .i8 b] 66)).heap.size=w.heap.size+1:=by simp
 rw [hg2] at P2
 rw [← hwb] at P1 P2 Hb H1
 have HWB:=Lib.hid hwb
 clear hbx hby hb0 hF hs hg2 hpw
 obtain ⟨j,hj⟩:∃ j:List Int→Nat→Int,j=fun p k=>if inb p k a b a' b' then 1 else 0:=⟨_,rfl⟩
 rw [← hj] at HSB ⊢
 have HJ:=Lib.hid (show ∀ p k,(inb p k a b a' b'=true→j p k=1)∧(inb p k a b a' b'=false→j p k=0) from fun p k=>by
  rw [hj]
  refine ⟨fun h=>if_pos h,fun h=>if_neg (by rw [h];decide)⟩)
 have HJB:=Lib.hid (show ∀ p k,(j p k).natAbs≤1 from fun p k=>by rw [hj];dsimp only;split<;>decide)
 clear hj hwb
 go_enter Tryz.func36,Tryz.ntmps36
 go_wp2
 rw [← HWB.out]
 go_loopw [7,8] (fun s7 s8 wr=>∃ i:Nat,i≤l∧s7=.int .i64 (wsum j (fs.take i))∧s8=.int .i64 (i:Int)∧Below wb.heap.size wb wr) (fun _ s8 _=>l-(intOf s8).toNat)
 case atStart=>exact ⟨0,Nat.zero_le _,rfl,rfl,Below.refl _ _⟩
 case round =>
  obtain ⟨i,hi,rfl,rfl,hbw⟩:=hrel
  obtain ⟨wo,rfl⟩:∃ wo:World,wo=wr:=⟨_,rfl⟩
  have HF1:=Lib.hid (fs_below H1.out hbw)
  have P11:=Lib.hid (P1.out.move hbw)
  have P21:=Lib.hid (P2.out.move hbw)
  have Hbw:=Lib.hid hbw
  obtain ⟨N,hN⟩:∃ N,N=wsum j (fs.take i):=⟨_,rfl⟩
  rw [← hN]
  have hN2:=HSB.out i
  rw [← hN] at hN2
  have hlen:(fs.take i).length≤100:=by rw [List.length_take,Hll.out];omega
  have HN:=Lib.hid hN
  clear hN hbw
  by_cases hlt:i<l
  ·have Hlt:=Lib.hid hlt
   have hif:i<fs.length:=by rw [Hll.out];exact hlt
   obtain ⟨b0,o0,A1,l1,c1,hfi⟩:=fs_i HF1.out hlt
   obtain rfl:=hfi.eq
   have HFI:=Lib.hid hfi
   have hmem:fs.getD i ([],0)∈fs:=by rw [List.getD_eq_getElem?_getD,List.getElem?_eq_getElem hif];exact List.getElem_mem _
   have HQ:=Lib.hid (HS.out _ hmem)
   have HT:=Lib.hid (show wsum j (fs.take (i+1))=N+((fs.getD i ([],0)).2:Int)*ksum (j (fs.getD i ([],0)).1) (realn (fs.getD i ([],0)).1) by unfold wsum at HN ⊢;rw [take_snoc hif ([],0),fsum_app,HN.out])
   have hM:=HPW.out _ hmem
   have PW:=Lib.hid (fs_p HF1.out hlt)
   obtain ⟨r,hr⟩:∃ r,r=(fs.getD i ([],0)).1:=⟨_,rfl⟩
   rw [← hr] at HFI HT HQ
   obtain ⟨m,hm⟩:∃ m,m=(fs.getD i ([],0)).2:=⟨_,rfl⟩
   rw [← hm] at HT hM PW
   have Hr2:=Lib.hid (realn_le r)
   have Hkb:=Lib.hid (fun n (hn:n≤2)=>show ((m:Int)*ksum (j r) n).natAbs≤200 by rw [Int.natAbs_mul,Int.natAbs_natCast];exact Nat.mul_le_mul hM (Nat.le_trans (ksum_bd (HJB.out r) n) hn))
   have HNB:=Lib.hid (show N.natAbs≤20000 by omega)
   have ti0:(i:Int)<(l:Int):=by omega
   clear hr hm hmem hif hi hN2 hlen hfi hlt
   go_wp2
   go_loopw [7,9] (fun s7 s9 wx=>∃ k:Nat,k≤realn r∧s7=.int .i64 (N+(m:Int)*ksum (j r) k)∧s9=.int .i64 (k:Int)∧Below wo.heap.size wo wx) (fun _ s9 _=>realn r-(intOf s9).toNat)
   case atStart=>exact ⟨0,Nat.zero_le _,by rw [show ksum (j r) 0=0 from rfl,Int.mul_zero,Int.add_zero],rfl,Below.refl _ _⟩
   case round =>
    obtain ⟨k,hk,rfl,rfl,hbx⟩:=hrel
    have HF2:=Lib.hid (HFI.out.below hbx)
    have e1:=HF2.out.cell
    have Hbx:=Lib.hid hbx
    have P12:=Lib.hid (P11.out.move hbx)
    have P22:=Lib.hid (P21.out.move hbx)
    obtain ⟨K,hK⟩:∃ K,K=N+(m:Int)*ksum (j r) k:=⟨_,rfl⟩
    have hKb:K.natAbs≤20200:=by have:=Hkb.out k (Nat.le_trans hk Hr2.out);have:=HNB.out;omega
    have HK:=Lib.hid hK
    rw [← hK]
    clear hK hbx
    go_wp2_with fail
    refine (real_any HF2.out.at_ HQ.out).mono ?_
    rintro e w3 ⟨rfl,hb3⟩
    have Hb3:=Lib.hid (Hbx.out.trans (hb3.mono Hbx.out.size))
    have HF3:=Lib.hid (HF2.out.below hb3)
    have P13:=Lib.hid (P12.out.move hb3)
    have P23:=Lib.hid (P22.out.move hb3)
    clear e1 hb3
    by_cases hkr:k<realn r
    ·have ti:(k:Int)<(realn r:Int):=by omega
     have tw:IntKind.i64.wrap ((k:Int)+1)=(k:Int)+1:=IntWalk.i64_in _ (by have:=Hr2.out;omega)
     have tK:IntKind.i64.wrap (K+(m:Int))=K+(m:Int):=IntWalk.i64_in _ (by omega)
     have Hkr:=Lib.hid hkr
     have hk1:k≤1:=by have:=Hr2.out;omega
     have e3:=HF3.out.cell
     have s0:=P13.out.c0
     have s1:=P13.out.c1
     have t0:=P23.out.c0
     have t1:=P23.out.c1
     have hlb:=HF3.out.lt
     go_wp2_with fail
     refine wp_region_held_drew (S:=fun w'=>w'.cell? ⟨b0,o0+i*2,none⟩=some (.slice A1 l1 c1)∧w'.cell? ⟨w.heap.size,0,none⟩=some (.int .i8 a)∧w'.cell? ⟨w.heap.size,1,none⟩=some (.int .i8 b)∧w'.cell? ⟨w.heap.size+1,0,none⟩=some (.int .i8 a')∧w'.cell? ⟨w.heap.size+1,1,none⟩=some (.int .i8 b')) (by kernel_rfl) (by (try dsimp only);go_keep) (fun hHeld=>?_)
     (refine tk (i:=0) (v:=?_) rfl rfl (Or.inl ⟨by rfl,?_⟩) ?_;rotate_left;(focus (intro w hSw;(try dsimp only at hSw);go_simp;(try with_reducible rfl)));(simp only [put_lit,List.set]))
     (refine tk (i:=1) (v:=?_) rfl rfl (Or.inl ⟨by rfl,?_⟩) ?_;rotate_left;(focus (intro w hSw;(try dsimp only at hSw);go_simp;(try with_reducible rfl)));(simp only [put_lit,List.set]))
     (refine tk (i:=2) (v:=?_) rfl rfl (Or.inl ⟨by rfl,?_⟩) ?_;rotate_left;(focus (intro w hSw;(try dsimp only at hSw);go_simp;(try with_reducible rfl)));(simp only [put_lit,List.set]))
     (refine tk (i:=3) (v:=?_) rfl rfl (Or.inl ⟨by rfl,?_⟩) ?_;rotate_left;(focus (intro w hSw;(try dsimp only at hSw);go_simp;(try with_reducible rfl)));(simp only [put_lit,List.set]))
     (refine tk (i:=4) (v:=?_) rfl rfl (Or.inl ⟨by rfl,?_⟩) ?_;rotate_left;(focus (intro w hSw;(try dsimp only at hSw);go_simp;(try with_reducible rfl)));(simp only [put_lit,List.set]))
     (refine tk (i:=5) (v:=?_) rfl rfl (Or.inl ⟨by rfl,?_⟩) ?_;rotate_left;(focus (intro w hSw;(try dsimp only at hSw);go_simp;(try with_reducible rfl)));(simp only [put_lit,List.set]))
     (refine tk (i:=6) (v:=?_) rfl rfl (Or.inl ⟨by rfl,?_⟩) ?_;rotate_left;(focus (intro w hSw;(try dsimp only at hSw);go_simp;(try with_reducible rfl)));(simp only [put_lit,List.set]))
     (refine tk (i:=7) (v:=?_) rfl rfl (Or.inl ⟨by rfl,?_⟩) ?_;rotate_left;(focus (intro w hSw;(try dsimp only at hSw);go_simp;(try with_reducible rfl)));(simp only [put_lit,List.set]))
     (refine wpAnyH_ready (rs:=[8]) (by kernel_rfl) (by simp) ?_;refine AllReadyH.cons rfl (fun K hK=>?_) AllReadyH.nil;go_simp)
     refine (in15_any (HF3.out.at_.below Bel.go) HQ.out k hk1 a b a' b' ha hb ha' hb').mono ?_
     rintro e w4 ⟨rfl,hb4⟩
     have hb34:Below w3.heap.size w3 w4:=(Below.trans Bel.go (hb4.mono (by simp<;>omega)))
     have Hb4:=Lib.hid (Hb3.out.trans (hb34.mono Hb3.out.size))
     have HJ1:=Lib.hid (HJ.out r k)
     clear hb34
     obtain ⟨hcx,hfx⟩:=bcellS hb4;refine hK.out _ _ ?_ (fun _=>?_);(focus (((try dsimp only);repeat' apply And.intro)<;>(rw [hcx _ (by go_simp)];go_simp)));clear hHeld hK K hcx hfx;rename_i hHeld;clear hb4
     refine wpAnyH_done (by kernel_rfl) ?_ _
     clear hHeld e3 s0 s1 t0 t1
     cases hin:inb r k a b a' b' with
     | true =>
       have HJ2:=Lib.hid (HJ1.out.1 hin)
       have pw:=(Hb4.out.cell (p:=⟨b0,o0+i*2+1,none⟩) HFI.out.lt).trans PW.out
       clear hin
       go_wp2
       go_roundw
       case rel=>exact ⟨k+1,Hkr.out,by rw [show ksum (j r) (k+1)=ksum (j r) k+j r k from rfl,HJ2.out,HK.out,Int.mul_add];congr 1;omega,by go_num,Hb4.out⟩
       case measure=>have:=Hkr.out;simp [intOf];omega
     | false =>
       have HJ2:=Lib.hid (HJ1.out.2 hin)
       clear hin
       go_wp2
       go_roundw
       case rel=>exact ⟨k+1,Hkr.out,by rw [show ksum (j r) (k+1)=ksum (j r) k+j r k from rfl,HJ2.out,HK.out,Int.mul_add];congr 1;omega,by go_num,Hb4.out⟩
       case measure=>have:=Hkr.out;simp [intOf];omega
    ·have ti:¬ (k:Int)<(realn r:Int):=by omega
     have tw:IntKind.i64.wrap ((i:Int)+1)=(i:Int)+1:=IntWalk.i64_in _ (by have:=Hlt.out;omega)
     have hke:k=realn r:=by omega
     rw [hke] at HK
     clear hk hkr hke
     go_wp2
     go_roundw
     case rel=>exact ⟨i+1,Hlt.out,by rw [HT.out,HK.out],by go_num,Hbw.out.trans (Hb3.out.mono Hbw.out.size)⟩
     case measure=>have:=Hlt.out;simp [intOf];omega
  ·have ti:¬ (i:Int)<(l:Int):=by omega
   have HE:fs.take i=fs:=by rw [List.take_of_length_le (by rw [Hll.out];omega)]
   rw [HE] at HN
   clear hi hlt hN2 hlen
   go_wp2
   go_ret
   exact ⟨by rw [← HN.out];rfl,Hb.out.trans (Hbw.out.mono Hb.out.size)⟩
def atm (n d:Int):List (List Int×Nat)→Int
 | []=>0
 | (r,m) :: l=>if r.length=2∧sg (atv n d r)=0 then (m:Int) else atm n d l
theorem atm_drop {n d:Int} {fs:List (List Int×Nat)} {i:Nat} (hi:i<fs.length):atm n d (fs.drop i)=if (fs.getD i ([],0)).1.length=2∧sg (atv n d (fs.getD i ([],0)).1)=0 then (((fs.getD i ([],0)).2:Nat):Int) else atm n d (fs.drop (i+1)):=by
 rw [List.drop_eq_getElem_cons hi,List.getD_eq_getElem?_getD,List.getElem?_eq_getElem hi]
 rfl
set_option maxRecDepth 100000 in
set_option maxHeartbeats 8000000 in
theorem at17_any {w:World} {A:Option Addr} {l c:Nat} {fs:List (List Int×Nat)} (hF:FsAt w A l c fs) (hl:l≤100) (hs:∀ x∈fs,FcP x.1) (a b:Int) (ha:I8 a) (hb:I8 b) :
 Calls Tryz.prog 37 #[.slice A l c,.agg #[.int .i8 a,.int .i8 b]] w fun e w'=>e=.returned (.int .i64 (atm (frn a b) (frd b) fs))∧Below w.heap.size w w':=by
 have HS:=Lib.hid hs
 have Hll:=Lib.hid hF.length
 have hbx:Below w.heap.size w (w.alloc (.cells #[.int .i8 a,.int .i8 b] 66)):=below_new _ _
 have P1:=Lib.hid (Pai.make w a b 66)
 have Hb:=Lib.hid hbx
 have H1:=Lib.hid (fs_below hF hbx)
 clear hbx hF hs
 obtain ⟨n1,n2,n3⟩:=fr_bd ha hb
 obtain ⟨z,hz⟩:∃ z,z=frn a b:=⟨_,rfl⟩
 obtain ⟨d,hd⟩:∃ d,d=frd b:=⟨_,rfl⟩
 rw [← hz,← hd]
 rw [← hz] at n1
 rw [← hd] at n2 n3
 have HZ:=Lib.hid hz
 have HD:=Lib.hid hd
 clear hz hd
 obtain ⟨V,hV⟩:∃ V,V=atm z d fs:=⟨_,rfl⟩
 rw [← hV]
 have HV:=Lib.hid hV
 clear hV
 go_enter Tryz.func37,Tryz.ntmps37
 have s0:=P1.out.c0
 have s1:=P1.out.c1
 go_wp2_with fail
 refine (frac_any a b _ ha hb).mono ?_
 rintro e w1 ⟨rfl,hb1⟩
 replace H1:=Lib.hid (fs_below H1.out hb1)
 replace Hb:=Lib.hid (Hb.out.trans (hb1.mono Hb.out.size))
 clear hb1 s0 s1 P1
 rw [← HZ.out,← HD.out]
 clear HZ HD
 go_wp2
 go_loopw [7] (fun s7 wr=>∃ i:Nat,i≤l∧V=atm z d (fs.drop i)∧s7=.int .i64 (i:Int)∧Below w1.heap.size w1 wr) (fun s7 _=>l-(intOf s7).toNat)
 case atStart=>exact ⟨0,Nat.zero_le _,by rw [HV.out];rfl,rfl,Below.refl _ _⟩
 case round =>
  obtain ⟨i,hi,hVi,rfl,hbw⟩:=hrel
  have HF1:=Lib.hid (fs_below H1.out hbw)
  have Hbw:=Lib.hid hbw
  clear hbw
  by_cases hlt:i<l
  ·have Hlt:=Lib.hid hlt
   have hif:i<fs.length:=by rw [Hll.out];exact hlt
   obtain ⟨b0,o0,A1,l1,c1,hfi⟩:=fs_i HF1.out hlt
   obtain rfl:=hfi.eq
   have HFI:=Lib.hid hfi
   have hmem:fs.getD i ([],0)∈fs:=by rw [List.getD_eq_getElem?_getD,List.getElem?_eq_getElem hif];exact List.getElem_mem _
   have HQ:=Lib.hid (HS.out _ hmem)
   have PW:=Lib.hid (fs_p HF1.out hlt)
   rw [atm_drop hif] at hVi
   obtain ⟨r,hr⟩:∃ r,r=(fs.getD i ([],0)).1:=⟨_,rfl⟩
   rw [← hr] at HFI HQ hVi
   obtain ⟨m,hm⟩:∃ m,m=(fs.getD i ([],0)).2:=⟨_,rfl⟩
   rw [← hm] at PW hVi
   have hl1:=HFI.out.at_.length
   have hl23:=HQ.out.len
   have e1:=HFI.out.cell
   have ti0:(i:Int)<(l:Int):=by omega
   have tw:IntKind.i64.wrap ((i:Int)+1)=(i:Int)+1:=IntWalk.i64_in _ (by omega)
   have HVi:=Lib.hid hVi
   clear hr hm hmem hif hi hfi hlt hVi
   by_cases h2:l1=2
   ·subst h2
    go_wp2_with fail
    refine (at15_any HFI.out.at_ z d (by omega) (M:=29) (Z:=128) (by omega) (by omega) (by omega) (by omega) HQ.out.bd (by decide)).mono ?_
    rintro e w2 ⟨rfl,hb2⟩
    obtain ⟨S,hS⟩:∃ S,S=sg (atv z d r):=⟨_,rfl⟩
    rw [← hS]
    have HS2:=Lib.hid hS
    have Hb2:=Lib.hid (Hbw.out.trans (hb2.mono Hbw.out.size))
    have pw:=(hb2.cell (p:=⟨b0,o0+i*2+1,none⟩) HFI.out.lt).trans PW.out
    clear hb2 e1 hS
    by_cases h0:S=0
    ·have d0:(S == 0)=true:=by rw [h0];rfl
     have hV2:V=(m:Int):=by rw [HVi.out,if_pos ⟨hl1,by rw [← HS2.out];exact h0⟩]
     clear h0
     subst hV2
     go_wp2
     go_ret
     exact ⟨rfl,Hb.out.trans (Hb2.out.mono Hb.out.size)⟩
    ·have d0:(S == 0)=false:=by rw [beq_eq_false_iff_ne];exact h0
     have hV2:=Lib.hid (show V=atm z d (fs.drop (i+1)) by rw [HVi.out,if_neg fun hc=>h0 (by rw [HS2.out];exact hc.2)])
     clear h0
     go_wp2
     go_roundw
     case rel=>exact ⟨i+1,Hlt.out,hV2.out,by go_num,Hb2.out⟩
     case measure=>have:=Hlt.out;simp [intOf];omega
   ·have d1:((l1:Int) == 2)=false:=by rw [beq_eq_false_iff_ne];omega
    have hV2:=Lib.hid (show V=atm z d (fs.drop (i+1)) by rw [HVi.out,if_neg fun hc=>h2 (by omega)])
    clear h2
    go_wp2
    go_roundw
    case rel=>exact ⟨i+1,Hlt.out,hV2.out,by go_num,Hbw.out⟩
    case measure=>have:=Hlt.out;simp [intOf];omega
  ·have ti:¬ (i:Int)<(l:Int):=by omega
   have hV0:V=0:=by rw [hVi,List.drop_eq_nil_of_le (by rw [Hll.out];omega)];rfl
   clear hi hlt hVi
   subst hV0
   go_wp2
   go_ret
   exact ⟨rfl,Hb.out.trans (Hbw.out.mono Hb.out.size)⟩
end Go.Proofs.YtjmglmgokfcgoaaGreat
namespace Go.Proofs.YtjmglmgokfcgoaaGreat
open Go.RowKit
theorem tri_ok {qs:List (List Int)} (ht:Tri qs) (hz:¬ Zer qs):∀ q∈qs,plen q≠0∧plen q≤3:=fun q hq=>⟨fun e=>hz ⟨q,hq,e⟩,by have:=plen_le q;have:=(ht q hq).1;omega⟩
theorem prodf_ne {qs:List (List Int)} (ht:Tri qs) (hz:¬ Zer qs):plen (prodf [1] qs)≠0:=(prodf_mult (Pt.of 0) qs [1] (by decide) fun q h=>(tri_ok ht hz q h).1).1
theorem spl_q9 {q:List Int} (hl:q.length=3) (hs:Sma q):∀ p∈spl q,p.length=3→∀ j,(p.getD j 0).natAbs≤9:=fun p hp h3=>by
 have h9:=sma_abs hl hs
 unfold spl at hp
 split at hp
 ·cases hp
 ·split at hp
  ·rw [List.mem_singleton.1 hp];exact nrm_le h9
  ·have hld:=nrm_lead (p:=q) (by omega)
   rw [show plen q=3 by have:=plen_le q;omega] at hld
   have key:∀ z:Int,(lin1 (nrm q) z).length=2:=fun z=>by
    have hp2:plen [(nrm q).getD 1 0+z,2*(nrm q).getD 2 0]=2:=by rw [plen_cons_succ (by rw [plen_cons_one rfl (by have:0<(nrm q).getD 2 0:=hld;omega)];omega),plen_cons_one rfl (by have:0<(nrm q).getD 2 0:=hld;omega)]
    unfold lin1
    rw [nrm_len,hp2]
   split at hp
   ·rcases List.mem_cons.1 hp with e | e
    ·rw [e,key] at h3;cases h3
    ·rw [List.mem_singleton.1 e,key] at h3;cases h3
   ·rw [List.mem_singleton.1 hp];exact nrm_le h9
theorem facs_q9 {qs:List (List Int)} (ht:Tri qs):∀ x∈facs [] qs,x.1.length=3→∀ j,(x.1.getD j 0).natAbs≤9:=facs_mem (P:=fun p=>p.length=3→∀ j,(p.getD j 0).natAbs≤9) (fun q h=>spl_q9 (ht q h).1 (ht q h).2) (fun x hx=>by cases hx)
theorem facs_fcp {qs:List (List Int)} (ht:Tri qs) (hz:¬ Zer qs):∀ x∈facs [] qs,FcP x.1:=fun x hx=>⟨(facs_irr (tri_ok ht hz) x hx).1,(facs_fsm ht x hx).bd,facs_q9 ht x hx⟩
theorem pt_le {x y:Pt}:(x<y∨x=y)↔¬ y<x:=by
 rcases Pt.tri x y with c | c | c
 ·exact ⟨fun _=>Pt.asym c,fun _=>.inl c⟩
 ·exact ⟨fun _=>by rw [c];exact Pt.irr _,fun _=>.inr c⟩
 ·exact ⟨fun h=>absurd h (by rintro (h | h);exact Pt.asym c h;rw [h] at c;exact Pt.irr _ c),fun h=>absurd c h⟩
theorem frn_pt {p d:Int} (hp:I8 p) (hd:I8 d):((rtz p d:Int):Rat) / ((rtq p d:Nat):Rat)=((frn p d:Int):Rat) / ((frd d:Int):Rat):=by
 obtain ⟨g,hg,a1,a2,_,q0,_⟩:=rt_bd hp hd
 obtain ⟨_,f1,_⟩:=fr_bd hp hd
 have c1:¬ Pt.of (((rtz p d:Int):Rat) / (((rtq p d:Nat):Int):Rat))<Pt.of (((frn p d:Int):Rat) / ((frd d:Int):Rat)):=by
  rw [frac_lt' (by omega) (by omega),← a1,← a2]
  have:rtz p d*((rtq p d:Int)*(g:Int))=rtz p d*(g:Int)*(rtq p d:Int):=by grind
  rw [this]
  exact Int.lt_irrefl _
 have c2:¬ Pt.of (((frn p d:Int):Rat) / ((frd d:Int):Rat))<Pt.of (((rtz p d:Int):Rat) / (((rtq p d:Nat):Int):Rat)):=by
  rw [frac_lt' (by omega) (by omega),← a1,← a2]
  have:rtz p d*((rtq p d:Int)*(g:Int))=rtz p d*(g:Int)*(rtq p d:Int):=by grind
  rw [this]
  exact Int.lt_irrefl _
 rcases Pt.tri (Pt.of (((rtz p d:Int):Rat) / (((rtq p d:Nat):Int):Rat))) (Pt.of (((frn p d:Int):Rat) / ((frd d:Int):Rat))) with c | c | c
 ·exact absurd c c1
 ·exact Pt.of_inj c
 ·exact absurd c c2
section
variable {qs:List (List Int)} (ht:Tri qs) (hz:¬ Zer qs) (h4:qs.length≤4)
end
end Go.Proofs.YtjmglmgokfcgoaaGreat
namespace Go.Proofs.YtjmglmgokfcgoaaGreat
theorem irr_simple {p:List Int} (h:isLin p∨isQd p) {x:Pt} (h0:sgp p x=0):mult x p=1:=by
 have key:sgp (pder p) x≠0∧plen p≠0:=by
  rcases h with c | c
  ·obtain ⟨c0,c1,rfl⟩:∃ c0 c1,p=[c0,c1]:=by
    match p,c.1 with
    | [a,b],_=>exact ⟨a,b,rfl⟩
   have hc1:0<c1:=c.2
   refine ⟨fun e=>?_,fun e=>?_⟩
   ·have e2:∀ k,(pder [c0,c1]).getD k 0=[c1].getD k 0:=fun k=>by
     rw [pder_getD]
     match k with
     | 0=>show c1*(((0:Nat):Int)+1)=c1;push_cast;omega
     | k+1=>show ([]:List Int).getD k 0*_=([]:List Int).getD k 0;rw [List.getD_nil,Int.zero_mul]
    rw [sgp_congr e2,sgp_const] at e
    exact sg_ne (show c1≠0 by omega) e
   ·have:=getD_ge_plen [c0,c1] 1 (by omega)
    have e2:[c0,c1].getD 1 0=c1:=rfl
    omega
  ·have hd:dsc p≠0:=fun e=>c.2.2 0 (by rw [e];rfl)
   obtain ⟨c0,c1,c2,rfl⟩:∃ c0 c1 c2,p=[c0,c1,c2]:=by
    match p,c.1 with
    | [a,b,d],_=>exact ⟨a,b,d,rfl⟩
   refine ⟨fun e=>?_,fun e=>?_⟩
   ·have e2:∀ t,ev (padd (polymul (pder [c0,c1,c2]) (pder [c0,c1,c2])) (psc (-(4*c2)) [c0,c1,c2])) t=ev [dsc [c0,c1,c2]] t:=fun t=>by
     have e3:∀ k,(pder [c0,c1,c2]).getD k 0=[c1,2*c2].getD k 0:=fun k=>by
      rw [pder_getD]
      match k with
      | 0=>show c1*(((0:Nat):Int)+1)=c1;push_cast;omega
      | 1=>show c2*(((1:Nat):Int)+1)=2*c2;push_cast;omega
      | k+2=>show ([]:List Int).getD k 0*_=([]:List Int).getD k 0;rw [List.getD_nil,Int.zero_mul]
     rw [ev_padd,ev_mul,ev_psc,ev_congr e3,rev_cons,rev_cons,ev_nil,rev_cons,rev_cons,rev_cons,ev_nil,rev_cons,ev_nil]
     show _=(c1*c1-4*c2*c0)+t*0
     grind
    have e4:sgp (padd (polymul (pder [c0,c1,c2]) (pder [c0,c1,c2])) (psc (-(4*c2)) [c0,c1,c2])) x=0:=by
     rw [sgp_add0 (by rw [sgp_psc,h0,Int.mul_zero]),sgp_mul,e]
     rfl
    rw [sgp_ev e2,sgp_const] at e4
    exact sg_ne hd e4
   ·have h3:=getD_ge_plen [c0,c1,c2] 2 (by omega)
    have h4:=getD_ge_plen [c0,c1,c2] 1 (by omega)
    have h5:c2=0:=h3
    have h6:c1=0:=h4
    refine hd ?_
    show c1*c1-4*c2*c0=0
    rw [h5,h6]
    simp
 obtain ⟨m1,m2⟩:=mult_pder key.2 h0
 rw [(mult_zero m2).2 key.1] at m1
 exact m1
theorem fsum_const0:∀ l:List (List Int×Nat),fsum (fun _=>0) l=0
 | []=>rfl
 | (r,m) :: l=>by
   show (m:Int)*0+fsum (fun _=>0) l=0
   rw [fsum_const0 l];omega
section
variable {qs:List (List Int)} (ht:Tri qs) (hz:¬ Zer qs)
include ht hz
open Classical in
theorem bnd_sum (P:Pt→Prop) (j:List Int→Nat→Int) (hj:∀ p,isLin p∨isQd p→∀ k,(h:k<(rts p).length)→(if P (rts p)[k] then 1 else 0)=j p k) {ys:List Pt} (hy:Lst (fun x=>sgp (prodf [1] qs) x=0∧P x) ys):Mu (prodf [1] qs) ys=wsum j (facs [] qs):=by
 have hq:=tri_ok ht hz
 have hi:=facs_irr hq
 obtain ⟨zs,hzs⟩:=roots_ex (prodf_ne ht hz)
 have hx:Lst (fun x=>sgp (prodf [1] qs) x=0) zs:=hzs
 have e1:Mu (prodf [1] qs) ys=isum (zs.map fun x=>if P x then (mult x (prodf [1] qs):Int) else 0):=by
  rw [isum_eq (fun x=>if P x then (mult x (prodf [1] qs):Int) else 0) hx hy (fun x h=>h.1) fun x h hn=>if_neg fun hp=>hn ⟨h,hp⟩]
  unfold Mu
  congr 1
  exact List.map_congr_left fun x h=>(if_pos ((hy.2 x).1 h).2).symm
 have e2:(fun x=>if P x then (mult x (prodf [1] qs):Int) else 0)=fun x=>fsum (fun p=>if P x then (mult x p:Int) else 0) (facs [] qs):=funext fun x=>by
  by_cases c:P x
  ·rw [if_pos c,mult_prod hq x]
   exact fsum_congr fun y _=>(if_pos c).symm
  ·rw [if_neg c,fsum_congr (K:=fun _=>0) fun y _=>if_neg c,fsum_const0]
 rw [e1,e2,isum_fsum (fun x p=>if P x then (mult x p:Int) else 0)]
 refine fsum_congr fun y hy'=>?_
 have hir:=(hi y hy').1
 have hr:=rts_lst (hi y hy').ne
 rw [isum_eq (fun x=>if P x then (mult x y.1:Int) else 0) hx hr (fun x h=>(prod_root hq x).2 ⟨y,hy',h⟩) fun x _ h=>by
  rw [(mult_zero (hi y hy').ne).2 h]
  split<;>rfl]
 refine isum_ksum _ (j y.1) _ _ (rts_irr hir).1 fun k hk=>?_
 rw [← hj y.1 hir k hk]
 have hm:mult (rts y.1)[k] y.1=1:=irr_simple hir ((hr.2 _).1 (List.getElem_mem hk))
 rw [hm]
 rfl
end
end Go.Proofs.YtjmglmgokfcgoaaGreat
namespace Go.Proofs.YtjmglmgokfcgoaaGreat
theorem fsum_null {J:List Int→Int} {l:List (List Int×Nat)} (h:∀ x∈l,J x.1=0):fsum J l=0:=by
 rw [fsum_congr (K:=fun _=>0) h,fsum_const0]
theorem atm_hit {n d:Int} (hd:0<d):∀ {l:List (List Int×Nat)},Dis l→(∀ y∈l,Irr y.1)→atm n d l=fsum (fun p=>(mult (Pt.of ((n:Rat) / (d:Rat))) p:Int)) l
 | [],_,_=>rfl
 | (r,m) :: l,hD,hi=>by
   have hd':=List.pairwise_cons.1 hD
   have hr:=hi (r,m) List.mem_cons_self
   have hi':∀ y∈l,Irr y.1:=fun y hy=>hi y (List.mem_cons_of_mem _ hy)
   show (if r.length=2∧sg (atv n d r)=0 then (m:Int) else atm n d l)=(m:Int)*(mult (Pt.of ((n:Rat) / (d:Rat))) r:Int)+fsum _ l
   by_cases h0:sgp r (Pt.of ((n:Rat) / (d:Rat)))=0
   ·have h2:r.length=2:=by
     rcases hr.1 with c | c
     ·exact c.1
     ·exact absurd h0 (qd_rat c hd)
    rw [if_pos ⟨h2,by rw [atv_sg hd];exact h0⟩,irr_simple hr.1 h0,fsum_null fun z hz=>?_]
    ·simp
    ·rw [(mult_zero (hi' z hz).ne).2 fun hz0=>hd'.1 z hz (irr_apart hr (hi' z hz) h0 hz0)]
     rfl
   ·rw [if_neg fun hc=>h0 (by rw [← atv_sg hd];exact hc.2),(mult_zero hr.ne).2 h0,atm_hit hd hd'.2 hi']
    simp
theorem Mu_app (p:List Int) (xs ys:List Pt):Mu p (xs ++ ys)=Mu p xs+Mu p ys:=by
 unfold Mu
 rw [List.map_append,isum_append]
section
variable {qs:List (List Int)} (ht:Tri qs) (hz:¬ Zer qs)
include ht hz
theorem bnd_at {n d:Int} (hd:0<d):(mult (Pt.of ((n:Rat) / (d:Rat))) (prodf [1] qs):Int)=atm n d (facs [] qs):=by
 rw [mult_prod (tri_ok ht hz),atm_hit hd (facs_dis List.Pairwise.nil) (facs_irr (tri_ok ht hz))]
theorem bnd_all {a b a' b':Int} (ha:I8 a) (hb:I8 b) (ha':I8 a') (hb':I8 b') (hlt:frn a b*frd b'<frn a' b'*frd b) :
 (∃ j:Nat,nbud (prodf [1] qs) (rtz a b) (rtq a b) (rtz a' b') (rtq a' b')=wsum (fun p k=>if inb p k a b a' b' then 1 else 0) (facs [] qs)+2*(j:Int)) ∧
 wsum (fun p k=>if inb p k a b a' b' then 1 else 0) (facs [] qs)-atm (frn a' b') (frd b') (facs [] qs)≤dvar (pmobius (prodf [1] qs) (rtq a b) (rtq a' b') (rtz a b) (rtz a' b')) ∧
 (dvar (pmobius (prodf [1] qs) (rtq a b) (rtq a' b') (rtz a b) (rtz a' b'))-(wsum (fun p k=>if inb p k a b a' b' then 1 else 0) (facs [] qs)-atm (frn a' b') (frd b') (facs [] qs))) % 2=0:=by
 have hne:=prodf_ne ht hz
 have htr:ptrim (prodf [1] qs)=prodf [1] qs:=prodf_trim qs [1] (by decide)
 obtain ⟨_,_,_,_,_,q0,_⟩:=rt_bd ha hb
 obtain ⟨_,_,_,_,_,q0',_⟩:=rt_bd ha' hb'
 obtain ⟨_,f1,_⟩:=fr_bd ha hb
 obtain ⟨_,f1',_⟩:=fr_bd ha' hb'
 have hzq:rtz a b*(rtq a' b':Int)<rtz a' b'*(rtq a b:Int):=(rt_iff ha hb ha' hb').2 hlt
 have hab:Pt.of (((rtz a b:Int):Rat) / ((rtq a b:Nat):Rat))<Pt.of (((rtz a' b':Int):Rat) / ((rtq a' b':Nat):Rat)):=(pt_lt q0 q0').2 hzq
 obtain ⟨ys,hy⟩:=roots_lst hne (fun x=>Pt.of (((rtz a b:Int):Rat) / ((rtq a b:Nat):Rat))<x∧(x<Pt.of (((rtz a' b':Int):Rat) / ((rtq a' b':Nat):Rat))∨x=Pt.of (((rtz a' b':Int):Rat) / ((rtq a' b':Nat):Rat))))
 obtain ⟨zs,hz'⟩:=roots_lst hne (fun x=>Pt.of (((rtz a b:Int):Rat) / ((rtq a b:Nat):Rat))<x∧x<Pt.of (((rtz a' b':Int):Rat) / ((rtq a' b':Nat):Rat)))
 classical
 have hsum:Mu (prodf [1] qs) ys=wsum (fun p k=>if inb p k a b a' b' then 1 else 0) (facs [] qs):=by
  refine bnd_sum ht hz (fun x=>Pt.of (((rtz a b:Int):Rat) / ((rtq a b:Nat):Rat))<x∧(x<Pt.of (((rtz a' b':Int):Rat) / ((rtq a' b':Nat):Rat))∨x=Pt.of (((rtz a' b':Int):Rat) / ((rtq a' b':Nat):Rat)))) _ (fun p hp k hk=>?_) hy
  have h1:=((rts_irr hp).2 k hk (frn a b) (frd b) (by omega)).1
  have h2:=((rts_irr hp).2 k hk (frn a' b') (frd b') (by omega)).1
  have E:(Pt.of (((rtz a b:Int):Rat) / ((rtq a b:Nat):Rat))<(rts p)[k]∧((rts p)[k]<Pt.of (((rtz a' b':Int):Rat) / ((rtq a' b':Nat):Rat))∨(rts p)[k]=Pt.of (((rtz a' b':Int):Rat) / ((rtq a' b':Nat):Rat))))↔(0<cmpv p k (frn a b) (frd b)∧¬ 0<cmpv p k (frn a' b') (frd b')):=by
   rw [frn_pt ha hb,frn_pt ha' hb',pt_le,← h1,← h2]
  unfold inb
  by_cases c1:0<cmpv p k (frn a b) (frd b)
  ·by_cases c2:cmpv p k (frn a' b') (frd b')≤0
   ·rw [if_pos (E.2 ⟨c1,by omega⟩),decide_eq_true c1,decide_eq_true c2]
    rfl
   ·rw [if_neg (fun h=>c2 (by have:=(E.1 h).2;omega)),decide_eq_true c1,decide_eq_false c2]
    rfl
  ·rw [if_neg (fun h=>c1 (E.1 h).1),decide_eq_false c1]
   rfl
 have hopen:Mu (prodf [1] qs) zs=Mu (prodf [1] qs) ys-atm (frn a' b') (frd b') (facs [] qs):=by
  rw [← bnd_at ht hz (by omega),← frn_pt ha' hb']
  by_cases hb0:sgp (prodf [1] qs) (Pt.of (((rtz a' b':Int):Rat) / ((rtq a' b':Nat):Rat)))=0
  ·have hx:Lst (fun x=>sgp (prodf [1] qs) x=0∧(Pt.of (((rtz a b:Int):Rat) / ((rtq a b:Nat):Rat))<x∧(x<Pt.of (((rtz a' b':Int):Rat) / ((rtq a' b':Nat):Rat))∨x=Pt.of (((rtz a' b':Int):Rat) / ((rtq a' b':Nat):Rat))))) (zs ++ [Pt.of (((rtz a' b':Int):Rat) / ((rtq a' b':Nat):Rat))]):=(Lst.append hz' (Q:=fun x=>x=Pt.of (((rtz a' b':Int):Rat) / ((rtq a' b':Nat):Rat))) ⟨List.pairwise_singleton _ _,fun x=>by simp⟩ (fun x y hx hy'=>by rw [hy'];exact hx.2.2)).congr fun x=>by
    constructor
    ·rintro (⟨a,b,c⟩ | rfl)
     ·exact ⟨a,b,.inl c⟩
     ·exact ⟨hb0,hab,.inr rfl⟩
    ·rintro ⟨a,b,c | c⟩
     ·exact .inl ⟨a,b,c⟩
     ·exact .inr c
   rw [hy.uniq hx,Mu_app]
   show Mu (prodf [1] qs) zs=Mu (prodf [1] qs) zs+((mult (Pt.of (((rtz a' b':Int):Rat) / ((rtq a' b':Nat):Rat))) (prodf [1] qs):Int)+0)-_
   omega
  ·have hx:ys=zs:=hy.uniq (hz'.congr fun x=>by
    constructor
    ·rintro ⟨a,b,c⟩
     exact ⟨a,b,.inl c⟩
    ·rintro ⟨a,b,c | c⟩
     ·exact ⟨a,b,c⟩
     ·rw [c] at a;exact absurd a hb0)
   rw [hx,(mult_zero hne).2 hb0]
   simp
 rw [← hsum,← hopen]
 refine ⟨?_,bnd_open hne htr q0 q0' hzq hz'⟩
 exact bnd_half hne htr q0 q0' hzq hy
end
end Go.Proofs.YtjmglmgokfcgoaaGreat
namespace Go.Proofs.YtjmglmgokfcgoaaGreat
open Go Go.RowKit
theorem Tiny.mem {m:Nat} {p:List Int} (h:Tiny m p):∀ x∈p,x.natAbs≤m:=by
 intro x hx
 obtain ⟨k,hk⟩:=List.getElem?_of_mem hx
 have:=h k
 rw [List.getD_eq_getElem?_getD,hk] at this
 exact this
theorem tiny_of {m:Nat} {p:List Int} (h:∀ x∈p,x.natAbs≤m):Tiny m p:=by
 intro k
 rw [List.getD_eq_getElem?_getD]
 cases e:p[k]? with
 | none=>simp
 | some x=>exact h x (List.mem_of_getElem? e)
theorem syn_bound {c:Int} {C M:Nat} (hc:c.natAbs≤C) (l:List Int) (hl:∀ x∈l,x.natAbs≤M):∀ x∈syn c l,x.natAbs≤M*(C+1)^l.length:=by
 induction l with
 | nil=>intro x hx;cases hx
 | cons a t ih =>
   have h1:=ih (fun z hz=>hl z (List.mem_cons_of_mem _ hz))
   have ha:=hl a List.mem_cons_self
   have hp:1≤(C+1)^t.length:=Nat.one_le_pow _ _ (by omega)
   have hM:M≤M*(C+1)^t.length:=Nat.le_mul_of_pos_right _ hp
   have e:M*(C+1)^(a :: t).length=M*(C+1)^t.length*C+M*(C+1)^t.length:=by
    rw [List.length_cons,Nat.pow_succ,← Nat.mul_assoc,Nat.mul_add,Nat.mul_one]
   intro x hx
   rw [e]
   simp only [syn,List.mem_cons] at hx
   rcases hx with rfl | hx
   ·split
    ·omega
    ·have h2:(hd0 (syn c t)).natAbs≤M*(C+1)^t.length:=by
      cases hu:syn c t with
      | nil=>simp [hd0]
      | cons b u=>rw [hu] at h1;exact h1 b List.mem_cons_self
     have h3:(c*hd0 (syn c t)).natAbs≤M*(C+1)^t.length*C:=by
      rw [Int.natAbs_mul,Nat.mul_comm]
      exact Nat.mul_le_mul h2 hc
     omega
   ·have:=h1 x hx
    omega
theorem pass_bound {c:Int} {C M n:Nat} (hc:c.natAbs≤C) (low:Nat) (l:List Int) (hn:l.length≤n) (hl:∀ x∈l,x.natAbs≤M):∀ x∈pass c low l,x.natAbs≤M*(C+1)^n:=by
 intro x hx
 have hp:1≤(C+1)^n:=Nat.one_le_pow _ _ (by omega)
 rw [pass] at hx
 rcases List.mem_append.1 hx with h | h
 ·exact Nat.le_trans (hl x (List.mem_of_mem_take h)) (Nat.le_mul_of_pos_right _ hp)
 ·refine Nat.le_trans (syn_bound hc _ (fun z hz=>hl z (List.mem_of_mem_drop hz)) x h) ?_
  exact Nat.mul_le_mul_left _ (Nat.pow_le_pow_right (by omega) (by rw [List.length_drop];omega))
theorem st_bound {c:Int} {C M n:Nat} (hc:c.natAbs≤C) (l:List Int) (hn:l.length≤n) (hl:∀ x∈l,x.natAbs≤M):∀ k,∀ x∈st c l k,x.natAbs≤M*(C+1)^(n*k):=by
 intro k
 induction k with
 | zero=>intro x hx;simpa [st] using hl x hx
 | succ k ih =>
   intro x hx
   have:=pass_bound (n:=n) hc k (st c l k) (by rw [st_length];exact hn) ih x hx
   rw [Nat.mul_succ,Nat.pow_add,← Nat.mul_assoc]
   exact this
theorem shok_tiny {c:Int} {C M n:Nat} (hc:c.natAbs≤C) (l:List Int) (hn:l.length≤n) (hl:∀ x∈l,x.natAbs≤M) (h1:C<BB^FW) (h2:M*(C+1)^(n*n+n)<BB^FW):ShOK c l:=by
 refine ⟨Nat.lt_of_le_of_lt hc h1,fun k j i hk=>?_⟩
 have hb:=pass_bound (n:=n) hc j (st c l k) (by rw [st_length];exact hn) (st_bound hc l hn hl k)
 refine Nat.lt_of_le_of_lt ?_ h2
 refine Nat.le_trans (tiny_of hb i) ?_
 rw [Nat.mul_assoc,← Nat.pow_add]
 exact Nat.mul_le_mul_left _ (Nat.pow_le_pow_right (by omega) (by have:n*k≤n*n:=Nat.mul_le_mul_left _ (by omega);omega))
end Go.Proofs.YtjmglmgokfcgoaaGreat
namespace Go.Proofs.YtjmglmgokfcgoaaGreat
theorem pclr_mem {p:List Int} (hl:p.length≤9) (ht:∀ j,(p.getD j 0).natAbs≤531441) {Q:Nat} (hQ:Q≤128):∀ x∈pclr p (Q:Int),x.natAbs≤531441*128^9:=fun x hx=>by
 unfold pclr rowd at hx
 obtain ⟨j,_,rfl⟩:=List.mem_map.1 hx
 rw [if_pos (by omega),Int.natAbs_mul,Int.natAbs_pow,Int.natAbs_natCast]
 exact Nat.mul_le_mul (ht j) (Nat.le_trans (Nat.pow_le_pow_left hQ _) (Nat.pow_le_pow_right (by omega) (by omega)))
theorem shfit_frac {p:List Int} (hl:p.length≤9) (ht:∀ j,(p.getD j 0).natAbs≤531441) {z:Int} {q:Nat} (hz:z.natAbs≤128) (hq:0<q) (hq1:q≤128):ShFit p z q:=by
 have hQ:q / Nat.gcd z.natAbs q≤128:=Nat.le_trans (Nat.div_le_self _ _) hq1
 have hZ:(z.tdiv ((Nat.gcd z.natAbs q:Nat):Int)).natAbs≤128:=by
  rw [Int.natAbs_tdiv];exact Nat.le_trans (Nat.div_le_self _ _) hz
 have hm:=pclr_mem hl ht hQ
 have hT:Tiny (531441*128^9) (ptrim (pclr p ((q / Nat.gcd z.natAbs q:Nat):Int))):=fun k=>by rw [ptrim_getD];exact tiny_of hm k
 have hL:(ptrim (pclr p ((q / Nat.gcd z.natAbs q:Nat):Int))).length≤9:=by
  rw [ptrim_length];refine Nat.le_trans (plen_le _) ?_;rw [pclr_length];exact hl
 refine ⟨by unfold U64;rw [BB_eq];omega,by rw [BB_eq];omega,hq,fun k hk=>?_,fun c hc=>?_,?_,fun c hc=>?_⟩
 ·refine Nat.lt_of_le_of_lt (m:=128^9) ?_ (lt_fw (by rw [BB_eq];decide))
  rw [Int.natAbs_pow,Int.natAbs_natCast]
  exact Nat.le_trans (Nat.pow_le_pow_left hQ _) (Nat.pow_le_pow_right (by omega) (by omega))
 ·exact Fit.sm (Nat.lt_of_le_of_lt (hm c hc) (lt_fw (by rw [BB_eq];decide)))
 ·exact shok_tiny (C:=128) (M:=531441*128^9) (n:=9) hZ _ hL hT.mem (lt_fw (by rw [BB_eq];decide)) (lt_fw (by rw [BB_eq];decide))
 ·have h1:=hsh_bound (C:=128) hZ (by omega) _ hT.mem c hc
  have h2:531441*128^9*(128+2)^(ptrim (pclr p ((q / Nat.gcd z.natAbs q:Nat):Int))).length≤531441*128^9*130^9:=Nat.mul_le_mul_left _ (Nat.pow_le_pow_right (by omega) hL)
  exact Fit.sm (Nat.lt_of_le_of_lt (Nat.le_trans h1 h2) (lt_fw (by rw [BB_eq];decide)))
theorem nbud_bd {f:List Int} (hl:f.length≤9) (z:Int) (q:Nat) (z':Int) (q':Nat):(nbud f z q z' q').natAbs≤9:=by
 have hl':(ptrim f).length≤9:=by rw [ptrim_length];exact Nat.le_trans (plen_le f) hl
 have h1:=nsh_le (f:=ptrim f) z q
 have h2:=nsh_le (f:=ptrim f) z' q'
 unfold nbud
 split<;>omega
theorem atm_bd {n d:Int}:∀ {l:List (List Int×Nat)},(∀ x∈l,x.2≤100)→0≤atm n d l∧atm n d l≤100
 | [],_=>⟨Int.le_refl _,by show (0:Int)≤100;decide⟩
 | (r,m) :: l,h=>by
   have h1:=h (r,m) List.mem_cons_self
   have h2:=atm_bd (n:=n) (d:=d) (l:=l) fun x hx=>h x (List.mem_cons_of_mem _ hx)
   show 0≤(if r.length=2∧sg (atv n d r)=0 then (m:Int) else atm n d l)∧_≤_
   split
   ·rename_i c
    show 0≤(m:Int)∧(if r.length=2∧sg (atv n d r)=0 then (m:Int) else atm n d l)≤100
    rw [if_pos c]
    have:m≤100:=h1
    omega
   ·rename_i c
    show 0≤atm n d l∧(if r.length=2∧sg (atv n d r)=0 then (m:Int) else atm n d l)≤100
    rw [if_neg c]
    exact h2
end Go.Proofs.YtjmglmgokfcgoaaGreat
namespace Go.Proofs.YtjmglmgokfcgoaaGreat
open Go Go.RowKit
set_option maxRecDepth 100000 in
set_option maxHeartbeats 16000000 in
theorem law_bounds (A:Option Addr) (la ca:Nat) (qs:List (List Int)) (a b a' b':Int) (w:World) (h:TrAt w A la ca qs) (hlm:la≤9223372036854775807) (ha:I8 a) (hb:I8 b) (ha':I8 a') (hb':I8 b') :
 Calls Tryz.prog 6 #[.slice A la ca,.agg #[.int .i8 a,.int .i8 b],.agg #[.int .i8 a',.int .i8 b']] w fun e w'=>e=.returned (.bool true)∧Below w.heap.size w w':=by
 have HT3:=Lib.hid h.three
 have Hll:=Lib.hid h.length
 have hbx:Below w.heap.size w (w.alloc (.cells #[.int .i8 a,.int .i8 b] 66)):=below_new _ _
 have hby:Below (w.alloc (.cells #[.int .i8 a,.int .i8 b] 66)).heap.size (w.alloc (.cells #[.int .i8 a,.int .i8 b] 66)) ((w.alloc (.cells #[.int .i8 a,.int .i8 b] 66)).alloc (.cells #[.int .i8 a',.int .i8 b'] 66)):=below_new _ _
 have hb0:=hbx.trans (hby.mono hbx.size)
 have P1:=Lib.hid ((Pai.make w a b 66).move hby)
 have P2:=Lib.hid (Pai.make (w.alloc (.cells #[.int .i8 a,.int .i8 b] 66)) a' b' 66)
 have Hb0:=Lib.hid hb0
 have H0:=Lib.hid (h.below hb0)
 obtain ⟨wb,hwb⟩:∃ wb,wb=((w.alloc (.cells #[.int .i8 a,.int .i8 b] 66)).alloc (.cells #[.int .i8 a',.int .i8 b'] 66)):=⟨_,rfl⟩
 have hg2:(w.alloc (.cells #[.int .i8 a,.int .i8 b] 66)).heap.size=w.heap.size+1:=by simp
 rw [hg2] at P2
 rw [← hwb] at P1 P2 Hb0 H0
 have HWB:=Lib.hid hwb
 obtain ⟨_,_,_,_,zb0,qp0,qb0⟩:=rt_bd ha hb
 obtain ⟨_,_,_,_,zb1,qp1,qb1⟩:=rt_bd ha' hb'
 have u0:U64 (rtz a b).natAbs:=by unfold U64;rw [BB_eq];omega
 have u1:U64 (rtz a' b').natAbs:=by unfold U64;rw [BB_eq];omega
 have v0:rtq a b<BB:=by rw [BB_eq];omega
 have v1:rtq a' b'<BB:=by rw [BB_eq];omega
 clear hbx hby hb0 h hg2 hwb
 go_enter Tryz.func6,Tryz.ntmps6
 go_wp2_with fail
 rw [← HWB.out]
 refine (awake17_any _).mono ?_
 rintro e w1 ⟨rfl,hb1⟩
 have H1:=Lib.hid (H0.out.below hb1)
 have Q1:=Lib.hid (P1.out.move hb1)
 have Q2:=Lib.hid (P2.out.move hb1)
 have Hb1:=Lib.hid (Hb0.out.trans (hb1.mono Hb0.out.size))
 clear hb1 H0 P1 P2 Hb0 HWB
 go_wp2_with fail
 refine (few_any H1.out 4 (by omega) hlm).mono ?_
 rintro e w2 ⟨rfl,hw2⟩
 obtain rfl:=hw2
 by_cases hfew:qs.length≤4∧∀ i,i<qs.length→Sma (qs.getD i [])
 ·have ef:fewb 4 qs=true:=by unfold fewb;exact @decide_eq_true _ (Classical.propDecidable _) hfew
  have ht:Tri qs:=fun q hq=>⟨(HT3.out q hq).1,by
   obtain ⟨i,hi,e⟩:=List.getElem_of_mem hq
   have:=hfew.2 i hi
   rw [List.getD_eq_getElem?_getD,List.getElem?_eq_getElem hi,e] at this
   exact this⟩
  have HT:=Lib.hid ht
  have h5:la≤5:=by rw [← Hll.out];have:=hfew.1;omega
  have H4:=Lib.hid hfew.1
  rw [ef]
  clear hfew ht ef
  have s0:=Q1.out.c0
  have s1:=Q1.out.c1
  have t0:=Q2.out.c0
  have t1:=Q2.out.c1
  go_wp2_with fail
  refine (less15_any a b a' b' _ ha hb ha' hb').mono ?_
  rintro e w7 ⟨rfl,hb7⟩
  replace H1:=Lib.hid (H1.out.below hb7)
  replace Q1:=Lib.hid (Q1.out.move hb7)
  replace Q2:=Lib.hid (Q2.out.move hb7)
  replace Hb1:=Lib.hid (Hb1.out.trans (hb7.mono Hb1.out.size))
  clear hb7 s0 s1 t0 t1
  by_cases hlt:frn a b*frd b'<frn a' b'*frd b
  ·have HLT:=Lib.hid hlt
   rw [decide_eq_true hlt]
   clear hlt
   go_wp2_with fail
   refine (factors_any H1.out h5 HT.out).mono ?_
   rintro e w3 ⟨⟨u,A3,l3,c3,fs,rfl,hu,hF,hf0,hf1⟩,hb3⟩
   have H3:=Lib.hid (H1.out.below hb3)
   have HF3:=Lib.hid hF
   have R1:=Lib.hid (Q1.out.move hb3)
   have R2:=Lib.hid (Q2.out.move hb3)
   have Hb3:=Lib.hid (Hb1.out.trans (hb3.mono Hb1.out.size))
   have HU:=Lib.hid hu
   have Hf1:=Lib.hid hf1
   clear hb3 hF hu hf0 hf1
   by_cases hu0:u=0
   ·have bu:(u == 0)=true:=by rw [beq_iff_eq];exact hu0
    clear hu0
    go_wp2
    go_ret
    exact ⟨rfl,Hb3.out⟩
   ·have bu:(u == 0)=false:=by rw [beq_eq_false_iff_ne];exact hu0
    have hfs:=Hf1.out hu0
    have hz:¬ Zer qs:=fun hz=>hu0 (HU.out.2 hz)
    have FL:=Lib.hid (show l3≤8 by
     have e1:=HF3.out.length
     have e2:=facs_len qs []
     have e3:=H4.out
     simp only [List.length_nil] at e2
     rw [hfs] at e1;omega)
    have HFC:=Lib.hid (show ∀ x∈fs,FcP x.1 by rw [hfs];exact facs_fcp HT.out hz)
    have HPW:=Lib.hid (show ∀ x∈fs,x.2≤100 from fun x hx=>by
     rw [hfs] at hx
     have:=facs_pow (qs:=qs) (l:=[]) (N:=0) (fun x hx=>by cases hx) x hx
     have:=H4.out
     omega)
    obtain ⟨ba1,ba2,ba3⟩:=bnd_all HT.out hz ha hb ha' hb' HLT.out
    rw [← hfs] at ba1 ba2 ba3
    have hne:=Lib.hid (prodf_ne HT.out hz)
    obtain ⟨F,hFd⟩:∃ F,F=prodf [1] qs:=⟨_,rfl⟩
    rw [← hFd] at ba1 ba2 ba3 hne
    have HFd:=Lib.hid hFd
    have hP:=prodf_bd qs [1] 1 HT.out one_abs
    have hPl:=prodf_len qs [1] 0 HT.out (by decide) (by decide)
    have h27:27^qs.length≤27^4:=Nat.pow_le_pow_right (by decide) H4.out
    have HP:∀ j,(F.getD j 0).natAbs≤531441:=fun j=>by have:=hP j;rw [hFd];omega
    have hFl:F.length≤9:=by rw [hFd];have:=H4.out;omega
    have hFt:ptrim F=F:=by rw [hFd];exact prodf_trim qs [1] (by decide)
    have S0:=Lib.hid (show ShFit (ptrim F) (rtz a b) (rtq a b) by rw [hFt];exact shfit_frac hFl HP zb0 qp0 qb0)
    have S1:=Lib.hid (show ShFit (ptrim F) (rtz a' b') (rtq a' b') by rw [hFt];exact shfit_frac hFl HP zb1 qp1 qb1)
    have fF:FitP F:=fun j=>Nat.lt_of_le_of_lt (HP j) (lt_fw (by rw [BB_eq];decide))
    have MO:=Lib.hid (mobok_nine (f:=F) (by have:=plen_le F;omega) (fun j=>Nat.le_trans (HP j) (by decide)) zb0 qp0 qb0 zb1 qp1 qb1)
    obtain ⟨M,hM⟩:∃ M,M=pmobius F (rtq a b) (rtq a' b') (rtz a b) (rtz a' b'):=⟨_,rfl⟩
    have sM:SmP M:=by rw [hM];exact (pmobius_fit MO.out).smp
    have lM:M.length≤9:=by
     rw [show M.length=plen M by rw [← ptrim_length,hM,pmobius_trim]]
     have:=pmobius_len (f:=F) (rtq a b) (rtq a' b') (rtz a b) (rtz a' b')
     have:=plen_le F
     rw [hM];omega
    have HM:=Lib.hid hM
    rw [← hM,← vst_dvar] at ba2 ba3
    obtain ⟨V,hV⟩:∃ V,V=(vst M M.length).1:=⟨_,rfl⟩
    have HV:=Lib.hid hV
    have hV9:V≤9:=by rw [hV];exact Nat.le_trans (vst_le M M.length).1 lM
    rw [← hV] at ba2 ba3
    obtain ⟨B,hB⟩:∃ B,B=nbud F (rtz a b) (rtq a b) (rtz a' b') (rtq a' b'):=⟨_,rfl⟩
    have hB9:B.natAbs≤9:=by rw [hB];exact nbud_bd hFl _ _ _ _
    have HB:=Lib.hid hB
    rw [← hB] at ba1
    obtain ⟨C,hC⟩:∃ C,C=wsum (fun p k=>if inb p k a b a' b' then 1 else 0) fs:=⟨_,rfl⟩
    have HC:=Lib.hid hC
    have hC9:C.natAbs≤1600:=by
     have h1:=wsum_bd (j:=fun p k=>if inb p k a b a' b' then 1 else 0) (fun p k=>by split<;>decide) fs HPW.out
     have h2:=FL.out
     rw [← HF3.out.length] at h2
     rw [hC]
     omega
    rw [← hC] at ba1 ba2 ba3
    obtain ⟨T,hT⟩:∃ T,T=atm (frn a' b') (frd b') fs:=⟨_,rfl⟩
    have HTm:=Lib.hid hT
    have hT9:0≤T∧T≤100:=by rw [hT];exact atm_bd HPW.out
    rw [← hT] at ba2 ba3
    obtain ⟨O,hO⟩:∃ O,O=C-T:=⟨_,rfl⟩
    rw [← hO] at ba2 ba3
    have tO:IntKind.i64.wrap (C-T)=O:=by rw [IntWalk.i64_in _ (by omega),hO]
    have tO':IntKind.i64.wrap O=O:=IntWalk.i64_in _ (by omega)
    have x1:IntKind.i64.wrap ((V:Int)-O)=(V:Int)-O:=IntWalk.i64_in _ (by omega)
    have x2:IntKind.i64.wrap (B-C)=B-C:=IntWalk.i64_in _ (by omega)
    have y1:Int.tmod ((V:Int)-O) 2=0:=by rw [Int.tmod_eq_emod_of_nonneg (by omega)];exact ba3
    have y2:Int.tmod (B-C) 2=0:=by
     obtain ⟨j,hj⟩:=ba1
     rw [show B-C=2*(j:Int) by omega]
     exact Int.mul_tmod_right _ _
    have hBC:C≤B:=by obtain ⟨j,hj⟩:=ba1;omega
    have z1:decide (O≤(V:Int))=true:=decide_eq_true ba2
    have z2:decide (C≤B)=true:=decide_eq_true hBC
    have X:=Lib.hid (And.intro tO (And.intro tO' (And.intro x1 (And.intro x2 (And.intro y1 (And.intro y2 (And.intro z1 z2)))))))
    have H64:=Lib.hid (show ∀ c∈prodf [1] qs,I64 c from fun c hc=>by
     obtain ⟨i,hi,e⟩:=List.getElem_of_mem hc
     have:=HP i
     rw [hFd,List.getD_eq_getElem?_getD,List.getElem?_eq_getElem hi,e] at this
     simp at this
     unfold I64
     omega)
    have HFl:=Lib.hid hFl
    have HFt:=Lib.hid hFt
    clear hu0 hfs hz ba1 ba2 ba3 hFd hP hPl h27 HP hFl hFt hM hV hV9 hB hB9 hC hC9 hT hT9 hO tO tO' x1 x2 y1 y2 hBC z1 z2
    go_wp2_with fail
    refine (fprod_any H3.out h5 HT.out).mono ?_
    rintro e w4 ⟨⟨A4,l4,c4,rfl,h4⟩,hb4⟩
    have H4p:=Lib.hid h4
    have HF4:=Lib.hid (fs_below HF3.out hb4)
    replace R1:=Lib.hid (R1.out.move hb4)
    replace R2:=Lib.hid (R2.out.move hb4)
    have Hb4:=Lib.hid (Hb3.out.trans (hb4.mono Hb3.out.size))
    have hl4:l4≤9:=by rw [← h4.length,← HFd.out];exact HFl.out
    clear h4 hb4
    go_wp2_with fail
    refine (pol15_any _ _ _ (prodf [1] qs) _ H4p.out (by omega) H64.out).mono ?_
    rintro e w5 ⟨A5,l5,c5,rfl,h5',hb5⟩
    rw [← HFd.out,HFt.out] at h5'
    have HF5:=Lib.hid h5'
    have HFs5:=Lib.hid (fs_below HF4.out hb5)
    have T1:=Lib.hid (R1.out.move hb5)
    have T2:=Lib.hid (R2.out.move hb5)
    have Hb5:=Lib.hid (Hb4.out.trans (hb5.mono Hb4.out.size))
    have hlF:l5≤9:=by have e1:=h5'.length;have:=HFl.out;omega
    have hl3:l3≤100:=by have:=FL.out;omega
    have s0:=T1.out.c0
    have s1:=T1.out.c1
    have t0:=T2.out.c0
    have t1:=T2.out.c1
    clear hb5 h5' hl4
    go_wp2_with fail
    refine (count17_any HFs5.out hl3 HFC.out HPW.out a b a' b' ha hb ha' hb').mono ?_
    rintro e w6 ⟨rfl,hb6⟩
    rw [← HC.out]
    have HF6:=Lib.hid (HF5.out.below ikN hb6)
    have HFs6:=Lib.hid (fs_below HFs5.out hb6)
    have U1:=Lib.hid (T1.out.move hb6)
    have U2:=Lib.hid (T2.out.move hb6)
    have Hb6:=Lib.hid (Hb5.out.trans (hb6.mono Hb5.out.size))
    clear hb6 s0 s1 t0 t1
    have t0:=U2.out.c0
    have t1:=U2.out.c1
    go_wp2_with fail
    refine (at17_any HFs6.out hl3 HFC.out a' b' ha' hb').mono ?_
    rintro e w8 ⟨rfl,hb8⟩
    rw [← HTm.out]
    have HF:=Lib.hid (HF6.out.below ikN hb8)
    have V1:=Lib.hid (U1.out.move hb8)
    have V2:=Lib.hid (U2.out.move hb8)
    have Hb:=Lib.hid (Hb6.out.trans (hb8.mono Hb6.out.size))
    clear hb8 t0 t1 HF6 HFs6 Hb6
    have s0:=V1.out.c0
    have s1:=V1.out.c1
    have t0:=V2.out.c0
    have t1:=V2.out.c1
    obtain ⟨w40,rfl⟩:∃ w40:World,w40=w8:=⟨_,rfl⟩
    have G40:Hid (Below w40.heap.size w40 w40):=Lib.hid (Below.refl _ _)
    have tO:=X.out.1
    have tO':=X.out.2.1
    go_wp2_with fail
    refine wp_region_held_drew (S:=fun w'=>w'.cell? ⟨w.heap.size,0,none⟩=some (.int .i8 a)∧w'.cell? ⟨w.heap.size,1,none⟩=some (.int .i8 b)∧w'.cell? ⟨w.heap.size+1,0,none⟩=some (.int .i8 a')∧w'.cell? ⟨w.heap.size+1,1,none⟩=some (.int .i8 b')) (by kernel_rfl) (by (try dsimp only);go_keep) (fun hHeld=>?_)
    (refine tk (i:=0) (v:=?_) rfl rfl (Or.inl ⟨by rfl,?_⟩) ?_;rotate_left;(focus (intro w hSw;(try dsimp only at hSw);go_simp;(try with_reducible rfl)));(simp only [put_lit,List.set]))
    (refine tk (i:=1) (v:=?_) rfl rfl (Or.inl ⟨by rfl,?_⟩) ?_;rotate_left;(focus (intro w hSw;(try dsimp only at hSw);go_simp;(try with_reducible rfl)));(simp only [put_lit,List.set]))
    (refine tk (i:=3) (v:=?_) rfl rfl (Or.inl ⟨by rfl,?_⟩) ?_;rotate_left;(focus (intro w hSw;(try dsimp only at hSw);go_simp;(try with_reducible rfl)));(simp only [put_lit,List.set]))
    (refine tk (i:=6) (v:=?_) rfl rfl (Or.inl ⟨by rfl,?_⟩) ?_;rotate_left;(focus (intro w hSw;(try dsimp only at hSw);go_simp;(try with_reducible rfl)));(simp only [put_lit,List.set]))
    (refine tk (i:=7) (v:=?_) rfl rfl (Or.inl ⟨by rfl,?_⟩) ?_;rotate_left;(focus (intro w hSw;(try dsimp only at hSw);go_simp;(try with_reducible rfl)));(simp only [put_lit,List.set]))
    (refine tk (i:=9) (v:=?_) rfl rfl (Or.inl ⟨by rfl,?_⟩) ?_;rotate_left;(focus (intro w hSw;(try dsimp only at hSw);go_simp;(try with_reducible rfl)));(simp only [put_lit,List.set]))
    (refine wpAnyH_ready (rs:=[2]) (by kernel_rfl) (by simp) ?_;refine AllReadyH.cons rfl (fun K hK=>?_) AllReadyH.nil;go_simp)
    refine (rat15_any a b _ ha hb).mono ?_
    rintro e w41 ⟨⟨n1,A1,l1,c1,B1,m1,d1,rfl,hz1,hq1⟩,hb41⟩
    have HZ1:=Lib.hid hz1
    have HQ1:=Lib.hid hq1
    clear hz1 hq1
    have G41:=Lib.hid (G40.out.trans ((show Below w40.heap.size w40 w41 from (Below.trans Bel.go (hb41.mono (by simp<;>omega)))).mono G40.out.size));obtain ⟨hcx,hfx⟩:=bcellS hb41;refine hK.out _ _ ?_ (fun _=>?_);(focus (((try dsimp only);repeat' apply And.intro)<;>(rw [hcx _ (by go_simp)];go_simp)));clear hHeld hK K hcx hfx;rename_i hHeld;clear hb41
    (refine wpAnyH_ready (rs:=[4]) (by kernel_rfl) (by simp) ?_;refine AllReadyH.cons rfl (fun K hK=>?_) AllReadyH.nil;go_simp)
    refine (rat15_any a' b' _ ha' hb').mono ?_
    rintro e w42 ⟨⟨n2,A2,l2,c2,B2,m2,d2,rfl,hz2,hq2⟩,hb42⟩
    have HZ12:=Lib.hid (HZ1.out.below (show Below w41.heap.size w41 w42 from (Below.trans Bel.go (hb42.mono (by simp<;>omega)))))
    have HQ12:=Lib.hid (HQ1.out.below (show Below w41.heap.size w41 w42 from (Below.trans Bel.go (hb42.mono (by simp<;>omega)))))
    have HZ2:=Lib.hid hz2
    have HQ2:=Lib.hid hq2
    clear hz2 hq2
    have G42:=Lib.hid (G41.out.trans ((show Below w41.heap.size w41 w42 from (Below.trans Bel.go (hb42.mono (by simp<;>omega)))).mono G41.out.size));obtain ⟨hcx,hfx⟩:=bcellS hb42;refine hK.out _ _ ?_ (fun _=>?_);(focus (((try dsimp only);repeat' apply And.intro)<;>(rw [hcx _ (by go_simp)];go_simp)));clear hHeld hK K hcx hfx;rename_i hHeld;clear hb42
    (refine wpAnyH_ready (rs:=[5]) (by kernel_rfl) (by simp) ?_;refine AllReadyH.cons rfl (fun K hK=>?_) AllReadyH.nil;go_simp)
    refine (dvar_any ikN _ _ _ F _ _ _ _ _ _ _ _ _ _ _ _ _ _ _ _ _ _ _ ((HF.out.below ikN G42.out).below ikN Bel.go) (by omega) fF (HZ12.out.below Bel.go) (HQ12.out.below Bel.go) (HZ2.out.below Bel.go) (HQ2.out.below Bel.go) u0 v0 qp0 u1 v1 qp1 MO.out (by rw [← HM.out];exact sM) (by rw [← HM.out];omega)).mono ?_
    rintro e w43 ⟨rfl,hb43⟩
    rw [← HM.out,← HV.out]
    have G43:=Lib.hid (G42.out.trans ((show Below w42.heap.size w42 w43 from (Below.trans Bel.go (hb43.mono (by simp<;>omega)))).mono G42.out.size));obtain ⟨hcx,hfx⟩:=bcellS hb43;refine hK.out _ _ ?_ (fun _=>?_);(focus (((try dsimp only);repeat' apply And.intro)<;>(rw [hcx _ (by go_simp)];go_simp)));clear hHeld hK K hcx hfx;rename_i hHeld;clear hb43
    (refine wpAnyH_ready (rs:=[8]) (by kernel_rfl) (by simp) ?_;refine AllReadyH.cons rfl (fun K hK=>?_) AllReadyH.nil;go_simp)
    refine (rat15_any a b _ ha hb).mono ?_
    rintro e w44 ⟨⟨n3,A3,l3,c3,B3,m3,d3,rfl,hz3,hq3⟩,hb44⟩
    have HZ3:=Lib.hid hz3
    have HQ3:=Lib.hid hq3
    clear hz3 hq3
    have G44:=Lib.hid (G43.out.trans ((show Below w43.heap.size w43 w44 from (Below.trans Bel.go (hb44.mono (by simp<;>omega)))).mono G43.out.size));obtain ⟨hcx,hfx⟩:=bcellS hb44;refine hK.out _ _ ?_ (fun _=>?_);(focus (((try dsimp only);repeat' apply And.intro)<;>(rw [hcx _ (by go_simp)];go_simp)));clear hHeld hK K hcx hfx;rename_i hHeld;clear hb44
    (refine wpAnyH_ready (rs:=[10]) (by kernel_rfl) (by simp) ?_;refine AllReadyH.cons rfl (fun K hK=>?_) AllReadyH.nil;go_simp)
    refine (rat15_any a' b' _ ha' hb').mono ?_
    rintro e w45 ⟨⟨n4,A4,l4,c4,B4,m4,d4,rfl,hz4,hq4⟩,hb45⟩
    have HZ34:=Lib.hid (HZ3.out.below (show Below w44.heap.size w44 w45 from (Below.trans Bel.go (hb45.mono (by simp<;>omega)))))
    have HQ34:=Lib.hid (HQ3.out.below (show Below w44.heap.size w44 w45 from (Below.trans Bel.go (hb45.mono (by simp<;>omega)))))
    have HZ4:=Lib.hid hz4
    have HQ4:=Lib.hid hq4
    clear hz4 hq4
    have G45:=Lib.hid (G44.out.trans ((show Below w44.heap.size w44 w45 from (Below.trans Bel.go (hb45.mono (by simp<;>omega)))).mono G44.out.size));obtain ⟨hcx,hfx⟩:=bcellS hb45;refine hK.out _ _ ?_ (fun _=>?_);(focus (((try dsimp only);repeat' apply And.intro)<;>(rw [hcx _ (by go_simp)];go_simp)));clear hHeld hK K hcx hfx;rename_i hHeld;clear hb45
    (refine wpAnyH_ready (rs:=[11]) (by kernel_rfl) (by simp) ?_;refine AllReadyH.cons rfl (fun K hK=>?_) AllReadyH.nil;go_simp)
    refine (budan_any ikN _ _ _ F _ _ _ _ _ _ _ _ _ _ _ _ _ _ _ _ _ _ _ ((HF.out.below ikN G45.out).below ikN Bel.go) (by omega) fF (HZ34.out.below Bel.go) (HQ34.out.below Bel.go) (HZ4.out.below Bel.go) (HQ4.out.below Bel.go) S0.out S1.out).mono ?_
    rintro e w46 ⟨rfl,hb46⟩
    rw [← HB.out]
    have G46:=Lib.hid (G45.out.trans ((show Below w45.heap.size w45 w46 from (Below.trans Bel.go (hb46.mono (by simp<;>omega)))).mono G45.out.size));obtain ⟨hcx,hfx⟩:=bcellS hb46;refine hK.out _ _ ?_ (fun _=>?_);(focus (((try dsimp only);repeat' apply And.intro)<;>(rw [hcx _ (by go_simp)];go_simp)));clear hHeld hK K hcx hfx;rename_i hHeld;clear hb46
    (refine tk (i:=12) (v:=?_) rfl rfl (Or.inl ⟨by rfl,?_⟩) ?_;rotate_left;(focus (intro w hSw;(try dsimp only at hSw);go_simp;(try with_reducible rfl)));(simp only [put_lit,List.set]))
    (refine tk (i:=13) (v:=?_) rfl rfl (Or.inl ⟨by rfl,?_⟩) ?_;rotate_left;(focus (intro w hSw;(try dsimp only at hSw);go_simp;(try with_reducible rfl)));(simp only [put_lit,List.set]))
    refine wpAnyH_done (by kernel_rfl) ?_ _
    clear hHeld
    obtain ⟨tO,tO',x1,x2,y1,y2,z1,z2⟩:=X.out
    go_wp2
    go_ret
    exact ⟨by simp,by first | exact Hb.out.trans (G46.out.mono Hb.out.size) | exact below_drewn (Hb.out.trans (G46.out.mono Hb.out.size)) _⟩
  ·rw [decide_eq_false hlt]
   clear hlt
   go_wp2_with fail
   refine (awake17_any _).mono ?_
   rintro e w2 ⟨rfl,hb2⟩
   have Hb2:=Lib.hid (Hb1.out.trans (hb2.mono Hb1.out.size))
   clear hb2
   go_wp2
   go_ret
   exact ⟨rfl,Hb2.out⟩
 ·have ef:fewb 4 qs=false:=by unfold fewb;exact @decide_eq_false _ (Classical.propDecidable _) hfew
  rw [ef]
  clear hfew ef
  go_wp2_with fail
  refine (awake17_any _).mono ?_
  rintro e w2 ⟨rfl,hb2⟩
  have Hb2:=Lib.hid (Hb1.out.trans (hb2.mono Hb1.out.size))
  clear hb2
  go_wp2
  go_ret
  exact ⟨rfl,Hb2.out⟩
end Go.Proofs.YtjmglmgokfcgoaaGreat
namespace Go.Proofs.YtjmglmgokfcgoaaGreat
open Go.ChangeShapes Go.WideShapes Go.ChangeAt Go.RowKit
set_option maxRecDepth 100000 in
theorem bounds_lifted (os:Os) (started:os.Started) (H:Type) (enc:TypeId×Value→H) :
 ReturnsInHanded {} Tryz.checked os 6 .any (Rows.descartesBoundsSpec.pre6 enc Tryz.prog Tryz.f6 Rows.descartesBoundsRow.domain false) (Rows.descartesBoundsSpec.post enc Tryz.prog Tryz.f6 false true false false):=by
 refine returnsInHanded_of_change (C:=Tryz.checked) Tryz.own started (by kernel_rfl) Tryz.func6
  (ChangeSpec.witness6 (enc:=enc) (C:=Tryz.checked) false ⟨#[],#[.slice none 0 0,.agg #[.int .i8 0,.int .i8 0],.agg #[.int .i8 0,.int .i8 0]],[]⟩ 8 (by kernel_rfl) (by kernel_rfl) (by kernel_rfl) (by kernel_rfl)) ?_
 intro W base args ds gs before hval0 hW hcnd _
 exact lifted_trpp _ Tryz.f6 Tryz.params6 rfl enc _ rfl (fun _ _ _=>rfl) (fun A len cap p q0 q1 q2 q3 w h hl a b c d=>law_bounds A len cap p q0 q1 q2 q3 w h hl a b c d) W args ds gs before hval0 hW
theorem descartesBounds_holds:Rows.DescartesBoundsSaid :=
 OpenClaim.holds_of_wide 6 Tryz.f6 rfl rfl rfl rfl rfl rfl rfl ⟨rfl,rfl,rfl,rfl,rfl⟩ rfl rfl rfl rfl rfl (by kernel_rfl) Tryz.func6 (by kernel_rfl)
  (of_decide_eq_true (by kernel_rfl)) (by unfold Func.isWrapper;first | (rw [if_pos (by decide +kernel)];kernel_rfl) | (rw [if_neg (by decide +kernel)];exact ⟨rfl,rfl⟩))
  (fun os started H enc _=>bounds_lifted os started H enc)
#print axioms descartesBounds_holds
end Go.Proofs.YtjmglmgokfcgoaaGreat
