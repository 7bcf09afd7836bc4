/- For any two slices of int16s and any uint8 the law RefineSigns returns true and its arguments read as before: refine.Sign is the Tarski query, and multiplicative. No condition. -/
import Derived.Test.YtbfddopopajgaabGreatRowP
import Derived.OpenShut
import Derived.Test.YtbfddopopajgaabGreatHfp
import Derived.Test.YtbfddopopajgaabGreatIvp
import Derived.Test.YtbfddopopajgaabGreatTkr
import Derived.Test.YtbfddopopajgaabGreatAdp
import Derived.Test.YtbfddopopajgaabGreatSgw
import Derived.Test.YtbfddopopajgaabGreatApg
import Derived.Test.YtbfddopopajgaabGreatStd
import Derived.Test.YtbfddopopajgaabGreatRed
import Derived.Test.YtbfddopopajgaabGreatIdP
import Derived.Test.YtbfddopopajgaabGreatLin
namespace Go.Proofs.YtbfddopopajgaabGreat
open Go.ChangeShapes Go.WideShapes Go.ChangeAt Go.RowKit
theorem u8_wf {n:Int} (h:(Lit.int .u8 n).wf=true):0≤n∧n≤255:=by
 have h1:IntKind.u8.min=0:=rfl
 have h2:IntKind.u8.max=255:=rfl
 simp only [Lit.wf,Bool.and_eq_true,decide_eq_true_eq] at h
 omega
end Go.Proofs.YtbfddopopajgaabGreat
namespace Go.Proofs.YtbfddopopajgaabGreat
open Go.ChangeShapes Go.WideShapes Go.ChangeAt Go.RowKit
set_option maxRecDepth 100000 in
theorem lifted_two16u8 (f:Nat) (fn:Func) (hp:fn.params=#[22,22,5]) (hr:fn.resultTypes=#[4]) {H:Type} (enc:TypeId×Value→H) (spec:ChangeSpec) (hsv:spec.vars=[]) (hsf:∀ d d' d'',spec.fn H [d,d',d'']={ results:=[.lit (.bool true)],args:=[d,d',d''] })
 (walk:∀ A la ca p B lb cb q n w,I16At w A la ca p→I16At w B lb cb q→la≤9223372036854775807→lb≤9223372036854775807→(0≤n∧n≤255)→Calls Tryz.prog f #[.slice A la ca,.slice B lb cb,.int .u8 n] w fun e w'=>e=.returned (.bool true)∧Below w.heap.size w w')
 (W:World) (args:Array Value) (ds gs:List (DataW H)) (before:List MemPlace)
 (hval:∀ (j:Nat) t v,fn.params[j]?=some t→args[j]?=some v→Value.okWide Tryz.prog W .any 0 t v)
 (hW:DataW.Whole enc Tryz.prog fn.params.toList spec.vars false W args.toList ds gs before) :
 Calls Tryz.prog f args W fun e W'=>∃ v,e=Ending.returned v∧spec.post enc Tryz.prog fn false true false false W args v W':=by
 have hW':=hW
 obtain ⟨p,q,hA0,hV,rfl,_,_⟩:=hW
 have hA:DataW.TrodAll enc Tryz.prog W 0 (fun _=>true) true fn.params.toList args.toList ds p:=hA0
 rw [hp] at hA hval
 obtain ⟨v0,v1,v2,d0,d1,d2,p0,p1,p2,rfl,rfl,rfl,h0,h1,h2⟩:=trodAll_three hA
 rw [hsv] at hV
 obtain ⟨rfl,rfl⟩:=trodVars_none hV
 obtain ⟨a0,la,ca,rfl⟩:=okWide_slice Tryz.underlying22 (hval 0 22 v0 rfl rfl)
 obtain ⟨a1,lb,cb,rfl⟩:=okWide_slice Tryz.underlying22 (hval 1 22 v1 rfl rfl)
 obtain ⟨n,rfl,rfl,rfl,wn⟩:=open_int Tryz.underlying5 (hval 2 5 v2 rfl rfl) h2
 simp only [List.append_nil] at hW'
 have hlt:∀ x∈p0 ++ p1,x.block<W.heap.size:=fun x hx=>by simpa using hW'.lt x hx
 have hlt0:∀ x∈p0,x.block<W.heap.size:=fun x hx=>hlt x (List.mem_append.2 (.inl hx))
 have hlt1:∀ x∈p1,x.block<W.heap.size:=fun x hx=>hlt x (List.mem_append.2 (.inr hx))
 obtain ⟨hla,zs,hz⟩:=open_i16 h0 hlt0
 obtain ⟨hlb,ys,hy⟩:=open_i16 h1 hlt1
 refine (walk a0 la ca zs a1 lb cb ys n W hz hy hla hlb (u8_wf wn)).mono fun e W' ⟨he,hb⟩=>?_
 subst he
 refine ⟨_,rfl,post_below (pa:=p0 ++ p1) (pv:=[]) hW' (fun _ _ _=>?_) (fun sp hs=>?_) (fun _ _=>?_) (by simp) hb ?_⟩
 ·rw [List.append_nil,hsf,hr]
  exact trodAll_mk1 (shut_bool Tryz.underlying4 _)
 ·rw [List.append_nil,hsf,hp]
  have h3:=trodAll_mk3 (Go.WideElems.Trod_stays Tryz.laidOut (by kernel_rfl) (of_decide_eq_true (by kernel_rfl)) h0 (fun x hx=>hb.same (hlt0 x hx)) (fun x hx=>hs x (List.mem_append.2 (.inl hx)))) (Go.WideElems.Trod_stays Tryz.laidOut (by kernel_rfl) (of_decide_eq_true (by kernel_rfl)) h1 (fun x hx=>hb.same (hlt1 x hx)) (fun x hx=>hs x (List.mem_append.2 (.inr hx)))) (shut_int (enc:=enc) (w:=W') (base:=0) (spare:=sp) (held:=true) Tryz.underlying5 wn)
  simpa using h3
 ·rw [hsv,List.append_nil,hsf]
  rfl
 ·exact ok_one hr rfl (okWide_bool_mk Tryz.underlying4 _)
end Go.Proofs.YtbfddopopajgaabGreat
namespace Go.Proofs.YtbfddopopajgaabGreat
open Go.RowKit
section
variable {K i j:Nat} {a b:Fq} {r:Fq×Fq} {Q f:List Int}
theorem Dy.le (h:Dy K i a) (hij:i≤j):Dy K j a:=⟨h.p,Nat.dvd_trans h.d (Nat.pow_dvd_pow 2 hij),h.z⟩
theorem Dy.nf (h:Dy K i a):Dy K i a.nf:=by
 have hp:=(Go.Proofs.YtbfddopopajgaabGreat.nf_v (z:=a.z) h.p).2.1
 obtain ⟨g,hg⟩:∃ g,g=Nat.gcd a.z.natAbs a.q:=⟨_,rfl⟩
 have hg0:0<g:=by rw [hg];exact Nat.gcd_pos_of_pos_right _ h.p
 have d2:g∣a.q:=by rw [hg];exact Nat.gcd_dvd_right _ _
 have d1:g∣a.z.natAbs:=by rw [hg];exact Nat.gcd_dvd_left _ _
 have eq:a.nf.q=a.q / g:=by rw [hg];rfl
 have ez:a.nf.z.natAbs=a.z.natAbs / g:=by
  show (rz a.z a.q).natAbs=_
  unfold rz
  rw [Int.natAbs_tdiv,hg,Int.natAbs_natCast];rfl
 refine ⟨hp,?_,?_⟩
 ·rw [eq];exact Nat.dvd_trans (Nat.div_dvd_of_dvd d2) h.d
 ·rw [ez,eq,← Nat.mul_div_assoc _ d2]
  exact Nat.div_le_div_right h.z
def DyR (K i:Nat) (r:Fq×Fq):Prop:=Dy K i r.1∧Dy K i r.2
theorem DyR.le (h:DyR K i r) (hij:i≤j):DyR K j r:=⟨h.1.le hij,h.2.le hij⟩
theorem hlf_dy (h:DyR K i r):DyR K (i+1) (hlf Q r):=by
 have hm:=h.1.mid h.2
 unfold hlf
 split
 ·exact h.le (Nat.le_succ _)
 ·split
  ·exact ⟨hm.nf,hm.nf⟩
  ·split
   ·exact ⟨hm,h.2.up⟩
   ·exact ⟨h.1.up,hm⟩
structure DyW (K:Nat) (W:Rat) (i:Nat) (r:Fq×Fq):Prop where
 d:DyR K i r
 w:r.1.v=r.2.v∨(r.2.v-r.1.v)*2^i=W
theorem pow2_succ (i:Nat):(2:Rat)^(i+1)=2^i*2:=by rw [Rat.pow_succ]
theorem hlf_dw {W:Rat} (h:DyW K W i r):DyW K W (i+1) (hlf Q r):=by
 refine ⟨hlf_dy h.d,?_⟩
 have hv:=Fq.mid_v h.d.1.p h.d.2.p
 have h0:=fcmp_zero h.d.1.p h.d.2.p
 unfold hlf
 split
 ·rename_i c
  exact .inl (h0.1 c)
 ·rename_i c
  have hw:=h.w.resolve_left fun e=>c (h0.2 e)
  split
  ·exact .inl rfl
  ·split
   ·refine .inr ?_
    show (r.2.v-(r.1.mid r.2).v)*2^(i+1)=W
    rw [hv.1,pow2_succ]
    grind
   ·refine .inr ?_
    show ((r.1.mid r.2).v-r.1.v)*2^(i+1)=W
    rw [hv.1,pow2_succ]
    grind
theorem isl_dw {PS:List (List Int)} {W:Rat}:∀ (n i:Nat) (a b:Fq),Dy K i a→Dy K i b→(b.v-a.v)*2^i=W→∀ r∈isl Q PS n a b,∃ j,i≤j∧j≤i+n∧DyW K W j r
 | 0,_,_,_,_,_,_,r,hr=>by simp [isl] at hr
 | n+1,i,a,b,ha,hb,hw,r,hr=>by
   have e:isl Q PS (n+1) a b=if icnt Q PS a b<1 then [] else if icnt Q PS a b=1∧a.sgn Q≠0∧b.sgn Q≠0 then [(a.nf,b.nf)] else isl Q PS n a (a.mid b) ++ (if (a.mid b).sgn Q=0 then [((a.mid b).nf,(a.mid b).nf)] else []) ++ isl Q PS n (a.mid b) b:=rfl
   rw [e] at hr
   have hm:=ha.mid hb
   have hv:=Fq.mid_v ha.p hb.p
   by_cases c1:icnt Q PS a b<1
   ·rw [if_pos c1] at hr;simp at hr
   rw [if_neg c1] at hr
   by_cases c2:icnt Q PS a b=1∧a.sgn Q≠0∧b.sgn Q≠0
   ·rw [if_pos c2,List.mem_singleton] at hr
    rw [hr]
    refine ⟨i,Nat.le_refl _,by omega,⟨ha.nf,hb.nf⟩,.inr ?_⟩
    show (b.nf.v-a.nf.v)*2^i=W
    rw [(Fq.nf_v ha.p).1,(Fq.nf_v hb.p).1]
    exact hw
   rw [if_neg c2] at hr
   rcases List.mem_append.1 hr with hr | hr
   ·rcases List.mem_append.1 hr with hr | hr
    ·obtain ⟨j,j1,j2,j3⟩:=isl_dw (W:=W) n (i+1) a (a.mid b) ha.up hm (by rw [hv.1,pow2_succ];grind) r hr
     exact ⟨j,by omega,by omega,j3⟩
    ·split at hr
     ·rw [List.mem_singleton] at hr
      rw [hr]
      exact ⟨i+1,by omega,by omega,⟨hm.nf,hm.nf⟩,.inl rfl⟩
     ·simp at hr
   ·obtain ⟨j,j1,j2,j3⟩:=isl_dw (W:=W) n (i+1) (a.mid b) b hm hb.up (by rw [hv.1,pow2_succ];grind) r hr
    exact ⟨j,by omega,by omega,j3⟩
theorem nn_zb2 (h:SqF Q 16):(cbn Q+1)*2^(NN+2500)≤ZB:=by
 have h1:=cbn_le h
 have h2:BB^17+1≤BB^18:=by
  have h3:BB^17<BB^18:=Nat.pow_lt_pow_right (by rw [BB_eq];decide) (by decide)
  omega
 obtain ⟨k,hk⟩:∃ k:Nat,k=18:=⟨_,rfl⟩
 have h4:cbn Q+1≤2^(32*k):=by rw [← bb_two,hk];omega
 have e:ZB=2^(32*ZK):=by unfold ZB;rw [bb_two]
 refine Nat.le_trans (Nat.mul_le_mul_right _ h4) ?_
 rw [e,← Nat.pow_add]
 exact Nat.pow_le_pow_right (by decide) (by rw [hk,NN_eq,ZK_eq];decide)
theorem DyR.fqb {N:Nat} (h:DyR K i r) (hi:i≤N) (hN:(K+1)*2^N≤ZB):FqB r.1∧FqB r.2∧(i+1≤N→FqB (r.1.mid r.2)):=⟨h.1.fqb hi hN,h.2.fqb hi hN,fun h2=>(h.1.mid h.2).fqb h2 hN⟩
theorem proots_dw (f:List Int):∀ r∈proots f,∃ j,j≤NN+1∧DyW (cbn (qpart f)) (2*(cbn (qpart f):Nat)) j r:=by
 unfold proots
 by_cases h:plen (qpart f)<2
 ·rw [if_pos h];intro r hr;simp at hr
 ·rw [if_neg h]
  have hv:=end_v (cbn (qpart f))
  intro r hr
  obtain ⟨j,_,j2,j3⟩:=isl_dw (K:=cbn (qpart f)) (W:=2*((cbn (qpart f):Nat):Rat)) (NN+1) 0 ⟨-((cbn (qpart f):Nat):Int),1⟩ ⟨((cbn (qpart f):Nat):Int),1⟩ ⟨Nat.one_pos,by simp,by simp⟩ ⟨Nat.one_pos,by simp,by simp⟩ (by rw [hv.1,hv.2,Rat.pow_zero];grind) r hr
  exact ⟨j,by omega,j3⟩
end
end Go.Proofs.YtbfddopopajgaabGreat
namespace Go.Proofs.YtbfddopopajgaabGreat
open Go.RowKit
theorem bez2o {S T:List Int} {k:Nat} (tS:ptrim S=S) (tT:ptrim T=T) (l2:2≤plen T) (lT:plen T≤plen S) (l10:plen S≤10) (hb:∀ j,(S.getD j 0).natAbs≤BB^k) (hd:∀ j,(T.getD j 0).natAbs≤BB^k) (hk:k≤60) (hc:∀ p,Dvq p S→Dvq p T→plen p≤1) :
 ∃ (U V:List Int) (c:Int),c≠0∧U.length≤10∧V.length≤10∧(∀ j,(U.getD j 0).natAbs≤BB^(20*(k+3)))∧(∀ j,(V.getD j 0).natAbs≤BB^(20*(k+3)))∧∀ x,ev U x*ev S x+ev V x*ev T x=c:=by
 have lS:S.length=plen S:=by rw [← ptrim_length,tS]
 have lT2:T.length=plen T:=by rw [← ptrim_length,tT]
 obtain ⟨m,hm⟩:∃ m,plen S=m+1:=⟨plen S-1,by omega⟩
 obtain ⟨n,hn⟩:∃ n,plen T=n+1:=⟨plen T-1,by omega⟩
 have hG:1≤BB^(k+2):=Nat.pow_pos BB_pos
 have ok:GOK (BB^(k+2)) m n 0 1100:=gok_big (by omega) hG (Nat.pow_lt_pow_right (by rw [BB_eq];decide) (by omega))
 have hb':∀ j,(S.getD j 0).natAbs≤BB^(k+1):=fun j=>Nat.le_trans (hb j) (bbk_le (by omega))
 have hd':∀ j,(T.getD j 0).natAbs≤BB^(k+1):=fun j=>Nat.le_trans (hd j) (bbk_le (by omega))
 have up:∀ {x:Nat},x≤BB^(k+1)→x*(m+n)≤BB^(k+2):=fun hx=>by
  rw [Nat.pow_succ]
  exact Nat.mul_le_mul hx (by rw [BB_eq];omega)
 have hs:=sinv_start (f:=S) (g:=T) (m:=m) (n:=n) (G:=BB^(k+2)) (e:=0) (by omega) (by omega) (by omega) (by omega) (by omega) (by omega) hG (fun j=>Nat.le_trans (hb' j) (bbk_le (by omega))) (fun j=>Nat.le_trans (hd' j) (bbk_le (by omega)))
 have hlow:∀ p,Comb S T p→1≤plen p→0+1≤plen p:=fun p _ h=>by omega
 obtain ⟨_,d1,d2⟩:=SInv.spec ok hlow (fun j=>up (hb' j)) (fun j=>up (hd' j)) 20 _ _ hs (by show T.length≤20;omega)
 obtain ⟨L,hL⟩:∃ L,L=lst T (rsq 20 ⟨S,T,-1,(-1)^(S.length-T.length+1)⟩):=⟨_,rfl⟩
 have hl1:plen L≤1:=by rw [hL];exact hc _ d1 d2
 have hl0:plen L≠0:=by
  rw [hL]
  intro e0
  obtain ⟨c,q,hc0,e⟩:=d2
  have:plen T=0:=by
   refine Classical.byContradiction fun hn=>?_
   refine (plen_cmul (p:=T) (r:=psc c T) hc0 (fun t=>ev_psc _ _ _)).2 hn ?_
   rw [plen_ev (r:=polymul q (lst T (rsq 20 ⟨S,T,-1,(-1)^(S.length-T.length+1)⟩))) fun t=>by rw [ev_psc,ev_mul,e]]
   exact rmul_zero (.inr e0)
  omega
 obtain ⟨U,V,c,c0,u1,u2,u3,u4,u5⟩:=SInv.uv ok hlow (fun j=>up (hb' j)) (fun j=>up (hd' j)) hb' hd' 20 _ _ hs (by show T.length≤20;omega) (by show 2≤T.length;omega) (by show plen (lst T _)=1;rw [← hL];omega)
 have hbd:((n+m)*BB^(k+1)+1)^(n+m)≤BB^(20*(k+3)):=by
  have x1:(n+m)*BB^(k+1)+1≤BB^(k+2):=by
   have:BB^(k+1)*20≤BB^(k+1)*BB:=Nat.mul_le_mul_left _ (by rw [BB_eq];decide)
   have h1:1≤BB^(k+1):=Nat.pow_pos BB_pos
   have h2:(n+m)*BB^(k+1)≤19*BB^(k+1):=Nat.mul_le_mul_right _ (by omega)
   have e9:BB^(k+2)=BB^(k+1)*BB:=Nat.pow_succ ..
   rw [e9]
   omega
  calc ((n+m)*BB^(k+1)+1)^(n+m)≤(BB^(k+2))^(n+m):=Nat.pow_le_pow_left x1 _
   _=BB^((k+2)*(n+m)):=by rw [← Nat.pow_mul]
   _≤BB^(20*(k+3)):=bbk_le (by
    have:(k+2)*(n+m)≤(k+2)*20:=Nat.mul_le_mul_left _ (by omega)
    omega)
 exact ⟨U,V,c,c0,by omega,by omega,fun j=>Nat.le_trans (u3 j) hbd,fun j=>Nat.le_trans (u4 j) hbd,u5⟩
theorem bez2 {S T:List Int} {k:Nat} (tS:ptrim S=S) (tT:ptrim T=T) (lS:2≤plen S) (lT:2≤plen T) (l10:plen S≤10) (t10:plen T≤10) (hb:∀ j,(S.getD j 0).natAbs≤BB^k) (hd:∀ j,(T.getD j 0).natAbs≤BB^k) (hk:k≤60) (hc:∀ p,Dvq p S→Dvq p T→plen p≤1) :
 ∃ (U V:List Int) (c:Int),c≠0∧U.length≤10∧V.length≤10∧(∀ j,(U.getD j 0).natAbs≤BB^(20*(k+3)))∧(∀ j,(V.getD j 0).natAbs≤BB^(20*(k+3)))∧∀ x,ev U x*ev S x+ev V x*ev T x=c:=by
 rcases Nat.le_total (plen T) (plen S) with h | h
 ·exact bez2o tS tT lT h l10 hb hd hk hc
 ·obtain ⟨U,V,c,c0,u1,u2,u3,u4,u5⟩:=bez2o tT tS lS h t10 hd hb hk (fun p p1 p2=>hc p p2 p1)
  exact ⟨V,U,c,c0,u2,u1,u4,u3,fun x=>by rw [← u5 x,Int.add_comm]⟩
theorem sep2o {S T:List Int} {k:Nat} (tS:ptrim S=S) (tT:ptrim T=T) (lS:2≤plen S) (lT:2≤plen T) (l10:plen S≤10) (t10:plen T≤10) (hbS:∀ j,(S.getD j 0).natAbs≤BB^(k+6)) (hbT:∀ j,(T.getD j 0).natAbs≤BB^(k+6)) (hk:k≤50) (hc:∀ p,Dvq p S→Dvq p T→plen p≤1) {M a b:Rat} (hM:1≤M) (ha:-M≤a) (hb:b≤M) {x y:Pt} (hx:sgp S x=0) (hy:sgp T y=0) (hxy:x<y) (hax:¬ x<Pt.of a) (hyb:¬ Pt.of b<y):1≤sepD k M*(b-a):=by
 obtain ⟨U,V,c,c0,u1,u2,u3,u4,u5⟩:=bez2 tS tT lS lT l10 t10 hbS hbT (by omega) hc
 refine Classical.byContradiction fun hcon=>?_
 have hid:∀ q,pv U q*pv S q+pv V q*pv T q=(c:Rat):=fun q=>by
  have e1:=pv_congr (padd (polymul U S) (polymul V T)) [c] (ev_inj (fun x=>by rw [ev_padd,ev_mul,ev_mul,ev_const,u5])) q
  rw [pv_padd,pv_polymul,pv_polymul] at e1
  rw [e1]
  show (c:Rat)+q*0=c
  grind
 obtain ⟨BU,hBU⟩:∃ B,B=10*((BB^(20*(k+9)):Nat):Rat)*M^10:=⟨_,rfl⟩
 obtain ⟨K,hK⟩:∃ K,K=100*((BB^(k+6):Nat):Rat)*M^10:=⟨_,rfl⟩
 have hp10:=pow_one_le hM 10
 have hBU0:1≤BU:=by
  have:(1:Rat)≤((BB^(20*(k+9)):Nat):Rat):=by
   have:1≤BB^(20*(k+9)):=Nat.pow_pos BB_pos
   exact_mod_cast this
  rw [hBU]
  have:=Rat.mul_le_mul_of_nonneg_left hp10 (show 0≤10*((BB^(20*(k+9)):Nat):Rat) by grind)
  grind
 have hK0:0≤K:=by
  rw [hK]
  have:(0:Rat)≤((BB^(k+6):Nat):Rat):=by exact_mod_cast Nat.zero_le _
  exact Rat.mul_nonneg (by grind) (by grind)
 have hD:sepD k M=2*BU*K+1:=by unfold sepD;rw [← hBU,← hK]
 rw [hD] at hcon
 obtain ⟨e,he⟩:∃ e:Rat,e=1 / (8*BU):=⟨_,rfl⟩
 have he0:0<e:=by rw [he,Rat.div_def,Rat.one_mul];exact Rat.inv_pos.2 (by grind)
 have heB:BU*e=1 / 8:=by rw [he,Rat.div_def,Rat.div_def];grind
 obtain ⟨l1,v1,n1,f1⟩:=sgf_sml (lp_pv S) hx e he0
 obtain ⟨l3,v3,n3,f3⟩:=sgf_sml (lp_pv T) hy e he0
 obtain ⟨y1,w1,w2,w3⟩:=Pt.two_up (x:=x) (a:=Pt.of v1) (b:=y) (Pt.lt_of.2 n1.2) hxy
 obtain ⟨r,r1,r2⟩:=Pt.mid w1
 obtain ⟨y2,w4,w5,w6⟩:=Pt.two_lo (x:=y) (a:=Pt.of l3) (b:=x) (Pt.of_lt.2 n3.1) hxy
 obtain ⟨q,q1,q2⟩:=Pt.mid w4
 have hlr:l1<r:=Pt.of_lt_of.1 (Pt.lt_trans (Pt.of_lt.2 n1.1) r1)
 have hrv:r<v1:=Pt.of_lt_of.1 (Pt.lt_trans r2 w2)
 have hlq:l3<q:=Pt.of_lt_of.1 (Pt.lt_trans w5 q1)
 have hqv:q<v3:=Pt.of_lt_of.1 (Pt.lt_trans q2 (Pt.lt_of.2 n3.2))
 have hle:∀ {s t:Pt},¬ s<t→∀ {r:Pt},s<r→t<r:=fun {s t} h {r} h1=>by
  rcases Pt.tri s t with c | c | c
  ·exact absurd c h
  ·rw [← c];exact h1
  ·exact Pt.lt_trans c h1
 have hge:∀ {s t:Pt},¬ s<t→∀ {r:Pt},r<t→r<s:=fun {s t} h {r} h1=>by
  rcases Pt.tri s t with c | c | c
  ·exact absurd c h
  ·rw [c];exact h1
  ·exact Pt.lt_trans h1 c
 have har:a<r:=Pt.of_lt_of.1 (hle hax r1)
 have hrb:r<b:=Pt.of_lt_of.1 (hge hyb (Pt.lt_trans r2 w3))
 have haq:a<q:=Pt.of_lt_of.1 (hle hax (Pt.lt_trans w6 q1))
 have hqb:q<b:=Pt.of_lt_of.1 (hge hyb q2)
 obtain ⟨s1,s2⟩:=f1 r hlr hrv
 obtain ⟨s3,s4⟩:=f3 q hlq hqv
 have hlS':S.length≤10:=by rw [← tS,ptrim_length];exact l10
 obtain ⟨p1,p2⟩:=pv_lip10 (w:=b-a) hM hlS' hbS (q:=q) (r:=r) (by grind) (by grind) (by grind) (by grind) (by grind) (by grind)
 rw [← hK] at p1 p2
 obtain ⟨b1,b2⟩:=pv_bd10 hM u1 u3 q (by grind) (by grind)
 obtain ⟨b3,b4⟩:=pv_bd10 hM u2 u4 q (by grind) (by grind)
 rw [show k+6+3=k+9 by omega,← hBU] at b1 b2 b3 b4
 have hs:=hid q
 obtain ⟨w,hw⟩:∃ w,w=b-a:=⟨_,rfl⟩
 rw [← hw] at p1 p2 hcon
 have hw0:0<w:=by rw [hw];grind
 have m1:=rmul_bd (a:=pv U q) (b:=pv S q) (e:=BU) (k:=e+K*w) b1 b2 (by grind) (by grind)
 have m2:=rmul_bd (a:=pv V q) (b:=pv T q) (e:=BU) (k:=e) b3 b4 s3 s4
 have hKw:0≤BU*(K*w):=Rat.mul_nonneg (by grind) (Rat.mul_nonneg hK0 (by grind))
 have ec:BU*(e+K*w)=1 / 8+BU*(K*w):=by rw [Rat.mul_add,heB]
 have hcc:(1:Rat)≤(c:Rat)∨(c:Rat)≤-1:=by
  rcases Int.lt_or_lt_of_ne c0 with h1 | h1
  ·right
   have:((c:Int):Rat)≤((-1:Int):Rat):=Rat.intCast_le_intCast.2 (by omega)
   exact this
  ·left
   have:((1:Int):Rat)≤((c:Int):Rat):=Rat.intCast_le_intCast.2 (by omega)
   exact this
 have hcon2:2*(BU*(K*w))+w<1:=by
  have:(2*BU*K+1)*w<1:=by grind
  grind
 rcases hcc with h1 | h1<;>grind
structure Cop (G T:List Int) (y:Pt):Prop where
 t:ptrim T=T
 n:plen T≠0
 d:∃ W:List Int,∀ x,ev G x=ev T x*ev W x
 r:sgp T y=0
theorem cop_ex {P G:List Int} {y:Pt} (h0:plen P≠0) (hP:sgp P y≠0):∀ (n:Nat) (T:List Int),plen T≤n→Cop G T y→∃ T',Cop G T' y∧∀ p,Dvq p P→Dvq p T'→plen p≤1:=by
 intro n
 induction n with
 | zero=>intro T hn hT;exact absurd hT.n (by omega)
 | succ n ih =>
   intro S hn hS
   by_cases hc:∀ p,Dvq p P→Dvq p S→plen p≤1
   ·exact ⟨S,hS,hc⟩
   ·obtain ⟨p,hp⟩:=Classical.not_forall.1 hc
    obtain ⟨p2,hp⟩:=Classical.not_imp.1 hp
    obtain ⟨p1,hp⟩:=Classical.not_imp.1 hp
    have p0:plen p≠0:=by omega
    obtain ⟨c,q,hc0,e⟩:=p1
    have hk:=gp_ne p0
    have e2:∀ x,ev p x=(sg (plead p)*(pcont p:Int))*ev (pprim p) x:=fun x=>by
     rw [← ev_psc]
     exact ev_congr (fun k=>by rw [psc_get];exact gp_get p0 k) x
    obtain ⟨s,hs⟩:=gauss_div (l:=pprim p) (f:=S) (r:=psc (sg (plead p)*(pcont p:Int)) q) (gp_cont p0) hc0 (fun x=>by rw [e,e2,ev_psc];grind)
    obtain ⟨T,hT⟩:∃ T,T=ptrim s:=⟨_,rfl⟩
    have hST:∀ x,ev S x=ev (pprim p) x*ev T x:=fun x=>by rw [hT,ev_ptrim];exact hs x
    have T0:plen T≠0:=fun e0=>hS.n (by rw [plen_ev (r:=polymul (pprim p) T) fun x=>by rw [ev_mul,hST]];exact rmul_zero (.inr e0))
    have q0:plen (pprim p)≠0:=by rw [gp_plen];exact p0
    have hl:plen S=plen (pprim p)+plen T-1:=by
     rw [plen_ev (r:=polymul (pprim p) T) fun x=>by rw [ev_mul,hST]]
     exact (plen_mul (by omega) (by omega)).1
    rw [gp_plen] at hl
    obtain ⟨W,hW⟩:=hS.d
    have hm:mult y S=mult y (pprim p)+mult y T:=mult_ev_mul hST q0 T0 y
    have hpm:mult y p=mult y (pprim p):=mult_cmul hk e2 q0 y
    refine ih T (by omega) ⟨by rw [hT,ptrim_ptrim],T0,⟨polymul (pprim p) W,fun x=>by rw [hW,hST,ev_mul];grind⟩,?_⟩
    have h5:=dvq_mult p2 h0 y
    have h6:mult y P=0:=(mult_zero h0).2 hP
    have h7:mult y S≠0:=fun e=>(mult_zero hS.n).1 e hS.r
    refine Classical.byContradiction fun hn=>?_
    have h8:=(mult_zero T0).2 hn
    omega
theorem sep_two {P G:List Int} {k:Nat} (h:SqF P k) (hk:k≤50) (tG:ptrim G=G) (lG:plen G≤10) (bG:∀ j,(G.getD j 0).natAbs≤BB^k) {M a b:Rat} (hM:1≤M) (ha:-M≤a) (hb:b≤M) {x y:Pt} (hx:sgp P x=0) (gx:sgp G x≠0) (hy:sgp G y=0) (x1:¬ x<Pt.of a) (x2:¬ Pt.of b<x) (y1:¬ y<Pt.of a) (y2:¬ Pt.of b<y):1≤sepD k M*(b-a):=by
 by_cases c:sgp P y=0
 ·rcases Pt.tri x y with t | t | t
  ·exact sep h hk hM ha hb hx c t x1 y2
  ·rw [t] at gx;exact absurd hy gx
  ·exact sep h hk hM ha hb c hx t y1 x2
 ·have g0:plen G≠0:=fun e=>gx (sgp_zero e x)
  obtain ⟨T,hT,hc⟩:=cop_ex (G:=G) h.q0 c (plen G) G (Nat.le_refl _) ⟨tG,g0,⟨[1],fun x=>by rw [ev_const,Int.mul_one]⟩,hy⟩
  obtain ⟨W,hW⟩:=hT.d
  have hbT:∀ j,(T.getD j 0).natAbs≤BB^(k+6):=factor_le (by omega) g0 bG (g:=W) (fun x=>by rw [hW,Int.mul_comm])
  have hbP:∀ j,(P.getD j 0).natAbs≤BB^(k+6):=fun j=>Nat.le_trans (h.b j) (bbk_le (by omega))
  have hlT:plen T≤10:=Nat.le_trans (dvq_plen ⟨1,W,by decide,fun x=>by rw [Int.one_mul,hW,Int.mul_comm]⟩ g0) lG
  have two:∀ {S:List Int},plen S≠0→∀ {x:Pt},sgp S x=0→2≤plen S:=fun {S} h1 {x} hx=>by
   refine Classical.byContradiction fun hn=>?_
   have h2:=sgp_one (p:=S) (by omega) x
   rw [hx] at h2
   exact sg_ne (plead_ne h1) h2.symm
  have lP:=two h.q0 hx
  have lT:=two hT.n hT.r
  rcases Pt.tri x y with t | t | t
  ·exact sep2o h.t hT.t lP lT h.len hlT hbP hbT hk hc hM ha hb hx hT.r t x1 y2
  ·rw [t] at gx;exact absurd hy gx
  ·exact sep2o hT.t h.t lT lP hlT h.len hbT hbP hk (fun p p1 p2=>hc p p2 p1) hM ha hb hT.r hx t y1 x2
end Go.Proofs.YtbfddopopajgaabGreat
namespace Go.Proofs.YtbfddopopajgaabGreat
open Go Go.RowKit
structure S6 (f:List Int):Prop where
 len:f.length≤6
 t:ptrim f=f
 b:∀ j,(f.getD j 0).natAbs≤32768
section
variable {f:List Int}
theorem S6.p9 (h:S6 f):P9 f:=⟨by have:=plen_le f;have:=h.len;omega,fun j=>Nat.le_trans (h.b j) (Nat.le_trans (by rw [Nat.pow_one,BB_eq];decide) (bbk_le (show 1≤10 by decide)))⟩
theorem S6.pl (h:S6 f):plen f≤6:=by have:=plen_le f;have:=h.len;omega
theorem S6.q9 (h:S6 f):P9 (qpart f):=by
 by_cases h0:plen f=0
 ·rw [qpart_nil h0]
  exact ⟨by decide,fun j=>by simp⟩
 ·have hq:=q_facts h.p9.q h0
  refine ⟨by have:=hq.l;have:=h.pl;omega,fun j=>Nat.le_trans (hq.b 1 (fun j=>Nat.le_trans (pprim_abs f j) (Nat.le_trans (h.b j) (by rw [Nat.pow_one,BB_eq];decide))) j) (bbk_le (by decide))⟩
theorem S6.ql (h:S6 f):plen (qpart f)≤6:=by have:=h.p9.part_l;have:=h.pl;omega
theorem S6.qlen (h:S6 f):(qpart f).length≤6:=by rw [← h.p9.part_t,ptrim_length];exact h.ql
theorem S6.g6 (h:S6 f):G6 f:=⟨h.len,fun j=>Nat.le_trans (h.b j) (by rw [BB_eq];decide)⟩
end
theorem short_s6 {w:World} {A:Option Addr} {l c:Nat} {p:List Int} (h:I16At w A l c p) {n:Nat} (hn:n≤6):S6 (ptrim (p.take n)):=by
 have h1:=plen_le (p.take n)
 rw [List.length_take] at h1
 refine ⟨by rw [ptrim_length];omega,ptrim_ptrim _,fun j=>?_⟩
 rw [ptrim_getD]
 rcases Nat.lt_or_ge j (p.take n).length with hj | hj
 ·have hmem:(p.take n).getD j 0∈p:=by
   rw [List.getD_eq_getElem?_getD,List.getElem?_eq_getElem hj]
   exact List.mem_of_mem_take (List.getElem_mem _)
  have:=h.range _ hmem
  omega
 ·rw [getD_out _ hj];omega
theorem Vals.getv {w:World} {g o:Nat} {rs:List (Fq×Fq)} (h:Vals w g o rs) {k:Nat} (hk:k<rs.length) :
 ∃ n A l c B m d n' A' l' c' B' m' d',w.cell? ⟨g,o+k*6,none⟩=some (.bool n)∧w.cell? ⟨g,o+k*6+1,none⟩=some (.slice A l c)∧w.cell? ⟨g,o+k*6+2,none⟩=some (.slice B m d)∧w.cell? ⟨g,o+k*6+3,none⟩=some (.bool n')∧w.cell? ⟨g,o+k*6+4,none⟩=some (.slice A' l' c')∧w.cell? ⟨g,o+k*6+5,none⟩=some (.slice B' m' d') ∧
   IntN w n A l c (rs.getD k r00).1.z∧NatN w B m d (rs.getD k r00).1.q∧IntN w n' A' l' c' (rs.getD k r00).2.z∧NatN w B' m' d' (rs.getD k r00).2.q:=by
 have e:rs[k]?=some (rs.getD k r00):=by rw [List.getD_eq_getElem?_getD,List.getElem?_eq_getElem hk];rfl
 obtain ⟨vs,⟨n,A,l,c,B,m,d,n',A',l',c',B',m',d',hv,h1,h2,h3,h4⟩,hc⟩:=h k _ e
 subst hv
 exact ⟨n,A,l,c,B,m,d,n',A',l',c',B',m',d',hc 0 _ rfl,hc 1 _ rfl,hc 2 _ rfl,hc 3 _ rfl,hc 4 _ rfl,hc 5 _ rfl,h1,h2,h3,h4⟩
end Go.Proofs.YtbfddopopajgaabGreat
namespace Go.Proofs.YtbfddopopajgaabGreat
open Go.RowKit
section
variable {f g G Q:List Int} {x:Pt} {a b:Fq} {s r:Fq×Fq} {i:Nat}
def Free (G:List Int) (s:Fq×Fq):Prop:=∀ y,sgp G y=0→y<s.1.p∨s.2.p<y
theorem Free.congr (h:Free Q s) (e:∀ y,sgp G y=0↔sgp Q y=0):Free G s:=fun y hy=>h y ((e y).1 hy)
theorem IsoV.free_pt (h:IsoV f x s.1 s.2) (e:s.1.v=s.2.v) (gx:sgp G x≠0):Free G s:=fun y hy=>by
 have e2:s.1.p=s.2.p:=by unfold Fq.p;rw [e]
 have ex:x=s.1.p:=by
  rcases h.2 with h | h
  ·exact h.2
  ·grind
 rcases Pt.tri y s.1.p with c | c | c
 ·exact .inl c
 ·rw [c,← ex] at hy;exact absurd hy gx
 ·exact .inr (by rw [← e2];exact c)
theorem IsoV.free_sg (h:IsoV f x s.1 s.2) (hf:Free G s):sgp G s.1.p=sgp G x:=by
 rcases h.2 with h | ⟨_,_,_,l1,l2,_⟩
 ·rw [h.2]
 ·have na:sgp G s.1.p≠0:=fun c=>by
   rcases hf _ c with d | d
   ·exact Pt.irr _ d
   ·exact Pt.asym d (Pt.lt_trans l1 l2)
  have nx:sgp G x≠0:=fun c=>by
   rcases hf _ c with d | d
   ·exact Pt.asym d l1
   ·exact Pt.asym d l2
  exact sgp_stay l1 (fun z z1 z2 c=>by
   rcases hf _ c with d | d
   ·exact Pt.asym d z1
   ·exact Pt.asym d (Pt.lt_trans z2 l2)) na nx
structure ASt (f:List Int) (x:Pt) (i:Nat) (s:Fq×Fq):Prop where
 iso:IsoV f x s.1 s.2
 d:DyW (cbn (qpart f)) (2*((cbn (qpart f):Nat):Rat)) i s
theorem ASt.half (h9:P9 f) (h0:plen f≠0) (h:ASt f x i s):ASt f x (i+1) (hlf (qpart f) s)∧Half s (hlf (qpart f) s):=by
 have hq:=q_facts h9.q h0
 have hs:=hlf_spec hq.q0 hq.simple (fun y=>(hq.root y).symm) h.d.d.1.p h.d.d.2.p h.iso
 exact ⟨⟨hs.1,hlf_dw h.d⟩,hs.2⟩
theorem ASt.fqb (h9:P9 f) (h0:plen f≠0) (h:ASt f x i s) (hi:i≤NN+1):FqB s.1∧FqB s.2∧FqB (s.1.mid s.2):=by
 have h1:i≤NN+2500:=Nat.le_trans hi (Nat.add_le_add_left (by decide) NN)
 have h2:i+1≤NN+2500:=Nat.le_trans (Nat.succ_le_succ hi) (Nat.add_le_add_left (show 2≤2500 by decide) NN)
 have:=h.d.d.fqb h1 (nn_zb2 (SqF.of9 h9 h0))
 exact ⟨this.1,this.2.1,this.2.2 h2⟩
theorem proots_ast {xs:List Pt} {k:Nat} (hx:RF f xs (proots f)) (hk:k<xs.length):∃ i,i≤NN+1∧ASt f (xs.getD k default) i ((proots f).getD k r00):=by
 obtain ⟨i,i1,i2⟩:=proots_dw f _ (getD_mem (by rw [hx.len];exact hk) r00)
 exact ⟨i,i1,hx.iso k hk,i2⟩
theorem Dy.abs_v {K:Nat} (h:Dy K i a):-((K:Nat):Rat)≤a.v∧a.v≤((K:Nat):Rat):=by
 obtain ⟨h1,h2⟩:=int_abs_rat h.z
 have hq:(0:Rat)<((a.q:Nat):Rat):=by exact_mod_cast h.p
 rw [Rat.natCast_mul] at h1 h2
 have hv:a.v*((a.q:Nat):Rat)=(a.z:Rat):=by
  unfold Fq.v
  rw [Rat.div_mul_cancel (by grind)]
 constructor
 ·refine Rat.not_lt.1 fun c=>?_
  have:=Rat.mul_lt_mul_of_pos_right c hq
  grind
 ·refine Rat.not_lt.1 fun c=>?_
  have:=Rat.mul_lt_mul_of_pos_right c hq
  grind
theorem ASt.more (h9:P9 f) (h0:plen f≠0) (h:ASt f x i s) (tG:ptrim G=G) (lG:plen G≤10) (bG:∀ j,(G.getD j 0).natAbs≤BB^16) (gx:sgp G x≠0) (hne:s.1.v≠s.2.v) (hf:¬ Free G s):i<NN:=by
 obtain ⟨y,hy⟩:=Classical.not_forall.1 hf
 obtain ⟨hy,hn⟩:=Classical.not_imp.1 hy
 have hs:=SqF.of9 h9 h0
 have hq:=q_facts h9.q h0
 have hc1:(1:Rat)≤((cbn (qpart f):Nat):Rat):=by exact_mod_cast cbn_pos _
 have h1:=sep_two hs (by decide) tG lG bG hc1 (h.d.d.1.abs_v).1 (h.d.d.2.abs_v).2 (x:=x) (y:=y) ((hq.root x).2 h.iso.1) gx hy h.iso.lo h.iso.hi (fun c=>hn (.inl c)) (fun c=>hn (.inr c))
 refine Nat.lt_of_not_le fun hc=>?_
 have hw:=h.d.w.resolve_left hne
 have h2:=nn_sep hs
 have hp:(2:Rat)^NN≤2^i:=pow_up (by grind) hc
 have hp1:(1:Rat)≤2^i:=pow_one_le (by grind) i
 generalize sepD 16 ((cbn (qpart f):Nat):Rat)=D at *
 generalize ((cbn (qpart f):Nat):Rat)=K at *
 generalize (2:Rat)^i=P at *
 generalize (2:Rat)^NN=N at *
 generalize s.2.v-s.1.v=w at *
 have h5:=Rat.mul_le_mul_of_nonneg_right h1 (show 0≤P by grind)
 have h6:D*w*P=D*(2*K):=by rw [Rat.mul_assoc,hw]
 have h7:D*(K - -K)=D*(2*K):=by grind
 grind
theorem ppos_abs (p:List Int) (j:Nat):((ppos p).getD j 0).natAbs=(p.getD j 0).natAbs:=by
 unfold ppos
 split
 ·rw [pmn_getD,ptrim_getD,Int.natAbs_neg]
 ·rw [ptrim_getD]
end
end Go.Proofs.YtbfddopopajgaabGreat
namespace Go.Proofs.YtbfddopopajgaabGreat
open Go.RowKit
theorem g6_cp {g:List Int} (h:G6 g):CP g:=⟨by have:=h.plen;omega,fun j=>Nat.le_trans (h.b j) (by have:=bbk_le (show 1≤32 by decide);rw [Nat.pow_one] at this;exact this)⟩
structure ZaG (f g:List Int) (x:Pt):Prop where
 fit:FitP g
 len:g.length≤16
 at_:∀ a:Fq,FqB a→PoOK a.z a.q g
 ga:GAny (qpart f) g
 g9:P9 (gres (qpart f) g)
 gl:(gres (qpart f) g).length≤6
 zc:∀ a b:Fq,0<a.q→0<b.q→IsoV f x a b→a.v<b.v→(0<ncount (gres (qpart f) g) a.z a.q b.z b.q↔sgp g x=0)
structure AwO (f g:List Int) (x:Pt):Prop where
 q:QOK g
 t:ptrim (qpart g)=qpart g
 q0:plen (qpart g)≠0
 gr:∀ y,sgp g y=0↔sgp (qpart g) y=0
 ol:(qpart g).length≤11
 fO:FitP (qpart g)
 fD:FitP (pder (qpart g))
 k1:chOK 12 (pred (qpart g)) (pred (pder (qpart g)))
 k3:(chn 12 (pred (qpart g)) (pred (pder (qpart g)))).length≤12
 k4:(pchain 12 (qpart g) (pder (qpart g))).length≤13
 at_:∀ a:Fq,FqB a→PoOK a.z a.q (qpart g)
 el:∀ a:Fq,FqB a→∀ p∈pchain 12 (qpart g) (pder (qpart g)),PoOK a.z a.q p
 free:∀ s:Fq×Fq,0<s.1.q→0<s.2.q→s.1.v<s.2.v→sgp (qpart g) s.1.p≠0→sgp (qpart g) s.2.p≠0→((s.1.chg (pchain 12 (qpart g) (pder (qpart g))):Int)=(s.2.chg (pchain 12 (qpart g) (pder (qpart g))):Int)↔Free (qpart g) s)
 more:∀ i s,ASt f x i s→s.1.v≠s.2.v→¬ Free (qpart g) s→i<NN
section
variable {f g:List Int} {x:Pt}
theorem chg_free2 {Q:List Int} {s:Fq×Fq} (q0:plen Q≠0) (hs:∀ x,mult x Q≤1) (hok:chOK 12 (pred Q) (pred (pder Q))) (ha:0<s.1.q) (hb:0<s.2.q) (hab:s.1.v<s.2.v) (na:sgp Q s.1.p≠0) (nb:sgp Q s.2.p≠0):(s.1.chg (pchain 12 Q (pder Q)):Int)=(s.2.chg (pchain 12 Q (pder Q)):Int)↔Free Q s:=by
 obtain ⟨xs,hx⟩:=roots_lst q0 (fun x=>s.1.p<x∧(x<s.2.p∨x=s.2.p))
 have hc:=half_count q0 hs hok (Pt.of_le hab) hx
 have e1:(s.1.chg (pchain 12 Q (pder Q)):Int)=chv (pchain 12 Q (pder Q)) s.1.p:=vat_eq ha _
 have e2:(s.2.chg (pchain 12 Q (pder Q)):Int)=chv (pchain 12 Q (pder Q)) s.2.p:=vat_eq hb _
 rw [e1,e2]
 have hc':chv (pchain 12 Q (pder Q)) s.1.p-chv (pchain 12 Q (pder Q)) s.2.p=xs.length:=hc
 constructor
 ·intro e y hy
  have hl:xs.length=0:=by omega
  have hn:=List.eq_nil_of_length_eq_zero hl
  rcases Pt.tri y s.1.p with c | c | c
  ·exact .inl c
  ·rw [c] at hy;exact absurd hy na
  ·rcases Pt.tri y s.2.p with d | d | d
   ·have:=(hx.2 y).2 ⟨hy,c,.inl d⟩
    rw [hn] at this;cases this
   ·rw [d] at hy;exact absurd hy nb
   ·exact .inr d
 ·intro hf
  have hn:xs.length=0:=by
   match xs,hx with
   | [],_=>rfl
   | y :: ys,hx =>
     obtain ⟨h1,h2,h3⟩:=(hx.2 y).1 (List.mem_cons_self ..)
     rcases hf y h1 with c | c
     ·exact absurd c (Pt.asym h2)
     ·rcases h3 with h3 | h3
      ·exact absurd c (Pt.asym h3)
      ·rw [h3] at c;exact absurd c (Pt.irr _)
  omega
end
end Go.Proofs.YtbfddopopajgaabGreat
namespace Go.Proofs.YtbfddopopajgaabGreat
open Go Go.RowKit
def RootE (r:Fq×Fq) (e:Ending) (w:World):Prop :=
 ∃ n A l c B m d n' A' l' c' B' m' d',e=.returned (.agg #[.bool n,.slice A l c,.slice B m d,.bool n',.slice A' l' c',.slice B' m' d'])∧IntN w n A l c r.1.z∧NatN w B m d r.1.q∧IntN w n' A' l' c' r.2.z∧NatN w B' m' d' r.2.q
def pu6 (w:World) (g:Nat) (v0 v1 v2 v3 v4 v5:Value):World:=(((((w.setCell ⟨g,0,none⟩ v0).setCell ⟨g,1,none⟩ v1).setCell ⟨g,2,none⟩ v2).setCell ⟨g,3,none⟩ v3).setCell ⟨g,4,none⟩ v4).setCell ⟨g,5,none⟩ v5
theorem pu6_frs (w:World) (g:Nat) (v0 v1 v2 v3 v4 v5:Value):FrS g g w (pu6 w g v0 v1 v2 v3 v4 v5):=frs_set (frs_set (frs_set (frs_set (frs_set (frs_set (FrS.refl g g w) 0 v0) 1 v1) 2 v2) 3 v3) 4 v4) 5 v5
abbrev rtObj:Obj:=.cells #[.bool false,.slice none 0 0,.slice none 0 0,.bool false,.slice none 0 0,.slice none 0 0] 34
abbrev rz6:Array Value:=#[.bool false,.slice none 0 0,.slice none 0 0,.bool false,.slice none 0 0,.slice none 0 0]
theorem rz6_ndb {w:World} {g t:Nat} (h:Blk w g t rz6):NdB w g:=blk_ndb h fun j v hv=>by
 match j,hv with
 | 0,hv=>simp at hv;subst hv;exact noDigit_bool _
 | 1,hv=>simp at hv;subst hv;exact noDigit_slice _ _ _
 | 2,hv=>simp at hv;subst hv;exact noDigit_slice _ _ _
 | 3,hv=>simp at hv;subst hv;exact noDigit_bool _
 | 4,hv=>simp at hv;subst hv;exact noDigit_slice _ _ _
 | 5,hv=>simp at hv;subst hv;exact noDigit_slice _ _ _
 | j+6,hv=>simp at hv
section
variable {I:IntPred} {w w9:World} {g t:Nat} {a b:Fq} {r:Fq×Fq} {n:Bool} {A:Option Addr} {l c:Nat} {B:Option Addr} {m d:Nat} {n':Bool} {A':Option Addr} {l' c':Nat} {B':Option Addr} {m' d':Nat}
theorem root_fin (hw:Below w.heap.size w w9) (hk:Blk w9 g t rz6) (hg:w.heap.size≤g) (hz:IntN w9 n A l c r.1.z) (hq:NatN w9 B m d r.1.q) (hz':IntN w9 n' A' l' c' r.2.z) (hq':NatN w9 B' m' d' r.2.q) :
 RootE r (.returned (.agg #[.bool n,.slice A l c,.slice B m d,.bool n',.slice A' l' c',.slice B' m' d'])) (pu6 w9 g (.bool n) (.slice A l c) (.slice B m d) (.bool n') (.slice A' l' c') (.slice B' m' d'))∧Below w.heap.size w (pu6 w9 g (.bool n) (.slice A l c) (.slice B m d) (.bool n') (.slice A' l' c') (.slice B' m' d')):=by
 have hf:=pu6_frs w9 g (.bool n) (.slice A l c) (.slice B m d) (.bool n') (.slice A' l' c') (.slice B' m' d')
 have nd:=rz6_ndb hk
 exact ⟨⟨n,A,l,c,B,m,d,n',A',l',c',B',m',d',rfl,hz.frs hf nd nd,hq.frs hf nd nd,hz'.frs hf nd nd,hq'.frs hf nd nd⟩,hf.mono hw hg hg hw.size⟩
theorem isexact_any (hz:IntN w n A l c r.1.z) (hq:NatN w B m d r.1.q) (hz':IntN w n' A' l' c' r.2.z) (hq':NatN w B' m' d' r.2.q) (ha:FqB r.1) (hb:FqB r.2) :
 Calls Tryz.prog 72 #[.agg #[.bool n,.slice A l c,.slice B m d,.bool n',.slice A' l' c',.slice B' m' d']] w fun e w'=>e=.returned (.bool (fcmp r.1 r.2 == 0))∧Below w.heap.size w w':=by
 have o1:=below_new w (tbox n A l c B m d n' A' l' c' B' m' d')
 have T:=Lib.hid (TBox.make hz hq hz' hq')
 have Hb:=Lib.hid o1
 have p1:=ha.p
 have p2:=hb.p
 clear hz hq hz' hq' o1
 go_enter Tryz.func72,Tryz.ntmps72
 have x0:=T.out.r.c0;have x1:=T.out.r.c1;have x2:=T.out.r.c2;have x3:=T.out.c3;have x4:=T.out.c4;have x5:=T.out.c5
 go_wp2_with fail
 refine (rcmp_any _ _ _ _ _ _ _ _ _ _ _ _ _ _ _ _ _ _ _ T.out.r.hz.at_ T.out.r.hq.at_ T.out.hz.at_ T.out.hq.at_ (by omega) (by omega) ha.fz ha.fq hb.fz hb.fq).mono ?_
 rintro e w3 ⟨rfl,hb3⟩
 replace Hb:=Lib.hid (Hb.out.trans (hb3.mono Hb.out.size))
 obtain ⟨C,hC⟩:∃ C,C=fcmp r.1 r.2:=⟨_,rfl⟩
 rw [show cmpz (r.1.z*(r.2.q:Int)) (r.2.z*(r.1.q:Int))=C from hC.symm]
 have HC:=Lib.hid hC
 clear hb3 hC T
 clear x0 x1 x2 x3 x4 x5
 go_wp2
 go_ret
 exact ⟨by first | (rw [HC.out];done) | (rw [HC.out];rfl),Hb.out⟩
set_option maxRecDepth 100000 in
set_option maxHeartbeats 4000000 in
theorem exact_rt (hz:IntN w n A l c a.z) (hq:NatN w B m d a.q) (ha:FqB a) :
 Calls Tryz.prog 109 #[.agg #[.bool n,.slice A l c,.slice B m d]] w fun e w'=>RootE (a.nf,a.nf) e w'∧Below w.heap.size w w':=by
 have o1:=below_new w (rbox n A l c B m d)
 have o2:=below_new (w.alloc (rbox n A l c B m d)) rtObj
 have b2:Below w.heap.size w ((w.alloc (rbox n A l c B m d)).alloc rtObj):=o1.alloc (by simp) _
 have R1:=(RBox.make hz hq).move o2
 have K3:Blk ((w.alloc (rbox n A l c B m d)).alloc rtObj) (w.alloc (rbox n A l c B m d)).heap.size 34 rz6:=Blk.new _ _ _
 simp only [World.size_alloc] at K3
 have a0:=R1.c0
 have a1:=R1.c1
 have a2:=R1.c2
 replace R1:=Lib.hid R1
 have K4:=Lib.hid K3
 have Hb:=Lib.hid b2
 have hl3:=K3.lt
 obtain ⟨wb,hwb⟩:∃ wb,wb=(w.alloc (rbox n A l c B m d)).alloc rtObj:=⟨_,rfl⟩
 clear o1 o2 b2 hz hq K3
 go_enter Tryz.func109,Tryz.ntmps109
 go_wp2_with fail
 rw [← hwb] at R1 K4 Hb a0 a1 a2 hl3 ⊢
 clear hwb
 obtain ⟨g1,hg1⟩:∃ g,g=w.heap.size:=⟨_,rfl⟩
 obtain ⟨g3,hg3⟩:∃ g,g=w.heap.size+1:=⟨_,rfl⟩
 rw [← hg1] at R1 a0 a1 a2
 rw [← hg3] at K4 hl3
 rw [← hg3,← hg1]
 have l1:g1<wb.heap.size:=by omega
 have Hg:=Lib.hid (show w.heap.size≤g3 by omega)
 clear hg1 hg3
 refine wp_region_lastT (S:=fun w'=>w'.cell? ⟨g1,0,none⟩=some (.bool n)∧w'.cell? ⟨g1,1,none⟩=some (.slice A l c)∧w'.cell? ⟨g1,2,none⟩=some (.slice B m d)) (by kernel_rfl) (by kernel_rfl) (by (try dsimp only);go_keep) (fun hHeld=>?_)
 simp only [List.pop_toArray,List.dropLast]
 (refine tk (i:=0) (v:=?_) rfl rfl (Or.inl ⟨by rfl,?_⟩) ?_;rotate_left;(focus (intro w hSw;(try dsimp only at hSw);go_simp;(try with_reducible rfl)));(simp only [put_lit,List.set]))
 (refine tk (i:=2) (v:=?_) rfl rfl (Or.inl ⟨by rfl,?_⟩) ?_;rotate_left;(focus (intro w hSw;(try dsimp only at hSw);go_simp;(try with_reducible rfl)));(simp only [put_lit,List.set]))
 refine wpAnyH_ready (rs:=[1]) (by kernel_rfl) (by simp) ?_
 refine AllReadyH.cons rfl (fun K hK=>?_) AllReadyH.nil;go_simp
 refine (rnormal_any _ _ _ _ _ _ _ _ _ _ (R1.out.hz.below Bel.go) (R1.out.hq.below Bel.go) ha.fz ha.fq ha.p).mono ?_
 rintro e w7 ⟨⟨n7,A7,l7,c7,B7,m7,d7,rfl,h7,k7⟩,hb7⟩
 obtain ⟨hcx,hfx⟩:=bcellS hb7
 have hbz:Below wb.heap.size wb w7:=(Below.trans Bel.go (hb7.mono (by simp<;>omega)))
 replace R1:=Lib.hid (R1.out.move hbz)
 replace K4:=Lib.hid (K4.out.below hbz K4.out.lt)
 replace Hb:=Lib.hid (Hb.out.trans (hbz.mono Hb.out.size))
 refine hK.out _ _ ?_ (fun _=>?_)
 ·((try dsimp only);repeat' apply And.intro)<;>(rw [hcx _ (by go_simp)];go_simp)
 clear hHeld hK K hcx hfx;rename_i hHeld
 have hs7:=hbz.size
 have H7:=Lib.hid (And.intro h7 k7)
 clear h7 k7 hb7 hbz
 refine wpAnyH_ready (rs:=[3]) (by kernel_rfl) (by simp) ?_
 refine AllReadyH.cons rfl (fun K hK=>?_) AllReadyH.nil;go_simp
 refine (rnormal_any _ _ _ _ _ _ _ _ _ _ (R1.out.hz.below Bel.go) (R1.out.hq.below Bel.go) ha.fz ha.fq ha.p).mono ?_
 rintro e w9 ⟨⟨n9,A9,l9,c9,B9,m9,d9,rfl,h9,k9⟩,hb9⟩
 obtain ⟨hcx,hfx⟩:=bcellS hb9
 have hbz:Below w7.heap.size w7 w9:=(Below.trans Bel.go (hb9.mono (by simp<;>omega)))
 replace K4:=Lib.hid (K4.out.below hbz K4.out.lt)
 replace Hb:=Lib.hid (Hb.out.trans (hbz.mono Hb.out.size))
 replace H7:=Lib.hid (And.intro (H7.out.1.below hbz) (H7.out.2.below hbz))
 refine hK.out _ _ ?_ (fun _=>?_)
 ·((try dsimp only);repeat' apply And.intro)<;>(rw [hcx _ (by go_simp)];go_simp)
 clear hHeld hK K hcx hfx;rename_i hHeld
 have H9:=Lib.hid (And.intro h9 k9)
 clear h9 k9 hb9 hbz R1
 (refine tk (i:=4) (v:=?_) rfl rfl (Or.inl ⟨by rfl,?_⟩) ?_;rotate_left;(focus (intro w hSw;(try dsimp only at hSw);go_simp;(try with_reducible rfl)));(simp only [put_lit,List.set]))
 refine wpAnyH_done (by kernel_rfl) (lastQ_list rfl ?_) _
 clear hHeld a0 a1 a2
 have FX:=Lib.hid (root_fin (r:=(a.nf,a.nf)) Hb.out K4.out Hg.out H7.out.1 H7.out.2 H9.out.1 H9.out.2);have r0:=(K4.out.cell 0).trans rfl;have r1:=(K4.out.cell 1).trans rfl;have r2:=(K4.out.cell 2).trans rfl;have r3:=(K4.out.cell 3).trans rfl;have r4:=(K4.out.cell 4).trans rfl;have r5:=(K4.out.cell 5).trans rfl;have s0:=K4.out.frozen 0;have s1:=K4.out.frozen 1;have s2:=K4.out.frozen 2;have s3:=K4.out.frozen 3;have s4:=K4.out.frozen 4;have s5:=K4.out.frozen 5;clear K4 Hb;go_wp2;(try clear T);refine bodyPost_ret (v:=.agg #[.bool n7,.slice A7 l7 c7,.slice B7 m7 d7,.bool n9,.slice A9 l9 c9,.slice B9 m9 d9]) (by simp [results,Tryz.results109,go_sem,r0,r1,r2,r3,r4,r5]) rfl FX.out
end
end Go.Proofs.YtbfddopopajgaabGreat
namespace Go.Proofs.YtbfddopopajgaabGreat
open Go Go.RowKit
set_option maxRecDepth 100000 in
set_option maxHeartbeats 4000000 in
theorem zeroat_g {w:World} {Ap:Option Addr} {lp cp:Nat} {f:List Int} {Ag:Option Addr} {lg cg:Nat} {g:List Int} {x:Pt} {r:Fq×Fq} {n:Bool} {A:Option Addr} {l c:Nat} {B:Option Addr} {m d:Nat} {n':Bool} {A':Option Addr} {l' c':Nat} {B':Option Addr} {m' d':Nat}
 (hp:PolyN w Ap lp cp (qpart f)) (s6:S6 f) (hg:PolyN w Ag lg cg g) (zg:ZaG f g x) (hz:IntN w n A l c r.1.z) (hq:NatN w B m d r.1.q) (hz':IntN w n' A' l' c' r.2.z) (hq':NatN w B' m' d' r.2.q) (ha:FqB r.1) (hb:FqB r.2) (hi:IsoV f x r.1 r.2) :
 Calls Tryz.prog 56 #[.slice Ap lp cp,.agg #[.bool n,.slice A l c,.slice B m d,.bool n',.slice A' l' c',.slice B' m' d'],.slice Ag lg cg] w fun e w'=>e=.returned (.bool (decide (sgp g x=0)))∧Below w.heap.size w w':=by
 have o1:=below_new w (tbox n A l c B m d n' A' l' c' B' m' d')
 have T:=Lib.hid (TBox.make hz hq hz' hq')
 have HP:=Lib.hid (hp.below ikN o1)
 have HG:=Lib.hid (hg.below ikN o1)
 have Hb:=Lib.hid o1
 have hlg:lg≤16:=by have:=hg.length;have:=zg.len;omega
 have hlp:lp≤6:=by have:=hp.length;have:=s6.qlen;omega
 have p1:=ha.p
 have p2:=hb.p
 have pg:=zg.at_ r.1 ha
 have hd:=zg.ga
 have hd9:=zg.g9
 have hdt:=zg.gl
 have gfit:=zg.fit
 have hle:=hi.le
 have ez:r.1.v=r.2.v→(r.1.sgn g=0↔sgp g x=0):=fun e=>by
  rw [sgn_pt ha.p]
  rcases hi.2 with h | h
  ·rw [h.2]
  ·grind
 have en:r.1.v≠r.2.v→(0<ncount (gres (qpart f) g) r.1.z r.1.q r.2.z r.2.q↔sgp g x=0):=fun e=>zg.zc r.1 r.2 ha.p hb.p hi (by grind)
 have fz:=fcmp_zero ha.p hb.p
 have fitQ:FitP (qpart f):=s6.q9.cp.fit
 obtain ⟨Q,hQ⟩:∃ Q,Q=qpart f:=⟨_,rfl⟩
 rw [← hQ] at hd hd9 hdt en HP fitQ
 obtain ⟨V,hV⟩:∃ V,V=decide (sgp g x=0):=⟨_,rfl⟩
 rw [← hV]
 have HV:=Lib.hid hV
 have EZ:=Lib.hid ez
 have EN:=Lib.hid en
 have FZ:=Lib.hid fz
 have HD:=Lib.hid hd
 have HD9:=Lib.hid hd9
 clear hz hq hz' hq' o1 hp hg hV ez en fz hd hd9 hle hQ hi zg
 obtain ⟨wb,hwb⟩:∃ wb,wb=w.alloc (tbox n A l c B m d n' A' l' c' B' m' d'):=⟨_,rfl⟩
 obtain ⟨g1,hg1⟩:∃ g,g=w.heap.size:=⟨_,rfl⟩
 go_enter Tryz.func56,Tryz.ntmps56
 have x0:=T.out.r.c0;have x1:=T.out.r.c1;have x2:=T.out.r.c2;have x3:=T.out.c3;have x4:=T.out.c4;have x5:=T.out.c5
 go_wp2_with fail
 rw [← hwb,← hg1] at T x0 x1 x2 x3 x4 x5
 rw [← hwb] at HP HG Hb ⊢
 rw [← hg1]
 clear hwb hg1
 refine (isexact_any (r:=r) T.out.r.hz T.out.r.hq T.out.hz T.out.hq ha hb).mono ?_
 rintro e w1 ⟨rfl,hb1⟩
 replace T:=Lib.hid (T.out.move hb1)
 replace HP:=Lib.hid (HP.out.below ikN hb1)
 replace HG:=Lib.hid (HG.out.below ikN hb1)
 replace Hb:=Lib.hid (Hb.out.trans (hb1.mono Hb.out.size))
 clear hb1 x0 x1 x2 x3 x4 x5
 have x0:=T.out.r.c0;have x1:=T.out.r.c1;have x2:=T.out.r.c2;have x3:=T.out.c3;have x4:=T.out.c4;have x5:=T.out.c5
 have l1:=T.out.r.lt
 by_cases c0:fcmp r.1 r.2=0
 ·have b1:(fcmp r.1 r.2 == 0)=true:=by rw [c0];rfl
  obtain ⟨S,hS⟩:∃ S,S=r.1.sgn g:=⟨_,rfl⟩
  have EV:=Lib.hid (show V=(S == 0) by
   have h1:=EZ.out (FZ.out.1 c0)
   rw [← hS] at h1
   rw [HV.out]
   by_cases c:S=0
   ·rw [decide_eq_true (h1.1 c),c];rfl
   ·rw [decide_eq_false fun e=>c (h1.2 e)];exact (beq_eq_false_iff_ne.2 c).symm)
  have HS:=Lib.hid hS
  clear c0 hS
  go_wp2_with fail
  refine (signat_any ikN _ _ _ g _ _ _ _ _ _ _ _ _ _ HG.out pg.fit (by omega) T.out.r.hz T.out.r.hq ha.at.u ha.at.v ha.at.pos pg.ok ha.at.fz ha.at.fq).mono ?_
  rintro e w4 ⟨he,hb4⟩
  have he2:e=.returned (.int .i64 S):=by rw [HS.out];exact he
  subst he2
  replace Hb:=Lib.hid (Hb.out.trans (hb4.mono Hb.out.size))
  clear he hb4 T HP HG x0 x1 x2 x3 x4 x5
  go_wp2
  go_ret
  exact ⟨by first | (rw [EV.out];done) | (rw [EV.out];rfl),Hb.out⟩
 ·have b1:(fcmp r.1 r.2 == 0)=false:=by rw [beq_eq_false_iff_ne];exact c0
  obtain ⟨U,hU⟩:∃ U,U=ncount (gres Q g) r.1.z r.1.q r.2.z r.2.q:=⟨_,rfl⟩
  have EV:=Lib.hid (show V=decide (0<U) by
   have h1:=EN.out (fun e=>c0 (FZ.out.2 e))
   rw [← hU] at h1
   rw [HV.out]
   exact decide_eq_decide.2 h1.symm)
  have HU:=Lib.hid hU
  clear c0 hU
  obtain ⟨wk,hwk⟩:∃ wk,wk=w1:=⟨_,rfl⟩
  rw [← hwk] at T HP HG Hb x0 x1 x2 x3 x4 x5 l1 ⊢
  clear hwk
  go_wp2_with fail
  refine wp_region_held_drew (S:=(fun w'=>w'.cell? ⟨g1,0,none⟩=some (.bool n)∧w'.cell? ⟨g1,1,none⟩=some (.slice A l c)∧w'.cell? ⟨g1,2,none⟩=some (.slice B m d)∧w'.cell? ⟨g1,3,none⟩=some (.bool n')∧w'.cell? ⟨g1,4,none⟩=some (.slice A' l' c')∧w'.cell? ⟨g1,5,none⟩=some (.slice B' m' d'))) (by kernel_rfl) (by (try dsimp only);go_keep) (fun hHeld=>?_)
  (refine tk (i:=0) (v:=?_) rfl rfl (Or.inl ⟨by rfl,?_⟩) ?_;rotate_left;(focus (intro w hSw;(try dsimp only at hSw);go_simp;(try with_reducible rfl)));(simp only [put_lit,List.set]))
  (refine tk (i:=1) (v:=?_) rfl rfl (Or.inl ⟨by rfl,?_⟩) ?_;rotate_left;(focus (intro w hSw;(try dsimp only at hSw);go_simp;(try with_reducible rfl)));(simp only [put_lit,List.set]))
  (refine tk (i:=3) (v:=?_) rfl rfl (Or.inl ⟨by rfl,?_⟩) ?_;rotate_left;(focus (intro w hSw;(try dsimp only at hSw);go_simp;(try with_reducible rfl)));(simp only [put_lit,List.set]))
  (refine tk (i:=4) (v:=?_) rfl rfl (Or.inl ⟨by rfl,?_⟩) ?_;rotate_left;(focus (intro w hSw;(try dsimp only at hSw);go_simp;(try with_reducible rfl)));(simp only [put_lit,List.set]))
  (refine tk (i:=5) (v:=?_) rfl rfl (Or.inl ⟨by rfl,?_⟩) ?_;rotate_left;(focus (intro w hSw;(try dsimp only at hSw);go_simp;(try with_reducible rfl)));(simp only [put_lit,List.set]))
  (refine tk (i:=6) (v:=?_) rfl rfl (Or.inl ⟨by rfl,?_⟩) ?_;rotate_left;(focus (intro w hSw;(try dsimp only at hSw);go_simp;(try with_reducible rfl)));(simp only [put_lit,List.set]))
  (refine wpAnyH_ready (rs:=[2]) (by kernel_rfl) (by simp) ?_;refine AllReadyH.cons rfl (fun K hK=>?_) AllReadyH.nil;go_simp)
  refine (gcd_any ikN ikN _ _ _ Q _ _ _ g _ (HP.out.below ikN Bel.go) (HG.out.below ikN Bel.go) fitQ.smp gfit.smp (by omega) (by omega) HD.out).mono ?_
  rintro e w4 ⟨A4,l4,c4,rfl,h4,hb4⟩
  have G4:=Lib.hid ((Below.trans Bel.go (hb4.mono (by simp<;>omega))):Below wk.heap.size wk w4)
  have hl4:l4≤6:=by have:=h4.length;omega
  have H4:=Lib.hid h4
  clear h4
  obtain ⟨hcx,hfx⟩:=bcellS hb4;refine hK.out _ _ ?_ (fun _=>?_);(focus (((try dsimp only);repeat' apply And.intro)<;>(rw [hcx _ (by go_simp)];go_simp)));clear hHeld hK K hcx hfx;rename_i hHeld;clear hb4
  (refine wpAnyH_ready (rs:=[7]) (by kernel_rfl) (by simp) ?_;refine AllReadyH.cons rfl (fun K hK=>?_) AllReadyH.nil;go_simp)
  have T4:=T.out.move G4.out
  refine (count_q ikN _ _ _ (gres Q g) _ _ _ _ _ _ _ r.1.q r.1.z _ _ _ _ _ _ _ r.2.q r.2.z _ (H4.out.below ikN Bel.go) (by omega) HD9.out (T4.r.hz.below Bel.go) (T4.r.hq.below Bel.go) (T4.hz.below Bel.go) (T4.hq.below Bel.go) ha.at hb.at ha.z ha.q hb.z hb.q).mono ?_
  rintro e w5 ⟨he,hb5⟩
  have he2:e=.returned (.int .i64 U):=by rw [HU.out];exact he
  subst he2
  have G5:=Lib.hid (G4.out.trans (((Below.trans Bel.go (hb5.mono (by simp<;>omega))):Below w4.heap.size w4 w5).mono G4.out.size))
  clear he T4
  obtain ⟨hcx,hfx⟩:=bcellS hb5;refine hK.out _ _ ?_ (fun _=>?_);(focus (((try dsimp only);repeat' apply And.intro)<;>(rw [hcx _ (by go_simp)];go_simp)));clear hHeld hK K hcx hfx;rename_i hHeld;clear hb5
  (refine tk (i:=8) (v:=?_) rfl rfl (Or.inl ⟨by rfl,?_⟩) ?_;rotate_left;(focus (intro w hSw;(try dsimp only at hSw);go_simp;(try with_reducible rfl)));(simp only [put_lit,List.set]))
  (refine tk (i:=9) (v:=?_) rfl rfl (Or.inl ⟨by rfl,?_⟩) ?_;rotate_left;(focus (intro w hSw;(try dsimp only at hSw);go_simp;(try with_reducible rfl)));(simp only [put_lit,List.set]))
  refine wpAnyH_done (by kernel_rfl) ?_ _
  replace Hb:=Lib.hid (Hb.out.trans (G5.out.mono Hb.out.size))
  clear hHeld x0 x1 x2 x3 x4 x5 T HP HG G4 G5 H4
  go_wp2
  go_ret
  exact ⟨by first | (rw [EV.out];done) | (rw [EV.out];rfl),Hb.out⟩
end Go.Proofs.YtbfddopopajgaabGreat
namespace Go.Proofs.YtbfddopopajgaabGreat
open Go Go.RowKit
noncomputable def sgA (Q:List Int) (r:Fq×Fq) (g:List Int):Int:=if fcmp r.1 r.2=0 then r.1.sgn g else nquery Q g r.1.z r.1.q r.2.z r.2.q
theorem sgA_eq {f Q g:List Int} {r:Fq×Fq} {x:Pt} (h:P9 Q) (l6:plen Q≤6) (hg:G6 g) (h0:plen Q≠0) (e:∀ y,sgp f y=0↔sgp Q y=0) (ha:FqB r.1) (hb:FqB r.2) (hi:IsoV f x r.1 r.2):sgA Q r g=sgp g x:=by
 have hle:=hi.le
 unfold sgA
 by_cases c:fcmp r.1 r.2=0
 ·rw [if_pos c,sgn_pt ha.p]
  have:=(fcmp_zero ha.p hb.p).1 c
  rcases hi.2 with h2 | h2
  ·rw [h2.2]
  ·grind
 rw [if_neg c]
 have hlt:r.1.v<r.2.v:=by
  have:r.1.v≠r.2.v:=fun e=>c ((fcmp_zero ha.p hb.p).2 e)
  grind
 rcases hi.2 with h2 | ⟨_,n1,n2,x1,x2,hu⟩
 ·grind
 have hx:Lst (fun y=>sgp Q y=0∧Pt.of ((r.1.z:Rat) / (r.1.q:Rat))<y∧(y<Pt.of ((r.2.z:Rat) / (r.2.q:Rat))∨y=Pt.of ((r.2.z:Rat) / (r.2.q:Rat)))) [x]:=by
  refine ⟨List.pairwise_singleton _ _,fun y=>?_⟩
  rw [List.mem_singleton]
  refine ⟨fun ey=>by rw [ey];exact ⟨(e x).1 hi.1,x1,.inl x2⟩,fun ⟨y1,y2,y3⟩=>hu y ((e y).2 y1) y2 (y3.resolve_right fun ey=>n2 ?_)⟩
  have:sgp f y=0:=(e y).2 y1
  rw [ey] at this
  exact this
 rw [nquery_sum h l6 hg h0 ha.p hb.p ha.z ha.q hb.z hb.q ((vld_lt ha.p hb.p).2 hlt) (Pt.of_lt_of.2 hlt) hx]
 show sgp g x+0=_
 omega
def SlC (u:Value):Prop:=∃ A l c,u=.slice A l c
theorem slC_nd (u:Value) (h:SlC u):Nd u:=by obtain ⟨A,l,c,rfl⟩:=h;exact nd_slice _ _ _
def PolR (w:World) (p:List Int) (vs:List Value):Prop:=∃ A l c,vs=[.slice A l c]∧PolyN w A l c p
def CodR (w:World) (xs:List Int) (vs:List Value):Prop:=∃ A l c,vs=[.slice A l c]∧I64At w A l c xs
section
variable {w w':World} {p xs:List Int} {vs:List Value} {g:Nat}
theorem PolR.below (h:PolR w p vs) (hb:Below w.heap.size w w'):PolR w' p vs:=by
 obtain ⟨A,l,c,e,h1⟩:=h
 exact ⟨A,l,c,e,h1.below ikN hb⟩
theorem PolR.len (h:PolR w p vs):vs.length=1:=by obtain ⟨A,l,c,e,h1⟩:=h;rw [e];rfl
theorem PolR.sl (h:PolR w p vs):∀ v∈vs,SlC v:=by
 obtain ⟨A,l,c,e,h1⟩:=h
 intro v hv
 rw [e,List.mem_singleton] at hv
 exact ⟨A,l,c,hv⟩
theorem PolR.frs (h:PolR w p vs) (hf:FrS g g w w') (hc:∀ o u,w.cell? ⟨g,o,none⟩=some u→SlC u):PolR w' p vs:=by
 obtain ⟨A,l,c,e,h1⟩:=h
 have hnd:NdB w g:=fun o u hu=>(slC_nd u (hc o u hu)).1
 refine ⟨A,l,c,e,PolyG.frs (g:=g) (g':=g) ⟨h1,?_⟩ hf hnd hnd⟩
 rcases h1.elems with h0 | ⟨b,o,hA,hlt,he⟩
 ·exact .inl h0
 ·rcases Nat.eq_zero_or_pos l with h0 | h0
  ·exact .inl h0
  ·have hne:b≠g:=fun e=>by
    subst e
    obtain ⟨neg,_,_,_,f1,_,_⟩:=he 0 h0
    obtain ⟨_,_,_,e2⟩:=hc _ _ f1
    cases e2
   exact .inr ⟨b,o,hA,hne,hne⟩
theorem CodR.below (h:CodR w xs vs) (hb:Below w.heap.size w w'):CodR w' xs vs:=by
 obtain ⟨A,l,c,e,h1⟩:=h
 exact ⟨A,l,c,e,h1.below hb⟩
theorem CodR.len (h:CodR w xs vs):vs.length=1:=by obtain ⟨A,l,c,e,h1⟩:=h;rw [e];rfl
theorem CodR.sl (h:CodR w xs vs):∀ v∈vs,SlC v:=by
 obtain ⟨A,l,c,e,h1⟩:=h
 intro v hv
 rw [e,List.mem_singleton] at hv
 exact ⟨A,l,c,hv⟩
theorem CodR.frs (h:CodR w xs vs) (hf:FrS g g w w') (hc:∀ o u,w.cell? ⟨g,o,none⟩=some u→SlC u):CodR w' xs vs:=by
 obtain ⟨A,l,c,e,h1⟩:=h
 refine ⟨A,l,c,e,h1.length,h1.cap,?_⟩
 rcases h1.cells with h0 | ⟨b,o,hA,hlt,he⟩
 ·exact .inl h0
 ·rcases Nat.eq_zero_or_pos l with h0 | h0
  ·exact .inl h0
  ·have hne:b≠g:=fun e=>by
    subst e
    obtain ⟨_,_,_,e2⟩:=hc _ _ (he 0 h0)
    cases e2
   exact .inr ⟨b,o,hA,Nat.lt_of_lt_of_le hlt hf.size,fun j hj=>(hf.cell hlt hne hne _).trans (he j hj)⟩
end
theorem wpList_app_own {w:World} {ops:Array Oper} {rest:List Oper} {o:Oper} {a:Act} {Q:Exit→Act→World→Prop} (hgd:o.guard=none) (s x:Operand) (t e:TypeId)
 (ho:o.op=.call { callee:=.builtin .append,args:=#[s,x],argTypes:=#[t,t] }) (E:Nat) (i0:TypeInfo) (z:Value) (ht:Tryz.prog.underlying t=some (.slice e)) (hi:Tryz.prog.info? e=some i0) (hz0:i0.zero=some z) (hz1:i0.size=E) (hz2:i0.bytes≤200) (hzs:z.cells.size=E) (C:Value→Prop) (hC:∀ u,C u→Nd u) (hzn:∀ j,j<E→C (z.cells[j]!)) (hE:0<E)
 (base:Nat) (v:Value) (us vs:List Value) (hs:a.eval s=v) (hown:OwnE C E e base w v us) (hB:base≤w.heap.size)
 (ax:Addr) (m c:Nat) (hx:a.eval x=.slice (some ax) m c) (hvl:vs.length=m*E) (hxc:∀ (j:Nat) (u:Value),vs[j]?=some u→w.cell? (ax.add j)=some u) (hvn:∀ u∈vs,C u) (hm:0<m∨v≠.slice none 0 0) (hn:us.length+vs.length≤100000000)
 (dd:Nat) (hdd:o.dst=some dd) (h:∀ v' w',GrE C E e base w v us vs v' w'→wpList Tryz.prog ops Q rest (a.put (some dd) v') w') :
 wpList Tryz.prog ops Q (o :: rest) a w :=
 wpList_plain hgd fun _ hK'=>oper_append_own s x t e ho E i0 z ht hi hz0 hz1 hz2 hzs C hC hzn hE base v us vs hs hown hB ax m c hx hvl hxc hvn hm hn dd hdd fun v' w' hg=>hK' _ _ (h v' w' hg)
theorem one_cell {w:World} {u:Value} (t:TypeId):∀ (j:Nat) (v:Value),[u][j]?=some v→(w.alloc (.cells #[u] t)).cell? ((⟨w.heap.size,0,none⟩:Addr).add j)=some v:=fun j v hv=>by
 match j,hv with
 | 0,hv=>simp at hv;subst hv;simp [Addr.add]
end Go.Proofs.YtbfddopopajgaabGreat
namespace Go.Proofs.YtbfddopopajgaabGreat
open Go Go.RowKit
section
variable {α:Type} {C:Value→Prop} {E t base:Nat} {R:World→α→List Value→Prop} {w w':World} {v v':Value} {us vs:List Value}
theorem GrE.mv (h:GrE C E t base w v us vs v' w') (hb:∀ x vs,Below w.heap.size w w'→R w x vs→R w' x vs) (hf:∀ g x vs,FrS g g w w'→(∀ o u,w.cell? ⟨g,o,none⟩=some u→C u)→R w x vs→R w' x vs) (x:α) (ys:List Value) (hx:R w x ys):R w' x ys:=by
 rcases h.2 with ⟨g,n,n',cap,_,_,_,_,k,f⟩ | ⟨k,_⟩
 ·exact hf g x ys f k hx
 ·exact hb x ys k hx
end
theorem polr_mv {B:Nat} {t:TypeId} {w w':World} {v v':Value} {us vs:List Value} (h:GrE SlC 1 t B w v us vs v' w') (p:List Int) (ys:List Value):PolR w p ys→PolR w' p ys:=h.mv (fun _ _ hb hx=>hx.below hb) (fun _ _ _ hf hc hx=>hx.frs hf hc) p ys
theorem slz:∀ j,j<1→SlC ((Value.slice none 0 0).cells[j]!):=fun j hj=>by
 match j,hj with
 | 0,_=>exact ⟨none,0,0,rfl⟩
end Go.Proofs.YtbfddopopajgaabGreat
namespace Go.Proofs.YtbfddopopajgaabGreat
open Go Go.RowKit
def New (B:Nat) (A:Option Addr) (l:Nat):Prop:=l=0∨∃ r,A=some ⟨r,0,none⟩∧B≤r
section
variable {B B' g:Nat} {A:Option Addr} {l c:Nat} {w w':World} {p:List Int} {ps:List (List Int)} {vs us:List Value} {v v':Value}
theorem New.mono (h:New B A l) (hb:B'≤B):New B' A l:=h.imp id fun ⟨r,e,hr⟩=>⟨r,e,Nat.le_trans hb hr⟩
def PolRF (B:Nat) (w:World) (p:List Int) (vs:List Value):Prop:=∃ A l c,vs=[.slice A l c]∧PolyN w A l c p∧New B A l
theorem PolRF.polr (h:PolRF B w p vs):PolR w p vs:=by
 obtain ⟨A,l,c,e,h1,_⟩:=h
 exact ⟨A,l,c,e,h1⟩
theorem PolRF.mono (h:PolRF B w p vs) (hb:B'≤B):PolRF B' w p vs:=by
 obtain ⟨A,l,c,e,h1,h2⟩:=h
 exact ⟨A,l,c,e,h1,h2.mono hb⟩
theorem PolRF.below (h:PolRF B w p vs) (hb:Below w.heap.size w w'):PolRF B w' p vs:=by
 obtain ⟨A,l,c,e,h1,h2⟩:=h
 exact ⟨A,l,c,e,h1.below ikN hb,h2⟩
theorem PolRF.len (h:PolRF B w p vs):vs.length=1:=h.polr.len
theorem PolRF.sl (h:PolRF B w p vs):∀ v∈vs,SlC v:=h.polr.sl
theorem PolRF.frs (h:PolRF B w p vs) (hf:FrS g g w w') (hc:∀ o u,w.cell? ⟨g,o,none⟩=some u→SlC u):PolRF B w' p vs:=by
 obtain ⟨A',l',c',e',h'⟩:=h.polr.frs hf hc
 obtain ⟨A,l,c,e,_,h2⟩:=h
 have e2:=e.symm.trans e'
 cases e2
 exact ⟨_,_,_,e',h',h2⟩
theorem PolRF.off (h:PolRF B w p vs) (hf:FrS g g w w') (hn:NdB w g) (hg:g<B):PolRF B w' p vs:=by
 obtain ⟨A,l,c,e,h1,h2⟩:=h
 refine ⟨A,l,c,e,PolyG.frs (g:=g) (g':=g) ⟨h1,?_⟩ hf hn hn,h2⟩
 rcases h2 with h0 | ⟨r,hA,hr⟩
 ·exact .inl h0
 ·exact .inr ⟨r,0,hA,by omega,by omega⟩
theorem polrf_mv {B0:Nat} {t:TypeId} (h:GrE SlC 1 t B0 w v us vs v' w') (p:List Int) (ys:List Value):PolRF B w p ys→PolRF B w' p ys:=h.mv (fun _ _ hb hx=>hx.below hb) (fun _ _ _ hf hc hx=>hx.frs hf hc) p ys
def ChF (B:Nat) (w:World) (A:Option Addr) (l c:Nat) (ps:List (List Int)):Prop:=SlE 1 (PolRF B) w A l c ps∧New B A l
theorem ChF.nil (B:Nat) (w:World):ChF B w none 0 0 []:=⟨⟨rfl,Nat.le_refl _,.inl ⟨rfl,rfl,rfl⟩⟩,.inl rfl⟩
theorem ChF.own {t:TypeId} (h:OwnE SlC 1 t B w (.slice A l c) us) (hl:Lay (PolRF B w) ps us):ChF B w A l c ps:=by
 obtain ⟨A9,l9,c9,e9,h9⟩:=h.sle (by decide) hl fun x vs hx=>hx.len
 cases e9
 refine ⟨h9,?_⟩
 rcases h with ⟨_,e⟩ | ⟨g,n,cap,cs,e,hb,_⟩
 ·cases e;exact .inl rfl
 ·cases e;exact .inr ⟨g,rfl,hb⟩
theorem ChF.mono (h:ChF B w A l c ps) (hb:B'≤B):ChF B' w A l c ps:=by
 refine ⟨⟨h.1.length,h.1.cap,?_⟩,h.2.mono hb⟩
 rcases h.1.elems with h0 | ⟨b,o,e,hlt,hv⟩
 ·exact .inl h0
 ·refine .inr ⟨b,o,e,hlt,fun i x hx=>?_⟩
  obtain ⟨vs,h1,h2⟩:=hv i x hx
  exact ⟨vs,h1.mono hb,h2⟩
theorem ChF.below (h:ChF B w A l c ps) (hb:Below w.heap.size w w'):ChF B w' A l c ps:=⟨h.1.below hb fun _ _ hx=>hx.below hb,h.2⟩
theorem ChF.off (h:ChF B w A l c ps) (hf:FrS g g w w') (hn:NdB w g) (hg:g<B):ChF B w' A l c ps:=by
 refine ⟨⟨h.1.length,h.1.cap,?_⟩,h.2⟩
 rcases h.1.elems with h0 | ⟨b,o,e,hlt,hv⟩
 ·exact .inl h0
 ·rcases h.2 with h0 | ⟨r,hA,hr⟩
  ·subst h0
   refine .inr ⟨b,o,e,Nat.lt_of_lt_of_le hlt hf.size,fun i x hx=>?_⟩
   have:=h.1.length
   have hi:i<ps.length:=by
    refine Nat.lt_of_not_le fun hc=>?_
    rw [List.getElem?_eq_none hc] at hx;cases hx
   omega
  ·have hbr:b=r:=congrArg Addr.block (Option.some.inj (e.symm.trans hA))
   refine .inr ⟨b,o,e,Nat.lt_of_lt_of_le hlt hf.size,fun i x hx=>?_⟩
   obtain ⟨vs,h1,h2⟩:=hv i x hx
   exact ⟨vs,h1.off hf hn hg,fun j v hj=>(hf.cell hlt (by omega) (by omega) _).trans (h2 j v hj)⟩
theorem ChF.plst (h:ChF B w A l c ps):PLst w A l c ps:=by
 refine ⟨h.1.length,?_⟩
 rcases h.1.elems with ⟨h0,_⟩ | ⟨b,o,e,hlt,hv⟩
 ·exact .inl h0
 ·refine .inr ⟨b,o,e,hlt,fun j hj=>?_⟩
  have hjl:j<ps.length:=by rw [h.1.length];exact hj
  obtain ⟨vs,⟨A1,l1,c1,e1,h1,_⟩,hc⟩:=hv j (ps.getD j []) (by rw [List.getD_eq_getElem?_getD,List.getElem?_eq_getElem hjl];rfl)
  subst e1
  have:=hc 0 _ rfl
  rw [Nat.mul_one,Nat.add_zero] at this
  exact ⟨A1,l1,c1,this,h1.at_ ikN⟩
theorem own_lit {t:TypeId} {base:Nat} (w:World) (A:Option Addr) (l c:Nat) (hb:base≤w.heap.size):OwnE SlC 1 t base (w.alloc (.cells #[.slice A l c] t)) (.slice (some ⟨w.heap.size,0,none⟩) 1 1) [.slice A l c]:=by
 refine .inr ⟨w.heap.size,1,1,_,rfl,hb,rfl,Nat.le_refl _,fun j u hu=>?_,Blk.new w t _,rfl,fun j hj=>?_⟩
 ·match j,hu with
  | 0,hu=>simp at hu;subst hu;simp
 ·match j,hj with
  | 0,_=>exact ⟨_,rfl,A,l,c,rfl⟩
end
set_option maxRecDepth 100000 in
set_option maxHeartbeats 4000000 in
theorem primitive_fr {I:IntPred} (hI:IK I) (A:Option Addr) (len cap:Nat) (p:List Int) (w:World) (h:PolyP I w A len cap p) (hs:SmP p) (hm:len≤1000000000) :
 Calls Tryz.prog 96 #[.slice A len cap] w fun e w'=>∃ A' l' c',e=.returned (.slice A' l' c')∧PolyN w' A' l' c' (pprim p)∧New w.heap.size A' l'∧Below w.heap.size w w':=by
 have hsc:=pcont_sm hs
 have Hp:=Lib.hid h
 go_enter Tryz.func96,Tryz.ntmps96
 go_wp2_with fail
 refine (content_any hI _ _ _ _ _ h hs hm).mono ?_
 rintro e w1 ⟨n1,A1,l1,c1,rfl,h1,hb1⟩
 have hba:Below w1.heap.size w1 (w1.alloc (ibox n1 A1 l1 c1)):=(Below.refl _ _).alloc (Nat.le_refl _) _
 have HC:=Lib.hid (IBox.make h1)
 have Hb1:=Lib.hid (hb1.trans (hba.mono hb1.size))
 have h2:=(h.below hI hb1).below hI hba
 have Hsz:=Lib.hid hb1.size
 clear h h1 hb1 hba
 go_wp2_with fail
 refine (lead_any _ _ _ _ _ (h2.at_ hI) hs (by omega)).mono ?_
 rintro e w2 ⟨n2,A2,l2,c2,rfl,hL,hb2⟩
 have h3:=h2.below hI hb2
 have HC2:=Lib.hid (HC.out.move hb2)
 have Hb2:=Lib.hid (Hb1.out.trans (hb2.mono Hb1.out.size))
 clear h2 hb2 HC Hb1
 have hsl:SmI (plead p):=hs.getD _
 go_wp2_with fail
 refine (isign_any _ _ _ _ _ _ hL.at_ hsl).mono ?_
 rintro e w3 ⟨rfl,rfl⟩
 have hba:Below w2.heap.size w2 (w2.alloc (Obj.cells #[Value.bool n2,Value.slice A2 l2 c2] 30)):=(Below.refl _ _).alloc (Nat.le_refl _) _
 have h4:=h3.below hI hba
 have HC3:=Lib.hid (HC2.out.move hba)
 have Hb3:=Lib.hid (Hb2.out.trans (hba.mono Hb2.out.size))
 clear h3 hba HC2 Hb2 hL
 generalize w2.alloc (Obj.cells #[Value.bool n2,Value.slice A2 l2 c2] 30)=W at *
 obtain ⟨gb,hgb⟩:∃ g,g=w1.heap.size:=⟨_,rfl⟩
 rw [← hgb] at HC3 ⊢
 have Hgb:=Lib.hid (show w.heap.size≤gb by have:=Hsz.out;omega)
 have Hl0:=Lib.hid (plead_zero (f:=p))
 have Hcn:=Lib.hid (fun h=>pcont_ne (p:=p) h)
 have hcs:SmI (pcont p:Int):=by show Sm _;rw [Int.natAbs_natCast];exact hsc
 clear hgb
 rcases sg_cases (plead p) with ⟨hp,hsg⟩ | ⟨hp,hsg⟩ | ⟨hp,hsg⟩
 ·rw [hsg]
  have hpl:plen p≠0:=fun h=>by have:=Hl0.out.2 h;omega
  have hne:-(pcont p:Int)≠0:=by have:=Hcn.out hpl;omega
  have hsn:SmI (-(pcont p:Int)):=by show Sm _;rw [Int.natAbs_neg,Int.natAbs_natCast];exact hsc
  have b0:=HC3.out.c0
  have b1:=HC3.out.c1
  have H4:=Lib.hid h4
  have Hpp:=Lib.hid (show pprim p=(ptrim p).map (·.tdiv (-(pcont p:Int))) by unfold pprim;rw [if_neg hpl,hsg,Int.neg_one_mul])
  clear h4 hp hsg hpl hsl
  go_wp2_with fail
  refine (ineg_any _ _ _ _ _ _ HC3.out.hz.at_ hcs).mono ?_
  rintro e w5 ⟨n5,A5,l5,c5,rfl,h5,hb5⟩
  have hC5:=HC3.out.move hb5
  have H5:=Lib.hid (H4.out.below hI hb5)
  have Hb5:=Lib.hid (Hb3.out.trans (hb5.mono Hb3.out.size))
  have HP:=Lib.hid (hC5.put h5)
  have hbp:Below w.heap.size w (put2 w5 gb n5 A5 l5 c5):=(Hb5.out.setCell (p:=⟨gb,0,none⟩) Hgb.out _).setCell (p:=⟨gb,1,none⟩) Hgb.out _
  have c50:=hC5.c0
  have c51:=hC5.c1
  have f50:=hC5.f0
  have f51:=hC5.f1
  have H6:=Lib.hid (Hp.out.below hI hbp)
  have Hbp:=Lib.hid hbp
  clear h5 hb5 hC5 b0 b1 HC3 H4 hbp H5 Hb5
  go_wp2_with fail
  refine (over_any hI _ _ _ _ _ _ _ _ _ _ H6.out HP.out.hz hs hsn hne hm).mono ?_
  rintro e w7 ⟨g7,rfl,h7,hg7,hb7⟩
  have Hn7:=Lib.hid (Nat.le_trans Hbp.out.size hg7)
  clear hg7
  have hq7:=h7.poly (cap:=plen p) (by rw [List.length_map,ptrim_length];exact Nat.le_refl _)
  rw [List.length_map,ptrim_length] at hq7
  have Hq7:=Lib.hid hq7
  have Hb7:=Lib.hid (Hbp.out.trans (hb7.mono Hbp.out.size))
  clear h7 hb7 hq7 HP H6 Hbp c50 c51 f50 f51
  go_wp2
  go_ret
  exact ⟨_,_,_,rfl,by rw [Hpp.out];exact Hq7.out,.inr ⟨g7,rfl,Hn7.out⟩,Hb7.out⟩
 ·rw [hsg]
  have hpl:plen p=0:=Hl0.out.1 hp
  have Hpp:=Lib.hid (show pprim p=[] by unfold pprim;rw [if_pos hpl])
  clear h4 hp hsg hpl hsl
  go_wp2
  go_ret
  exact ⟨_,_,_,rfl,by rw [Hpp.out];exact PolyP.nil _ _ _ _,.inl rfl,Hb3.out⟩
 ·rw [hsg]
  have hpl:plen p≠0:=fun h=>by have:=Hl0.out.2 h;omega
  have hne:(pcont p:Int)≠0:=by have:=Hcn.out hpl;omega
  have b0:=HC3.out.c0
  have b1:=HC3.out.c1
  have H4:=Lib.hid h4
  have Hpp:=Lib.hid (show pprim p=(ptrim p).map (·.tdiv (pcont p:Int)) by unfold pprim;rw [if_neg hpl,hsg,Int.one_mul])
  clear h4 hp hsg hpl hsl
  go_wp2_with fail
  refine (over_any hI _ _ _ _ _ _ _ _ _ _ H4.out HC3.out.hz hs hcs hne hm).mono ?_
  rintro e w7 ⟨g7,rfl,h7,hg7,hb7⟩
  have Hn7:=Lib.hid (Nat.le_trans Hb3.out.size hg7)
  clear hg7
  have hq7:=h7.poly (cap:=plen p) (by rw [List.length_map,ptrim_length];exact Nat.le_refl _)
  rw [List.length_map,ptrim_length] at hq7
  have Hq7:=Lib.hid hq7
  have Hb7:=Lib.hid (Hb3.out.trans (hb7.mono Hb3.out.size))
  clear h7 hb7 hq7 HC3 H4 Hb3
  go_wp2
  go_ret
  exact ⟨_,_,_,rfl,by rw [Hpp.out];exact Hq7.out,.inr ⟨g7,rfl,Hn7.out⟩,Hb7.out⟩
set_option maxHeartbeats 400000 in
theorem polyneg_fr {I:IntPred} (hI:IK I) (A:Option Addr) (len cap:Nat) (p:List Int) (w:World) (h:PolyP I w A len cap p) (hs:SmP p) (hm:len≤1000000000) :
 Calls Tryz.prog 143 #[.slice A len cap] w fun e w'=>∃ A' l' c',e=.returned (.slice A' l' c')∧PolyN w' A' l' c' (pmn (ptrim p))∧New w.heap.size A' l'∧Below w.heap.size w w':=by
 have hpl:plen p≤1000000000:=by have:=plen_le p;have:=h.length;omega
 go_enter Tryz.func143,Tryz.ntmps143
 go_wp2_with fail
 refine (ptrim_any hI _ _ _ _ _ h hs (by omega)).mono ?_
 rintro e w1 ⟨l1,rfl,h1,rfl,hb1⟩
 have Hb1:=Lib.hid hb1
 have hs2:=hs.ptrim
 clear h hs hb1
 go_wp2_with fail
 refine (tneg_any hI _ _ _ _ _ h1 hs2 (by omega)).mono ?_
 rintro e w2 ⟨g,rfl,h2,hg,hb2⟩
 have hp:=h2.poly (cap:=plen p) (by rw [pmn_length,ptrim_length];exact Nat.le_refl _)
 rw [pmn_length,ptrim_length] at hp
 have HG:=Lib.hid (Nat.le_trans Hb1.out.size hg)
 have H2:=Lib.hid hp
 have Hb2:=Lib.hid (Hb1.out.trans (hb2.mono Hb1.out.size))
 clear h1 h2 hb2 hp hg
 go_wp2
 go_ret
 exact ⟨_,_,_,rfl,H2.out,.inr ⟨g,rfl,HG.out⟩,Hb2.out⟩
set_option maxHeartbeats 400000 in
theorem reduced_fr {I:IntPred} (hI:IK I) (A:Option Addr) (len cap:Nat) (f:List Int) (w:World) (h:PolyP I w A len cap f) (hs:SmP f) (hm:len≤1000000000) :
 Calls Tryz.prog 101 #[.slice A len cap] w fun e w'=>∃ A' l' c',e=.returned (.slice A' l' c')∧PolyN w' A' l' c' (pred f)∧New w.heap.size A' l'∧Below w.heap.size w w':=by
 have hfl:=h.length
 go_enter Tryz.func101,Tryz.ntmps101
 go_wp2_with fail
 refine (lead_any _ _ _ _ _ (h.at_ hI) hs (by omega)).mono ?_
 rintro e w1 ⟨n1,A1,l1,c1,rfl,h1,hb1⟩
 have h01:=h.below hI hb1
 have Hb1:=Lib.hid hb1
 have sl:SmI (plead f):=hs.getD _
 clear h hb1
 go_wp2_with fail
 refine (isign_any _ _ _ _ _ _ h1.at_ sl).mono ?_
 rintro e w2 ⟨rfl,hw⟩
 have hb2:Below w1.heap.size w1 w2:=by first | exact hw | (rw [hw];exact Below.refl _ _) | (rw [hw];exact (Below.refl _ _).alloc (Nat.le_refl _) _)
 have h02:=h01.below hI hb2
 have Hb2:=Lib.hid (Hb1.out.trans (hb2.mono Hb1.out.size))
 clear h01 h1 hb2 hw Hb1
 by_cases hn:plead f<0
 ·have hsg:sg (plead f)=-1:=by rcases sg_cases (plead f) with ⟨_,e⟩ | ⟨_,e⟩ | ⟨_,e⟩<;>omega
  have hsl:sg (plead f)<0:=by omega
  have Hn:=Lib.hid hn
  clear hn hsg
  go_wp2_with fail
  refine (primitive_fr hI _ _ _ _ _ h02 hs hm).mono ?_
  rintro e w3 ⟨A3,l3,c3,rfl,h3,hn3,hb3⟩
  have HN:=Lib.hid (hn3.mono Hb2.out.size)
  clear hn3
  have hl3:=h3.length
  have hpl:=pprim_le' f
  have Hb3:=Lib.hid (Hb2.out.trans (hb3.mono Hb2.out.size))
  clear h02 hb3 Hb2
  go_wp2_with fail
  refine (polyneg_fr ikN _ _ _ _ _ h3 (pprim_smp hs) (by omega)).mono ?_
  rintro e w4 ⟨A4,l4,c4,rfl,h4,hn4,hb4⟩
  replace HN:=Lib.hid (hn4.mono Hb3.out.size)
  clear hn4
  have H4:=Lib.hid h4
  have Hb4:=Lib.hid (Hb3.out.trans (hb4.mono Hb3.out.size))
  clear h3 h4 hb4 Hb3
  go_wp2
  go_ret
  exact ⟨_,_,_,rfl,by unfold pred;rw [if_pos (by have:=Hn.out;omega)];exact H4.out,HN.out,Hb4.out⟩
 ·have hsl:¬ sg (plead f)<0:=by rcases sg_cases (plead f) with ⟨_,e⟩ | ⟨_,e⟩ | ⟨_,e⟩<;>omega
  have Hn:=Lib.hid hn
  clear hn
  go_wp2_with fail
  refine (primitive_fr hI _ _ _ _ _ h02 hs hm).mono ?_
  rintro e w3 ⟨A3,l3,c3,rfl,h3,hn3,hb3⟩
  have HN:=Lib.hid (hn3.mono Hb2.out.size)
  clear hn3
  have H3:=Lib.hid h3
  have Hb3:=Lib.hid (Hb2.out.trans (hb3.mono Hb2.out.size))
  clear h02 h3 hb3 Hb2
  go_wp2
  go_ret
  exact ⟨_,_,_,rfl,by unfold pred;rw [if_neg (by have:=Hn.out;omega)];exact H3.out,HN.out,Hb3.out⟩
set_option maxRecDepth 100000 in
set_option maxHeartbeats 1000000 in
theorem negrem_fr (A:Option Addr) (la ca:Nat) (a:List Int) (B:Option Addr) (lb cb:Nat) (b:List Int) (w:World) (ha:PolyN w A la ca a) (hb:PolyN w B lb cb b) (hf:ChFits a b) :
 Calls Tryz.prog 102 #[.slice A la ca,.slice B lb cb] w fun e w'=>∃ A' l' c',e=.returned (.slice A' l' c')∧PolyN w' A' l' c' (nrem a b)∧New w.heap.size A' l'∧Below w.heap.size w w':=by
 have hla:la≤1000000:=by have:=hf.la;have:=ha.length;omega
 have hlb:lb≤1000000:=by have:=hf.lb;have:=hb.length;omega
 have hal:=ha.length
 have hbl:=hb.length
 have sr:=hf.r
 have srl:=hf.rl
 have sb:SmP b:=hf.fb.smp
 have HF:=Lib.hid hf
 obtain ⟨m,hm⟩:∃ m:Nat,m=la+1-lb:=⟨_,rfl⟩
 go_enter Tryz.func102,Tryz.ntmps102
 go_wp2_with fail
 refine (pseudo_any ikN ikN _ _ _ _ _ _ _ _ 1000000000 _ ha hb hf.da hf.fb hf.b1 (by omega) (by omega) (by omega)).mono ?_
 rintro e w1 ⟨A1,l1,c1,A2,l2,c2,rfl,h1,h2,hb1⟩
 have hB1:=Lib.hid (hb.below ikN hb1)
 have H2:=Lib.hid h2
 have hl2:=h2.length
 have Hb1:=Lib.hid hb1
 have Hal:=Lib.hid hal
 have Hbl:=Lib.hid hbl
 have hmx:max ((la:Int)-(lb:Int)+1) 0=(m:Int):=by omega
 have Hm:=Lib.hid hm
 clear ha hb h1 h2 hb1 hf hal hbl hm
 by_cases hm2:m % 2=1
 ·have ht:Int.tmod (m:Int) 2=1:=by rw [show (2:Int)=((2:Nat):Int) from rfl,← Int.ofNat_tmod,hm2];rfl
  have hb2:((m:Int).tmod 2 == 1)=true:=by rw [ht];rfl
  have Hm2:=Lib.hid hm2
  have hlb2:b.length=lb:=Hbl.out
  clear hm2
  go_wp2_with fail
  refine (lead_any _ _ _ _ _ (hB1.out.at_ ikN) sb (by omega)).mono ?_
  rintro e w3 ⟨n3,A3,l3,c3,rfl,h3,hb3⟩
  have H23:=Lib.hid (H2.out.below ikN hb3)
  have Hb3:=Lib.hid (Hb1.out.trans (hb3.mono Hb1.out.size))
  have sl:SmI (plead b):=sb.getD _
  clear hb3
  go_wp2_with fail
  refine (isign_any _ _ _ _ _ _ h3.at_ sl).mono ?_
  rintro e w4 ⟨rfl,rfl⟩
  have hb4:Below w3.heap.size w3 (w3.alloc (ibox n3 A3 l3 c3)):=(Below.refl _ _).alloc (Nat.le_refl _) _
  have H24:=Lib.hid (H23.out.below ikN hb4)
  have Hb4:=Lib.hid (Hb3.out.trans (hb4.mono Hb3.out.size))
  clear hb4 h3
  by_cases hn:plead b<0
  ·have hsl:sg (plead b)<0:=by rcases sg_cases (plead b) with ⟨_,e⟩ | ⟨_,e⟩ | ⟨_,e⟩<;>omega
   have Hn:=Lib.hid hn
   clear hn
   go_wp2_with fail
   refine (reduced_fr ikN _ _ _ _ _ H24.out sr (by omega)).mono ?_
   rintro e w5 ⟨A5,l5,c5,rfl,h5,hn5,hb5⟩
   have HN:=Lib.hid (hn5.mono Hb4.out.size)
   clear hn5
   have H5:=Lib.hid h5
   have Hb5:=Lib.hid (Hb4.out.trans (hb5.mono Hb4.out.size))
   clear h5 hb5
   go_wp2
   go_ret
   exact ⟨_,_,_,rfl,by unfold nrem;rw [if_pos ⟨by rw [Hal.out,Hbl.out,← Hm.out];exact Hm2.out,by have:=Hn.out;omega⟩];exact H5.out,HN.out,Hb5.out⟩
  ·have hsl:¬ sg (plead b)<0:=by rcases sg_cases (plead b) with ⟨_,e⟩ | ⟨_,e⟩ | ⟨_,e⟩<;>omega
   have Hn:=Lib.hid hn
   clear hn
   go_wp2_with fail
   refine (reduced_fr ikN _ _ _ _ _ H24.out sr (by omega)).mono ?_
   rintro e w5 ⟨A5,l5,c5,rfl,h5,hn5,hb5⟩
   have HN:=Lib.hid (hn5.mono Hb4.out.size)
   clear hn5
   have hl5:=h5.length
   have hpl:=pred_le (psr a b)
   have Hb5:=Lib.hid (Hb4.out.trans (hb5.mono Hb4.out.size))
   clear hb5
   go_wp2_with fail
   refine (polyneg_fr ikN _ _ _ _ _ h5 (pred_smp sr) (by omega)).mono ?_
   rintro e w6 ⟨A6,l6,c6,rfl,h6,hn6,hb6⟩
   replace HN:=Lib.hid (hn6.mono Hb5.out.size)
   clear hn6
   have H6:=Lib.hid h6
   have Hb6:=Lib.hid (Hb5.out.trans (hb6.mono Hb5.out.size))
   clear h5 h6 hb6
   go_wp2
   go_ret
   exact ⟨_,_,_,rfl,by unfold nrem;rw [if_neg (fun hh=>by have h1:=Hn.out;have h2:=hh.2;omega)];exact H6.out,HN.out,Hb6.out⟩
 ·have ht:Int.tmod (m:Int) 2=0:=by rw [show (2:Int)=((2:Nat):Int) from rfl,← Int.ofNat_tmod,show m % 2=0 by omega];rfl
  have hb2:((m:Int).tmod 2 == 1)=false:=by rw [ht];rfl
  have Hm2:=Lib.hid hm2
  clear hm2
  go_wp2_with fail
  refine (reduced_fr ikN _ _ _ _ _ H2.out sr (by omega)).mono ?_
  rintro e w5 ⟨A5,l5,c5,rfl,h5,hn5,hb5⟩
  have HN:=Lib.hid (hn5.mono Hb1.out.size)
  clear hn5
  have hl5:=h5.length
  have hpl:=pred_le (psr a b)
  have Hb5:=Lib.hid (Hb1.out.trans (hb5.mono Hb1.out.size))
  clear hb5
  go_wp2_with fail
  refine (polyneg_fr ikN _ _ _ _ _ h5 (pred_smp sr) (by omega)).mono ?_
  rintro e w6 ⟨A6,l6,c6,rfl,h6,hn6,hb6⟩
  replace HN:=Lib.hid (hn6.mono Hb5.out.size)
  clear hn6
  have H6:=Lib.hid h6
  have Hb6:=Lib.hid (Hb5.out.trans (hb6.mono Hb5.out.size))
  clear h5 h6 hb6
  go_wp2
  go_ret
  exact ⟨_,_,_,rfl,by unfold nrem;rw [if_neg (fun hh=>Hm2.out (by rw [Hm.out,← Hal.out,← Hbl.out];exact hh.1))];exact H6.out,HN.out,Hb6.out⟩
set_option maxRecDepth 100000 in
set_option maxHeartbeats 4000000 in
theorem chain_fr (A:Option Addr) (la ca:Nat) (f:List Int) (B:Option Addr) (lb cb:Nat) (g:List Int) (w:World) (hf:PolyN w A la ca f) (hg:PolyN w B lb cb g) (sf:SmP f) (sg:SmP g) (hla:la≤1000000) (hlb:lb≤1000000) (k:Nat) (hok:chOK k (pred f) (pred g)) (hlen:(chn k (pred f) (pred g)).length≤1000000) :
 Calls Tryz.prog 48 #[.slice A la ca,.slice B lb cb] w fun e w'=>(∃ A' l' c',e=.returned (.slice A' l' c')∧ChF w.heap.size w' A' l' c' (pchain k f g))∧Below w.heap.size w w':=by
 obtain ⟨i0,hi,hz0,hz1,hz2⟩:=info_parts info_poly
 have hfl:=hf.length
 have hpf:=plen_le f
 obtain ⟨LL,hLL⟩:∃ LL,LL=pchain k f g:=⟨_,rfl⟩
 rw [← hLL]
 have HLL:=Lib.hid hLL
 clear hLL
 go_enter Tryz.func48,Tryz.ntmps48
 go_wp2_with fail
 refine (degree_any _ _ _ _ _ (hf.at_ ikN) sf (by omega)).mono ?_
 rintro e w1 ⟨rfl,hb1⟩
 have hf1:=hf.below ikN hb1
 have hg1:=hg.below ikN hb1
 have Hb1:=Lib.hid hb1
 clear hf hg hb1
 by_cases h0:plen f=0
 ·have hd:((plen f:Nat):Int)-1<0:=by omega
  have H0:=Lib.hid h0
  clear hf1 hg1 h0
  go_wp2
  go_ret
  exact ⟨⟨_,_,_,rfl,by rw [HLL.out];unfold pchain;rw [if_pos H0.out];exact ChF.nil _ _⟩,Hb1.out⟩
 ·have hd:¬ ((plen f:Nat):Int)-1<0:=by omega
  have H0:=Lib.hid h0
  clear h0
  go_wp2_with fail
  refine (reduced_fr ikN _ _ _ _ _ hf1 sf (by omega)).mono ?_
  rintro e w2 ⟨A2,l2,c2,rfl,h2,hn2,hb2⟩
  have HN2:=Lib.hid (hn2.mono Hb1.out.size)
  have hg2:=hg1.below ikN hb2
  have hba:Below w2.heap.size w2 (w2.alloc (.cells #[.slice A2 l2 c2] 25)):=(Below.refl _ _).alloc (Nat.le_refl _) _
  have Hg3:=Lib.hid (hg2.below ikN hba)
  have HO:=Lib.hid (own_lit (t:=25) (base:=w.heap.size) w2 A2 l2 c2 (Nat.le_trans Hb1.out.size hb2.size))
  have H3:=Lib.hid (h2.below ikN hba)
  have hg0:w.heap.size≤w2.heap.size:=Nat.le_trans Hb1.out.size hb2.size
  have Hb3:=Lib.hid ((Hb1.out.trans (hb2.mono Hb1.out.size)).trans (hba.mono (Hb1.out.trans (hb2.mono Hb1.out.size)).size))
  clear hf1 hg1 h2 hb2 hg2 hba Hb1
  go_wp2_with fail
  go_region_held3 (fun w'=>w'.cell? ⟨w2.heap.size,0,none⟩=some (.slice A2 l2 c2)) (go_keep) (first
   | (go_at_call 101;go_must (refine (reduced_fr ikN _ _ _ _ _ ?_ sg (by omega)).mono ?_;(exact Hg3.out.below ikN Bel.go);rintro e w4 ⟨A4,l4,c4,rfl,h4,hn4,hb4⟩;have H4:=Lib.hid h4;have HN4:=Lib.hid (hn4.mono (Nat.le_trans Hb3.out.size (by simp)));have Hb4:=Lib.hid (Hb3.out.trans ((Below.trans Bel.go (hb4.mono (by simp<;>omega))).mono Hb3.out.size));have H34:=Lib.hid (H3.out.below ikN (Below.trans Bel.go (hb4.mono (by simp<;>omega))));have HO4:=Lib.hid (HO.out.below (Below.trans Bel.go (hb4.mono (by simp<;>omega))));obtain ⟨hcx,hfx⟩:=bcellS hb4;have v0:w4.cell? ⟨w2.heap.size,0,none⟩=some (.slice A2 l2 c2):=(hcx _ (by go_simp)).trans (by go_simp);clear h4 hn4 hcx hfx hb4)))
  have HL:=Lib.hid (show LL=[pred f] ++ chn k (pred f) (pred g) by rw [HLL.out];unfold pchain;rw [if_neg H0.out];rfl)
  have hl2:l2≤1000000:=by have h1:=H34.out.length;have h2:=pred_le f;omega
  have HY:=Lib.hid (show Lay (PolRF w.heap.size w4) [pred f] [.slice A2 l2 c2] from ⟨_,[],⟨_,_,_,rfl,H34.out,HN2.out⟩,by simp,rfl⟩)
  clear Hg3 HO H3 Hb3 v0 hd
  have hLn:LL.length≤1000001:=by have:=HL.out;rw [this];simp;omega
  have Hok:=Lib.hid hok
  clear hok hlen HLL
  go_wp2
  go_loopw [5,6,7] (fun s5 s6 s7 wr=>∃ (us:List Value) (ps:List (List Int)) (j:Nat) (a b:List Int) (A1:Option Addr) (l1 c1:Nat) (A2:Option Addr) (l2 c2:Nat),s6=.slice A1 l1 c1∧s7=.slice A2 l2 c2∧OwnE SlC 1 25 w.heap.size wr s5 us∧Lay (PolRF w.heap.size wr) ps us∧PolyN wr A1 l1 c1 a∧PolyN wr A2 l2 c2 b∧New w.heap.size A2 l2∧chOK j a b∧LL=ps ++ chn j a b∧Below w.heap.size w wr) (fun s5 _ _ _=>LL.length-lenOf s5)
  case atStart=>exact ⟨_,_,k,_,_,_,_,_,_,_,_,rfl,rfl,HO4.out,HY.out,H34.out,H4.out,HN4.out,Hok.out,HL.out,Hb4.out⟩
  case round =>
   clear HO4 H34 H4 Hok HL Hb4 hg0 hl2 HY HN2 HN4
   obtain ⟨us,ps,j,a,b,A1,l1,c1,A2,l2,c2,rfl,rfl,ho,hly,ha,hb,hnw,hok,hL,hbw⟩:=hrel
   obtain ⟨Av,nv,cv,ev,hul,hcap⟩:=ho.len
   subst ev
   have hlen1:=hly.len fun x vs hx=>hx.len
   have HO:=Lib.hid (And.intro ho hly)
   have Ha:=Lib.hid ha
   have Hb:=Lib.hid hb
   have HN:=Lib.hid hnw
   have HL:=Lib.hid hL
   have Hbw:=Lib.hid hbw
   have hbl:=hb.length
   match j,hok with
   | j+1,hok =>
     by_cases hb0:b=[]
     ·subst hb0
      have hl2:l2=0:=hbl.symm
      subst hl2
      have hps:LL=ps:=by have:=HL.out;simp [chn] at this;exact this
      have Hps:=Lib.hid hps
      clear ho hly ha hb hnw hL hbw hok hbl hps hul hcap hlen1
      go_wp2
      go_ret
      exact ⟨⟨_,_,_,rfl,by rw [Hps.out];exact ChF.own HO.out.1 HO.out.2⟩,Hbw.out⟩
     ·obtain ⟨hfit,hok2⟩:=hok.resolve_left hb0
      have hLs:LL=(ps ++ [b]) ++ chn j b (nrem a b):=by
       have h1:=HL.out
       simp only [chn] at h1
       rw [if_neg hb0] at h1
       rw [h1];simp
      have hnlt:nv<LL.length:=by rw [hLs];simp;omega
      have hl2:0<l2:=by rw [← hbl];exact List.length_pos_iff.2 hb0
      have hl2i:(0:Int)<(l2:Int):=by omega
      have hba:Below wr.heap.size wr (wr.alloc (.cells #[.slice A2 l2 c2] 25)):=(Below.refl _ _).alloc (Nat.le_refl _) _
      have HO1:=Lib.hid (And.intro (HO.out.1.below hba) (show Lay (PolRF w.heap.size (wr.alloc (.cells #[.slice A2 l2 c2] 25))) ps us from HO.out.2.mono fun _ _ hx=>hx.below hba))
      have HX1:=Lib.hid (show PolRF w.heap.size (wr.alloc (.cells #[.slice A2 l2 c2] 25)) b [.slice A2 l2 c2] from ⟨_,_,_,rfl,Hb.out.below ikN hba,HN.out⟩)
      have HA1:=Lib.hid (show PolR (wr.alloc (.cells #[.slice A2 l2 c2] 25)) a [.slice A1 l1 c1] from ⟨_,_,_,rfl,Ha.out.below ikN hba⟩)
      have Hbw1:=Lib.hid (Hbw.out.trans (hba.mono Hbw.out.size))
      have Hsz:=Lib.hid (show w.heap.size≤(wr.alloc (.cells #[.slice A2 l2 c2] 25)).heap.size from Hbw1.out.size)
      have Hfit:=Lib.hid hfit
      have Hok2:=Lib.hid hok2
      have HLs:=Lib.hid hLs
      have HUL:=Lib.hid hul
      have hub:us.length+[Value.slice A2 l2 c2].length≤100000000:=by simp;omega
      have HUB:=Lib.hid hub
      clear ho hly ha hb hnw hL hbw hok hfit hok2 hLs hba hbl HO Ha Hb HN Hbw HL hul hcap hlen1 hub
      go_wp2_with (at_builtin;refine wpList_app_own rfl (.tmp 22) (.tmp 24) 92 25 rfl 1 i0 (.slice none 0 0) Tryz.underlying92 hi hz0 hz1 (by rw [hz2];omega) rfl SlC slC_nd slz (by decide) w.heap.size _ us [.slice A2 l2 c2] rfl HO1.out.1 Hsz.out ⟨wr.heap.size,0,none⟩ 1 1 rfl rfl (one_cell _) HX1.out.sl (.inl (by decide)) HUB.out 25 rfl ?_)
      intro v2 w5 hgr
      have hn5:PolRF w.heap.size w5 b [.slice A2 l2 c2]:=polrf_mv hgr _ _ HX1.out
      have hly5:Lay (PolRF w.heap.size w5) (ps ++ [b]) (us ++ [.slice A2 l2 c2]):=Lay.app (HO1.out.2.mono fun p ys hp=>polrf_mv hgr p ys hp) hn5
      obtain ⟨_,_,_,e5,hb5,hnn⟩:=hn5
      cases e5
      obtain ⟨_,_,_,e6,ha5⟩:=polr_mv hgr _ _ HA1.out
      cases e6
      obtain ⟨Ax,nx,cx,ex,hux,hcx2⟩:=hgr.1.len
      subst ex
      have hnx:nx=nv+1:=by
       have:=HUL.out
       rw [List.length_append,List.length_singleton] at hux
       omega
      have Ho5:=Lib.hid (And.intro hgr.1 hly5)
      have Hbw5:=Lib.hid (Hbw1.out.trans (hgr.below Hsz.out))
      have Hb5:=Lib.hid hb5
      have HN5:=Lib.hid hnn
      have HNX:=Lib.hid hnx
      clear hgr HO1 HX1 HA1 Hbw1 hly5 hux hcx2 hnn hnx Hsz
      go_wp2_with fail
      refine (negrem_fr _ _ _ _ _ _ _ _ _ ha5 hb5 Hfit.out).mono ?_
      rintro e w6 ⟨A6,l6,c6,rfl,h6,hn6,hb6⟩
      have H6:=Lib.hid h6
      have HN6:=Lib.hid (hn6.mono Hbw5.out.size)
      have Hb6:=Lib.hid (Hb5.out.below ikN hb6)
      have Ho6:=Lib.hid (And.intro (Ho5.out.1.below hb6) (show Lay (PolRF w.heap.size w6) (ps ++ [b]) (us ++ [.slice A2 l2 c2]) from Ho5.out.2.mono fun _ _ hx=>hx.below hb6))
      have Hbw6:=Lib.hid (Hbw5.out.trans (hb6.mono Hbw5.out.size))
      clear ha5 hb5 h6 hn6 hb6 Hb5 Ho5 Hbw5 HN5
      go_wp2
      go_roundw
      case rel=>exact ⟨_,_,j,_,_,_,_,_,_,_,_,rfl,rfl,Ho6.out.1,Ho6.out.2,Hb6.out,H6.out,HN6.out,Hok2.out,HLs.out,Hbw6.out⟩
      case measure=>have:=HNX.out;simp [lenOf];omega
set_option maxHeartbeats 400000 in
theorem sturmof_fr (A:Option Addr) (la ca:Nat) (f:List Int) (w:World) (hf:PolyN w A la ca f) (sf:SmP f) (sd:SmP (pder f)) (hla:la≤1000000) (k:Nat) (hok:chOK k (pred f) (pred (pder f))) (hlen:(chn k (pred f) (pred (pder f))).length≤1000000) :
 Calls Tryz.prog 92 #[.slice A la ca] w fun e w'=>(∃ A' l' c',e=.returned (.slice A' l' c')∧ChF w.heap.size w' A' l' c' (pchain k f (pder f)))∧Below w.heap.size w w':=by
 have hfl:=hf.length
 have hpf:=plen_le f
 go_enter Tryz.func92,Tryz.ntmps92
 go_wp2_with fail
 refine (derivative_any ikN _ _ _ _ _ hf sf (by omega)).mono ?_
 rintro e w1 ⟨A1,l1,c1,rfl,h1,hb1⟩
 have hf1:=hf.below ikN hb1
 have hl1:=h1.length
 rw [pder_length] at hl1
 have Hb1:=Lib.hid hb1
 clear hf hb1
 go_wp2_with fail
 refine (chain_fr _ _ _ _ _ _ _ _ _ hf1 h1 sf sd hla (by omega) k hok hlen).mono ?_
 rintro e w2 ⟨⟨A2,l2,c2,rfl,h2⟩,hb2⟩
 have H2:=Lib.hid (h2.mono Hb1.out.size)
 have Hb2:=Lib.hid (Hb1.out.trans (hb2.mono Hb1.out.size))
 clear hf1 h1 h2 hb2
 go_wp2
 go_ret
 exact ⟨⟨_,_,_,rfl,H2.out⟩,Hb2.out⟩
end Go.Proofs.YtbfddopopajgaabGreat
namespace Go.Proofs.YtbfddopopajgaabGreat
open Go Go.RowKit
structure RBk (w:World) (g:Nat) (n:Bool) (A:Option Addr) (l c:Nat) (B:Option Addr) (m d:Nat) (n':Bool) (A':Option Addr) (l' c':Nat) (B':Option Addr) (m' d':Nat) (s:Fq×Fq):Prop where
 k:Blk w g 34 #[.bool n,.slice A l c,.slice B m d,.bool n',.slice A' l' c',.slice B' m' d']
 hz:IntN w n A l c s.1.z
 hq:NatN w B m d s.1.q
 hz':IntN w n' A' l' c' s.2.z
 hq':NatN w B' m' d' s.2.q
section
variable {w w':World} {g:Nat} {n:Bool} {A:Option Addr} {l c:Nat} {B:Option Addr} {m d:Nat} {n':Bool} {A':Option Addr} {l' c':Nat} {B':Option Addr} {m' d':Nat} {s t:Fq×Fq}
theorem RBk.tb (h:RBk w g n A l c B m d n' A' l' c' B' m' d' s):TBox w g n A l c B m d s.1.z s.1.q n' A' l' c' B' m' d' s.2.z s.2.q :=
 ⟨⟨h.k.cell 0,h.k.cell 1,h.k.cell 2,h.k.frozen 0,h.k.frozen 1,h.k.frozen 2,h.k.lt,h.hz,h.hq⟩,h.k.cell 3,h.k.cell 4,h.k.cell 5,h.hz',h.hq'⟩
theorem RBk.make (hz:IntN w n A l c s.1.z) (hq:NatN w B m d s.1.q) (hz':IntN w n' A' l' c' s.2.z) (hq':NatN w B' m' d' s.2.q):RBk (w.alloc (tbox n A l c B m d n' A' l' c' B' m' d')) w.heap.size n A l c B m d n' A' l' c' B' m' d' s:=by
 have ho:=below_new w (tbox n A l c B m d n' A' l' c' B' m' d')
 exact ⟨Blk.new _ _ _,hz.below ho,hq.below ho,hz'.below ho,hq'.below ho⟩
theorem RBk.move (h:RBk w g n A l c B m d n' A' l' c' B' m' d' s) (hb:Below w.heap.size w w'):RBk w' g n A l c B m d n' A' l' c' B' m' d' s :=
 ⟨h.k.below hb h.k.lt,h.hz.below hb,h.hq.below hb,h.hz'.below hb,h.hq'.below hb⟩
theorem RBk.ndb (h:RBk w g n A l c B m d n' A' l' c' B' m' d' s):NdB w g:=blk_ndb h.k fun j v hv=>by
 match j,hv with
 | 0,hv=>simp at hv;subst hv;exact noDigit_bool _
 | 1,hv=>simp at hv;subst hv;exact noDigit_slice _ _ _
 | 2,hv=>simp at hv;subst hv;exact noDigit_slice _ _ _
 | 3,hv=>simp at hv;subst hv;exact noDigit_bool _
 | 4,hv=>simp at hv;subst hv;exact noDigit_slice _ _ _
 | 5,hv=>simp at hv;subst hv;exact noDigit_slice _ _ _
 | j+6,hv=>simp at hv
variable {n₂:Bool} {A₂:Option Addr} {l₂ c₂:Nat} {B₂:Option Addr} {m₂ d₂:Nat} {n₃:Bool} {A₃:Option Addr} {l₃ c₃:Nat} {B₃:Option Addr} {m₃ d₃:Nat}
theorem RBk.put (h:RBk w g n A l c B m d n' A' l' c' B' m' d' s) (h1:IntN w n₂ A₂ l₂ c₂ t.1.z) (h2:NatN w B₂ m₂ d₂ t.1.q) (h3:IntN w n₃ A₃ l₃ c₃ t.2.z) (h4:NatN w B₃ m₃ d₃ t.2.q) :
 RBk (pu6 w g (.bool n₂) (.slice A₂ l₂ c₂) (.slice B₂ m₂ d₂) (.bool n₃) (.slice A₃ l₃ c₃) (.slice B₃ m₃ d₃)) g n₂ A₂ l₂ c₂ B₂ m₂ d₂ n₃ A₃ l₃ c₃ B₃ m₃ d₃ t:=by
 have hf:=pu6_frs w g (.bool n₂) (.slice A₂ l₂ c₂) (.slice B₂ m₂ d₂) (.bool n₃) (.slice A₃ l₃ c₃) (.slice B₃ m₃ d₃)
 have nd:=h.ndb
 exact ⟨(((((h.k.set_ 0 _).set_ 1 _).set_ 2 _).set_ 3 _).set_ 4 _).set_ 5 _,h1.frs hf nd nd,h2.frs hf nd nd,h3.frs hf nd nd,h4.frs hf nd nd⟩
end
end Go.Proofs.YtbfddopopajgaabGreat
namespace Go.Proofs.YtbfddopopajgaabGreat
open Go Go.RowKit
set_option maxRecDepth 100000 in
set_option maxHeartbeats 4000000 in
theorem half_any {I:IntPred} (hI:IK I) {w:World} {Ap:Option Addr} {lp cp:Nat} {Q:List Int} {r:Fq×Fq} {n:Bool} {A:Option Addr} {l c:Nat} {B:Option Addr} {m d:Nat} {n':Bool} {A':Option Addr} {l' c':Nat} {B':Option Addr} {m' d':Nat}
 (hp:PolyP I w Ap lp cp Q) (hlp:lp≤1000000) (hQ:∀ x,FqB x→PoOK x.z x.q Q) (hz:IntN w n A l c r.1.z) (hq:NatN w B m d r.1.q) (hz':IntN w n' A' l' c' r.2.z) (hq':NatN w B' m' d' r.2.q) (ha:FqB r.1) (hb:FqB r.2) (hm:FqB (r.1.mid r.2)) :
 Calls Tryz.prog 62 #[.slice Ap lp cp,.agg #[.bool n,.slice A l c,.slice B m d,.bool n',.slice A' l' c',.slice B' m' d']] w fun e w'=>RootE (hlf Q r) e w'∧Below w.heap.size w w':=by
 have o1:=below_new w (tbox n A l c B m d n' A' l' c' B' m' d')
 have o2:=below_new (w.alloc (tbox n A l c B m d n' A' l' c' B' m' d')) rtObj
 have b2:Below w.heap.size w ((w.alloc (tbox n A l c B m d n' A' l' c' B' m' d')).alloc rtObj):=o1.alloc (by simp) _
 have T:=Lib.hid ((TBox.make hz hq hz' hq').move o2)
 have K3:Blk ((w.alloc (tbox n A l c B m d n' A' l' c' B' m' d')).alloc rtObj) (w.alloc (tbox n A l c B m d n' A' l' c' B' m' d')).heap.size 34 rz6:=Blk.new _ _ _
 simp only [World.size_alloc] at K3
 have HP:=Lib.hid (hp.below hI b2)
 have x0:=T.out.r.c0;have x1:=T.out.r.c1;have x2:=T.out.r.c2;have x3:=T.out.c3;have x4:=T.out.c4;have x5:=T.out.c5
 have K4:=Lib.hid K3
 have Hb:=Lib.hid b2
 have hl3:=K3.lt
 have pa:=hQ _ ha
 have pm:=hQ _ hm
 have HQ:=Lib.hid hQ
 obtain ⟨R,hR⟩:∃ R,R=hlf Q r:=⟨_,rfl⟩
 rw [← hR]
 unfold hlf at hR
 have HR:=Lib.hid hR
 obtain ⟨S,hS⟩:∃ S,S=(r.1.mid r.2).sgn Q:=⟨_,rfl⟩
 obtain ⟨S2,hS2⟩:∃ S,S=r.1.sgn Q:=⟨_,rfl⟩
 have HS:=Lib.hid hS
 have HS2:=Lib.hid hS2
 obtain ⟨wb,hwb⟩:∃ wb,wb=(w.alloc (tbox n A l c B m d n' A' l' c' B' m' d')).alloc rtObj:=⟨_,rfl⟩
 clear o1 o2 b2 hz hq hz' hq' K3 hp hQ hR hS hS2
 go_enter Tryz.func62,Tryz.ntmps62
 go_wp2_with fail
 rw [← hwb] at T K4 HP Hb x0 x1 x2 x3 x4 x5 hl3 ⊢
 clear hwb
 obtain ⟨g1,hg1⟩:∃ g,g=w.heap.size:=⟨_,rfl⟩
 obtain ⟨g3,hg3⟩:∃ g,g=w.heap.size+1:=⟨_,rfl⟩
 rw [← hg1] at T x0 x1 x2 x3 x4 x5
 rw [← hg3] at K4 hl3
 rw [← hg3,← hg1]
 have l1:g1<wb.heap.size:=by omega
 have Hg:=Lib.hid (show w.heap.size≤g3 by omega)
 have ng1:g1≠g3:=by omega
 have ng2:g3≠g1:=by omega
 clear hg1 hg3
 refine (isexact_any T.out.r.hz T.out.r.hq T.out.hz T.out.hq ha hb).mono ?_
 rintro e w1 ⟨rfl,hb1⟩
 replace HP:=Lib.hid (HP.out.below hI hb1);replace T:=Lib.hid (T.out.move hb1);replace K4:=Lib.hid (K4.out.below hb1 K4.out.lt);replace Hb:=Lib.hid (Hb.out.trans ((hb1).mono Hb.out.size))
 clear hb1
 clear x0 x1 x2 x3 x4 x5
 by_cases c0:fcmp r.1 r.2=0
 ·have b1:(fcmp r.1 r.2 == 0)=true:=by rw [c0];rfl
  have ER:=Lib.hid (show R=r by rw [HR.out,if_pos c0])
  clear c0
  have x0:=T.out.r.c0;have x1:=T.out.r.c1;have x2:=T.out.r.c2;have x3:=T.out.c3;have x4:=T.out.c4;have x5:=T.out.c5
  have FX:=Lib.hid (root_fin (r:=r) Hb.out K4.out Hg.out T.out.r.hz T.out.r.hq T.out.hz T.out.hq);rw [← ER.out] at FX;have r0:=(K4.out.cell 0).trans rfl;have r1:=(K4.out.cell 1).trans rfl;have r2:=(K4.out.cell 2).trans rfl;have r3:=(K4.out.cell 3).trans rfl;have r4:=(K4.out.cell 4).trans rfl;have r5:=(K4.out.cell 5).trans rfl;have s0:=K4.out.frozen 0;have s1:=K4.out.frozen 1;have s2:=K4.out.frozen 2;have s3:=K4.out.frozen 3;have s4:=K4.out.frozen 4;have s5:=K4.out.frozen 5;clear K4 Hb;go_wp2_with fail;refine bodyPost_ret (v:=.agg #[.bool n,.slice A l c,.slice B m d,.bool n',.slice A' l' c',.slice B' m' d']) (by simp [results,Tryz.results62,go_sem,r0,r1,r2,r3,r4,r5]) rfl FX.out
 have b1:(fcmp r.1 r.2 == 0)=false:=by rw [beq_eq_false_iff_ne];exact c0
 have hR:=HR.out
 rw [if_neg c0] at hR
 replace HR:=Lib.hid hR
 clear c0 hR
 have x0:=T.out.r.c0;have x1:=T.out.r.c1;have x2:=T.out.r.c2;have x3:=T.out.c3;have x4:=T.out.c4;have x5:=T.out.c5
 go_wp2_with fail
 refine (mid_any _ _ _ _ _ _ _ _ _ _ _ _ _ _ _ _ _ _ _ T.out.r.hz T.out.r.hq T.out.hz T.out.hq ha.fz ha.fq ha.p hb.fz hb.fq hb.p).mono ?_
 rintro e w2 ⟨⟨n5,A5,l5,c5,B5,m5,d5,rfl,h5,k5⟩,hb2⟩
 obtain ⟨M,hM⟩:∃ M,M=r.1.mid r.2:=⟨_,rfl⟩
 have h5':IntN w2 n5 A5 l5 c5 M.z:=by rw [hM];exact h5
 have k5':NatN w2 B5 m5 d5 M.q:=by rw [hM];exact k5
 rw [← hM] at hm pm
 have HM:=Lib.hid hM
 have o5:=below_new w2 (rbox n5 A5 l5 c5 B5 m5 d5)
 have b5:Below w1.heap.size w1 (w2.alloc (rbox n5 A5 l5 c5 B5 m5 d5)):=hb2.trans (o5.mono hb2.size)
 have R5:=Lib.hid (RBox.make h5' k5')
 replace HP:=Lib.hid (HP.out.below hI b5);replace T:=Lib.hid (T.out.move b5);replace K4:=Lib.hid (K4.out.below b5 K4.out.lt);replace Hb:=Lib.hid (Hb.out.trans ((b5).mono Hb.out.size))
 have a0:=R5.out.c0
 have a1:=R5.out.c1
 have a2:=R5.out.c2
 clear hb2 h5 k5 h5' k5' hM o5 b5 x0 x1 x2 x3 x4 x5
 go_wp2_with fail
 refine (signat_any hI _ _ _ Q _ _ _ _ _ _ _ _ _ _ HP.out pm.fit (by omega) R5.out.hz R5.out.hq hm.at.u hm.at.v hm.at.pos pm.ok hm.at.fz hm.at.fq).mono ?_
 rintro e w4 ⟨he,hb4⟩
 have he2:e=.returned (.int .i64 S):=by rw [HS.out,← HM.out];exact he
 subst he2
 clear he a0 a1 a2
 replace HP:=Lib.hid (HP.out.below hI hb4);replace T:=Lib.hid (T.out.move hb4);replace K4:=Lib.hid (K4.out.below hb4 K4.out.lt);replace Hb:=Lib.hid (Hb.out.trans ((hb4).mono Hb.out.size))
 replace R5:=Lib.hid (R5.out.move hb4)
 clear hb4
 by_cases c2:S=0
 ·have b2:(S == 0)=true:=by rw [c2];rfl
  have ER:=Lib.hid (show R=(M.nf,M.nf) by rw [HR.out,← HS.out,if_pos c2,HM.out])
  clear c2
  have a0:=R5.out.c0
  have a1:=R5.out.c1
  have a2:=R5.out.c2
  go_wp2_with fail
  refine (exact_rt R5.out.hz R5.out.hq hm).mono ?_
  rintro e w6 ⟨⟨n6,A6,l6,c6,B6,m6,d6,n7,A7,l7,c7,B7,m7,d7,rfl,h6,k6,h7,k7⟩,hb6⟩
  replace HP:=Lib.hid (HP.out.below hI hb6);replace T:=Lib.hid (T.out.move hb6);replace K4:=Lib.hid (K4.out.below hb6 K4.out.lt);replace Hb:=Lib.hid (Hb.out.trans ((hb6).mono Hb.out.size))
  have H6:=Lib.hid (And.intro (And.intro h6 k6) (And.intro h7 k7))
  clear hb6 h6 k6 h7 k7 R5 a0 a1 a2 T HP
  have FX:=Lib.hid (root_fin (r:=(M.nf,M.nf)) Hb.out K4.out Hg.out H6.out.1.1 H6.out.1.2 H6.out.2.1 H6.out.2.2);rw [← ER.out] at FX;have r0:=(K4.out.cell 0).trans rfl;have r1:=(K4.out.cell 1).trans rfl;have r2:=(K4.out.cell 2).trans rfl;have r3:=(K4.out.cell 3).trans rfl;have r4:=(K4.out.cell 4).trans rfl;have r5:=(K4.out.cell 5).trans rfl;have s0:=K4.out.frozen 0;have s1:=K4.out.frozen 1;have s2:=K4.out.frozen 2;have s3:=K4.out.frozen 3;have s4:=K4.out.frozen 4;have s5:=K4.out.frozen 5;clear K4 Hb;go_wp2_with fail;refine bodyPost_ret (v:=.agg #[.bool n6,.slice A6 l6 c6,.slice B6 m6 d6,.bool n7,.slice A7 l7 c7,.slice B7 m7 d7]) (by simp [results,Tryz.results62,go_sem,r0,r1,r2,r3,r4,r5]) rfl FX.out
 have b2:(S == 0)=false:=by rw [beq_eq_false_iff_ne];exact c2
 have hR:=HR.out
 rw [← HS.out,if_neg c2,← HS2.out,← HM.out] at hR
 replace HR:=Lib.hid hR
 clear c2 hR
 have x0:=T.out.r.c0;have x1:=T.out.r.c1;have x2:=T.out.r.c2;have x3:=T.out.c3;have x4:=T.out.c4;have x5:=T.out.c5
 go_wp2_with fail
 refine (signat_any hI _ _ _ Q _ _ _ _ _ _ _ _ _ _ HP.out pa.fit (by omega) T.out.r.hz T.out.r.hq ha.at.u ha.at.v ha.at.pos pa.ok ha.at.fz ha.at.fq).mono ?_
 rintro e w6 ⟨he,hb6⟩
 have he2:e=.returned (.int .i64 S2):=by rw [HS2.out];exact he
 subst he2
 clear he
 clear x0 x1 x2 x3 x4 x5
 replace HP:=Lib.hid (HP.out.below hI hb6);replace T:=Lib.hid (T.out.move hb6);replace K4:=Lib.hid (K4.out.below hb6 K4.out.lt);replace Hb:=Lib.hid (Hb.out.trans ((hb6).mono Hb.out.size))
 replace R5:=Lib.hid (R5.out.move hb6)
 clear hb6
 by_cases c3:S=S2
 ·have b3:(S == S2)=true:=by rw [c3];simp
  have ER:=Lib.hid (show R=(M,r.2) by rw [HR.out,if_pos c3])
  clear c3
  have x0:=T.out.r.c0;have x1:=T.out.r.c1;have x2:=T.out.r.c2;have x3:=T.out.c3;have x4:=T.out.c4;have x5:=T.out.c5
  have a0:=R5.out.c0
  have a1:=R5.out.c1
  have a2:=R5.out.c2
  have FX:=Lib.hid (root_fin (r:=(M,r.2)) Hb.out K4.out Hg.out R5.out.hz R5.out.hq T.out.hz T.out.hq);rw [← ER.out] at FX;have r0:=(K4.out.cell 0).trans rfl;have r1:=(K4.out.cell 1).trans rfl;have r2:=(K4.out.cell 2).trans rfl;have r3:=(K4.out.cell 3).trans rfl;have r4:=(K4.out.cell 4).trans rfl;have r5:=(K4.out.cell 5).trans rfl;have s0:=K4.out.frozen 0;have s1:=K4.out.frozen 1;have s2:=K4.out.frozen 2;have s3:=K4.out.frozen 3;have s4:=K4.out.frozen 4;have s5:=K4.out.frozen 5;clear K4 Hb;go_wp2_with fail;refine bodyPost_ret (v:=.agg #[.bool n5,.slice A5 l5 c5,.slice B5 m5 d5,.bool n',.slice A' l' c',.slice B' m' d']) (by simp [results,Tryz.results62,go_sem,r0,r1,r2,r3,r4,r5]) rfl FX.out
 ·have b3:(S == S2)=false:=by rw [beq_eq_false_iff_ne];exact c3
  have ER:=Lib.hid (show R=(r.1,M) by rw [HR.out,if_neg c3])
  clear c3
  have x0:=T.out.r.c0;have x1:=T.out.r.c1;have x2:=T.out.r.c2;have x3:=T.out.c3;have x4:=T.out.c4;have x5:=T.out.c5
  have a0:=R5.out.c0
  have a1:=R5.out.c1
  have a2:=R5.out.c2
  have FX:=Lib.hid (root_fin (r:=(r.1,M)) Hb.out K4.out Hg.out T.out.r.hz T.out.r.hq R5.out.hz R5.out.hq);rw [← ER.out] at FX;have r0:=(K4.out.cell 0).trans rfl;have r1:=(K4.out.cell 1).trans rfl;have r2:=(K4.out.cell 2).trans rfl;have r3:=(K4.out.cell 3).trans rfl;have r4:=(K4.out.cell 4).trans rfl;have r5:=(K4.out.cell 5).trans rfl;have s0:=K4.out.frozen 0;have s1:=K4.out.frozen 1;have s2:=K4.out.frozen 2;have s3:=K4.out.frozen 3;have s4:=K4.out.frozen 4;have s5:=K4.out.frozen 5;clear K4 Hb;go_wp2_with fail;refine bodyPost_ret (v:=.agg #[.bool n,.slice A l c,.slice B m d,.bool n5,.slice A5 l5 c5,.slice B5 m5 d5]) (by simp [results,Tryz.results62,go_sem,r0,r1,r2,r3,r4,r5]) rfl FX.out
end Go.Proofs.YtbfddopopajgaabGreat
namespace Go.Proofs.YtbfddopopajgaabGreat
open Go Go.RowKit
def AwE (f g:List Int) (x:Pt) (r:Fq×Fq) (e:Ending) (w:World):Prop:=∃ i s,i≤NN+1∧ASt f x i s∧r.1.v≤s.1.v∧s.2.v≤r.2.v∧Free g s∧RootE s e w
theorem rbk_poly {w w':World} {g:Nat} {n:Bool} {A:Option Addr} {l c:Nat} {B:Option Addr} {m d:Nat} {n':Bool} {A':Option Addr} {l' c':Nat} {B':Option Addr} {m' d':Nat} {s:Fq×Fq} {Ap:Option Addr} {lp cp:Nat} {p:List Int} (hp:PolyN w Ap lp cp p) (hl:2≤p.length) (hk:RBk w g n A l c B m d n' A' l' c' B' m' d' s) (hf:FrS g g w w'):PolyN w' Ap lp cp p:=by
 refine PolyG.frs (g:=g) (g':=g) ⟨hp,?_⟩ hf hk.ndb hk.ndb
 have hlen:=hp.length
 rcases hp.elems with h0 | ⟨b,o,hA,hlt,he⟩
 ·exact .inl h0
 ·refine .inr ⟨b,o,hA,?_⟩
  have hne:b≠g:=fun e=>by
   subst e
   obtain ⟨_,_,_,_,f1,_,_⟩:=he 0 (by omega)
   obtain ⟨_,_,_,_,f2,_,_⟩:=he 1 (by omega)
   rw [hk.k.cell] at f1 f2
   match o,f1,f2 with
   | 0,_,f2=>simp at f2
   | 1,f1,_=>simp at f1
   | 2,f1,_=>simp at f1
   | 3,_,f2=>simp at f2
   | 4,f1,_=>simp at f1
   | 5,f1,_=>simp at f1
   | o+6,f1,_=>simp at f1
  exact ⟨hne,hne⟩
set_option maxRecDepth 100000 in
set_option maxHeartbeats 16000000 in
theorem away_g {w:World} {Ap:Option Addr} {lp cp:Nat} {f:List Int} {Ag:Option Addr} {lg cg:Nat} {g:List Int} {x:Pt} {i0:Nat} {r:Fq×Fq} {n:Bool} {A:Option Addr} {l c:Nat} {B:Option Addr} {m d:Nat} {n':Bool} {A':Option Addr} {l' c':Nat} {B':Option Addr} {m' d':Nat}
 (hp:PolyN w Ap lp cp (qpart f)) (s6:S6 f) (h0:plen f≠0) (hg:PolyN w Ag lg cg g) (hlg:lg≤16) (gfit:FitP g) (gx:sgp g x≠0) (go:AwO f g x) (hz:IntN w n A l c r.1.z) (hq:NatN w B m d r.1.q) (hz':IntN w n' A' l' c' r.2.z) (hq':NatN w B' m' d' r.2.q) (hi0:i0≤NN+1) (ha:ASt f x i0 r) :
 Calls Tryz.prog 57 #[.slice Ap lp cp,.agg #[.bool n,.slice A l c,.slice B m d,.bool n',.slice A' l' c',.slice B' m' d'],.slice Ag lg cg] w fun e w'=>AwE f g x r e w'∧Below w.heap.size w w':=by
 have o1:=below_new w (tbox n A l c B m d n' A' l' c' B' m' d')
 have o2:=below_new (w.alloc (tbox n A l c B m d n' A' l' c' B' m' d')) rtObj
 have b2:Below w.heap.size w ((w.alloc (tbox n A l c B m d n' A' l' c' B' m' d')).alloc rtObj):=o1.alloc (by simp) _
 have KB:=Lib.hid ((RBk.make (s:=r) hz hq hz' hq').move o2)
 have K3:Blk ((w.alloc (tbox n A l c B m d n' A' l' c' B' m' d')).alloc rtObj) (w.alloc (tbox n A l c B m d n' A' l' c' B' m' d')).heap.size 34 rz6:=Blk.new _ _ _
 simp only [World.size_alloc] at K3
 have K4:=Lib.hid K3
 have HG:=Lib.hid (hg.below ikN b2)
 have HP:=Lib.hid hp
 have Hbw:=Lib.hid b2
 have hlp:lp≤6:=by have:=hp.length;have:=s6.qlen;omega
 have f9:=s6.p9
 have gq:=go.q
 have hOl:=go.ol
 have hOt:=go.t
 have hO0:=go.q0
 have hgr:=go.gr
 have hOx:sgp (qpart g) x≠0:=fun e=>gx ((hgr x).2 e)
 have c1:=go.fO
 have c2:=go.fD
 have k1:=go.k1
 have k3:=go.k3
 have k4:=go.k4
 have hat:=go.at_
 have hall:=go.el
 have hfree:=go.free
 have hmore:=go.more
 obtain ⟨O,hO⟩:∃ O,O=qpart g:=⟨_,rfl⟩
 rw [← hO] at hOl hOt hO0 hgr hOx c1 c2 k1 k3 k4 hat hall hfree hmore
 have HOe:=Lib.hid hO
 have HSQ:=Lib.hid (And.intro hOt hO0)
 have HAT:=Lib.hid hat
 have HFR:=Lib.hid hfree
 have HMO:=Lib.hid hmore
 have HGR:=Lib.hid hgr
 have HOX:=Lib.hid hOx
 have HAL:=Lib.hid hall
 have HST0:=Lib.hid ha
 have H0:=Lib.hid h0
 have hQ:∀ x,FqB x→PoOK x.z x.q (qpart f):=fun x hx=>f9.part.at (by have:=s6.qlen;omega) hx.z hx.q
 obtain ⟨Q,hQe⟩:∃ Q,Q=qpart f:=⟨_,rfl⟩
 rw [← hQe] at HP hQ
 have HQe:=Lib.hid hQe
 have HQ:=Lib.hid hQ
 obtain ⟨g1,hg1⟩:∃ g,g=w.heap.size:=⟨_,rfl⟩
 obtain ⟨g3,hg3⟩:∃ g,g=w.heap.size+1:=⟨_,rfl⟩
 obtain ⟨wb,hwb⟩:∃ wb,wb=(w.alloc (tbox n A l c B m d n' A' l' c' B' m' d')).alloc rtObj:=⟨_,rfl⟩
 clear o1 o2 b2 hz hq hz' hq' K3 hp hg hO hgr hOx hall ha h0 hQ hQe gx go hat hfree hmore hOt hO0
 go_enter Tryz.func57,Tryz.ntmps57
 go_wp2_with fail
 rw [← hwb,← hg1] at KB
 rw [← hwb,← hg3] at K4
 rw [← hwb] at HG Hbw ⊢
 rw [← hg3,← hg1]
 have Hg1:=Lib.hid (show w.heap.size≤g1 by omega)
 have Hg3:=Lib.hid (show w.heap.size≤g3 by omega)
 have ng1:g1≠g3:=by omega
 clear hwb hg1 hg3
 refine (part_q ikN _ _ _ g _ HG.out gfit.smp (fun _=>gq) (by omega)).mono ?_
 rintro e w1 ⟨A7,l7,c7,rfl,h7,hb1⟩
 rw [← HOe.out] at h7
 have hl7:l7≤11:=by have:=h7.length;omega
 have HO:=Lib.hid h7
 replace KB:=Lib.hid (KB.out.move hb1)
 replace K4:=Lib.hid (K4.out.below hb1 K4.out.lt)
 replace Hbw:=Lib.hid (Hbw.out.trans (hb1.mono Hbw.out.size))
 clear h7 hb1 HG
 go_wp2_with fail
 refine (sturmof_fr _ _ _ _ _ HO.out c1.smp c2.smp (by omega) 12 k1 (by omega)).mono ?_
 rintro e w2 ⟨⟨A8,l8,c8,rfl,h8⟩,hb2⟩
 have hl8:l8≤13:=by rw [← h8.1.length];exact k4
 have HC:=Lib.hid h8
 have HB8:=Lib.hid (show g1<w1.heap.size from KB.out.k.lt)
 obtain ⟨B8,hB8⟩:∃ B8,B8=w1.heap.size:=⟨_,rfl⟩
 rw [← hB8] at HC HB8
 obtain ⟨PS,hPS⟩:∃ PS,PS=pchain 12 O (pder O):=⟨_,rfl⟩
 rw [← hPS] at HC
 have HPS:=Lib.hid hPS
 have HPl:=Lib.hid (show PS.length=l8 by rw [hPS];exact h8.1.length)
 replace KB:=Lib.hid (KB.out.move hb2)
 replace HO:=Lib.hid (HO.out.below ikN hb2)
 replace K4:=Lib.hid (K4.out.below hb2 K4.out.lt)
 replace Hbw:=Lib.hid (Hbw.out.trans (hb2.mono Hbw.out.size))
 clear h8 hb2 hB8 hPS k1 k3 k4
 go_wp2_with fail
 go_loopg [9] (NN+1-i0) (fun k s9 wr=>∃ i s n A l c B m d n' A' l' c' B' m' d',i+k=NN+1∧ASt f x i s∧r.1.v≤s.1.v∧s.2.v≤r.2.v∧RBk wr g1 n A l c B m d n' A' l' c' B' m' d' s∧PolyN wr A7 l7 c7 O∧ChF B8 wr A8 l8 c8 PS∧Blk wr g3 34 rz6∧Below w.heap.size w wr)
 case atStart=>exact ⟨i0,r,n,A,l,c,B,m,d,n',A',l',c',B',m',d',by omega,HST0.out,Rat.le_refl,Rat.le_refl,KB.out,HO.out,HC.out,K4.out,Hbw.out⟩
 case round =>
  clear KB HO HC K4 Hbw HST0
  obtain ⟨i,s,n,A,l,c,B,m,d,n',A',l',c',B',m',d',hik,hst,w1',w2',hkb,ho,hc,hk4,hbw⟩:=hrel
  have hi1:i≤NN+1:=by omega
  obtain ⟨fa,fb,fm⟩:=hst.fqb f9 H0.out hi1
  have KB:=Lib.hid hkb
  have HO:=Lib.hid ho
  have HC:=Lib.hid hc
  have K4:=Lib.hid hk4
  have Hbw:=Lib.hid hbw
  have HI:=Lib.hid (And.intro hik (And.intro hi1 True.intro))
  have HS:=Lib.hid (And.intro hst (And.intro w1' w2'))
  have fz:=fcmp_zero fa.p fb.p
  have hle:=hst.iso.le
  have FE:=Lib.hid (show fcmp s.1 s.2=0→Free g s from fun e=>Free.congr (hst.iso.free_pt (fz.1 e) HOX.out) HGR.out)
  have hlt:fcmp s.1 s.2≠0→s.1.v<s.2.v:=fun e=>by
   have:s.1.v≠s.2.v:=fun h=>e (fz.2 h)
   grind
  have FC:=Lib.hid (show fcmp s.1 s.2≠0→s.1.sgn O≠0→s.2.sgn O≠0→(((s.1.chg PS:Nat):Int)=((s.2.chg PS:Nat):Int)↔Free O s) from fun e e1 e2=>by
   rw [HPS.out]
   exact HFR.out s fa.p fb.p (hlt e) (by rw [← sgn_pt fa.p];exact e1) (by rw [← sgn_pt fb.p];exact e2))
  have FM:=Lib.hid (show fcmp s.1 s.2≠0→¬ Free O s→i<NN from fun e hn=>HMO.out i s hst (fun h=>e (fz.2 h)) hn)
  have F1:=Lib.hid (show s.1.sgn O=0→¬ Free O s from fun e hf=>by
   rw [sgn_pt fa.p] at e
   rcases hf _ e with h | h
   ·exact Pt.irr _ h
   ·have:s.2.v<s.1.v:=Pt.of_lt_of.1 h
    grind)
  have F2:=Lib.hid (show s.2.sgn O=0→¬ Free O s from fun e hf=>by
   rw [sgn_pt fb.p] at e
   rcases hf _ e with h | h
   ·have:s.2.v<s.1.v:=Pt.of_lt_of.1 h
    grind
   ·exact Pt.irr _ h)
  have po1:=HAT.out s.1 fa
  have po2:=HAT.out s.2 fb
  have el1:∀ p∈PS,PoOK s.1.z s.1.q p:=fun p hp=>HAL.out s.1 fa p (by rw [← HPS.out];exact hp)
  have el2:∀ p∈PS,PoOK s.2.z s.2.q p:=fun p hp=>HAL.out s.2 fb p (by rw [← HPS.out];exact hp)
  have E1:=Lib.hid el1
  have E2:=Lib.hid el2
  have L2:=Lib.hid (show ¬ Free O s→2≤O.length from fun hn=>by
   obtain ⟨y,hy⟩:=Classical.not_forall.1 hn
   obtain ⟨hy,_⟩:=Classical.not_imp.1 hy
   have e1:O.length=plen O:=by rw [← ptrim_length,HSQ.out.1]
   refine Classical.byContradiction fun hc=>?_
   have h2:=sgp_one (p:=O) (by have:=HSQ.out.2;omega) y
   rw [hy] at h2
   exact sg_ne (plead_ne HSQ.out.2) h2.symm)
  obtain ⟨t,ht⟩:∃ t,t=hlf Q s:=⟨_,rfl⟩
  have HN:=Lib.hid (show ASt f x (i+1) t∧Half s t by rw [ht,HQe.out];exact hst.half f9 H0.out)
  have HT:=Lib.hid ht
  clear hik hst w1' w2' hkb ho hc hk4 hbw fz hle hlt el1 el2 ht
  have x0:=KB.out.tb.r.c0;have x1:=KB.out.tb.r.c1;have x2:=KB.out.tb.r.c2;have x3:=KB.out.tb.c3;have x4:=KB.out.tb.c4;have x5:=KB.out.tb.c5
  go_wp2_with fail
  refine (isexact_any (r:=s) KB.out.hz KB.out.hq KB.out.hz' KB.out.hq' fa fb).mono ?_
  rintro e w3 ⟨rfl,hb3⟩
  clear x0 x1 x2 x3 x4 x5
  replace KB:=Lib.hid (KB.out.move hb3);replace HO:=Lib.hid (HO.out.below ikN hb3);replace HC:=Lib.hid (HC.out.below hb3);replace K4:=Lib.hid (K4.out.below hb3 K4.out.lt);replace Hbw:=Lib.hid (Hbw.out.trans ((hb3).mono Hbw.out.size))
  clear hb3
  by_cases c0:fcmp s.1 s.2=0
  ·have b1:(fcmp s.1 s.2 == 0)=true:=by rw [c0];rfl
   have FR:=Lib.hid (FE.out c0)
   clear c0
   have FX:=Lib.hid (root_fin (r:=s) Hbw.out K4.out Hg3.out KB.out.hz KB.out.hq KB.out.hz' KB.out.hq');have r0:=(K4.out.cell 0).trans rfl;have r1:=(K4.out.cell 1).trans rfl;have r2:=(K4.out.cell 2).trans rfl;have r3:=(K4.out.cell 3).trans rfl;have r4:=(K4.out.cell 4).trans rfl;have r5:=(K4.out.cell 5).trans rfl;have s0:=K4.out.frozen 0;have s1:=K4.out.frozen 1;have s2:=K4.out.frozen 2;have s3:=K4.out.frozen 3;have s4:=K4.out.frozen 4;have s5:=K4.out.frozen 5;have x0:=KB.out.tb.r.c0;have x1:=KB.out.tb.r.c1;have x2:=KB.out.tb.r.c2;have x3:=KB.out.tb.c3;have x4:=KB.out.tb.c4;have x5:=KB.out.tb.c5;clear K4 KB HO HC Hbw;go_wp2_with fail;refine bodyPost_ret (v:=.agg #[.bool n,.slice A l c,.slice B m d,.bool n',.slice A' l' c',.slice B' m' d']) (by simp [results,Tryz.results57,go_sem,r0,r1,r2,r3,r4,r5]) rfl ⟨⟨i,s,HI.out.2.1,HS.out.1,HS.out.2.1,HS.out.2.2,FR.out,FX.out.1⟩,FX.out.2⟩
  have b1:(fcmp s.1 s.2 == 0)=false:=by rw [beq_eq_false_iff_ne];exact c0
  replace FC:=Lib.hid (FC.out c0)
  replace FM:=Lib.hid (FM.out c0)
  clear c0 FE
  have x0:=KB.out.tb.r.c0;have x1:=KB.out.tb.r.c1;have x2:=KB.out.tb.r.c2;have x3:=KB.out.tb.c3;have x4:=KB.out.tb.c4;have x5:=KB.out.tb.c5
  obtain ⟨S1,hS1⟩:∃ S,S=s.1.sgn O:=⟨_,rfl⟩
  obtain ⟨S2,hS2⟩:∃ S,S=s.2.sgn O:=⟨_,rfl⟩
  have HS1:=Lib.hid hS1
  have HS2:=Lib.hid hS2
  clear hS1 hS2
  go_wp2_with fail
  refine (signat_any ikN _ _ _ O _ _ _ _ _ _ _ _ _ _ HO.out po1.fit (by omega) KB.out.hz KB.out.hq fa.at.u fa.at.v fa.at.pos po1.ok fa.at.fz fa.at.fq).mono ?_
  rintro e w4 ⟨he,hb4⟩
  have he2:e=.returned (.int .i64 S1):=by rw [HS1.out];exact he
  subst he2
  clear x0 x1 x2 x3 x4 x5
  replace KB:=Lib.hid (KB.out.move hb4);replace HO:=Lib.hid (HO.out.below ikN hb4);replace HC:=Lib.hid (HC.out.below hb4);replace K4:=Lib.hid (K4.out.below hb4 K4.out.lt);replace Hbw:=Lib.hid (Hbw.out.trans ((hb4).mono Hbw.out.size))
  clear he hb4
  by_cases e1:S1=0
  ·have NF:=Lib.hid (F1.out (by rw [← HS1.out];exact e1))
   have b2:(S1 != 0)=false:=by rw [e1];rfl
   clear e1 F1 F2 FC E1 E2
   have x0:=KB.out.tb.r.c0;have x1:=KB.out.tb.r.c1;have x2:=KB.out.tb.r.c2;have x3:=KB.out.tb.c3;have x4:=KB.out.tb.c4;have x5:=KB.out.tb.c5
   go_wp2_with fail
   refine wp_region_held_drew (S:=(fun w'=>w'.cell? ⟨g1,0,none⟩=some (.bool n)∧w'.cell? ⟨g1,1,none⟩=some (.slice A l c)∧w'.cell? ⟨g1,2,none⟩=some (.slice B m d)∧w'.cell? ⟨g1,3,none⟩=some (.bool n')∧w'.cell? ⟨g1,4,none⟩=some (.slice A' l' c')∧w'.cell? ⟨g1,5,none⟩=some (.slice B' m' d'))) (by kernel_rfl) (by (try dsimp only);go_keep) (fun hHeld=>?_);(refine tk (i:=0) (v:=?_) rfl rfl (Or.inl ⟨by rfl,?_⟩) ?_;rotate_left;(focus (intro w hSw;(try dsimp only at hSw);go_simp;(try with_reducible rfl)));(simp only [put_lit,List.set]));(refine tk (i:=1) (v:=?_) rfl rfl (Or.inl ⟨by rfl,?_⟩) ?_;rotate_left;(focus (intro w hSw;(try dsimp only at hSw);go_simp;(try with_reducible rfl)));(simp only [put_lit,List.set]));(refine take_at (i:=2) (oi:=_) (v:=undef) rfl rfl (by kernel_rfl) (by kernel_rfl) (by kernel_rfl) (fun _ _ _ h=>h) (Or.inr ⟨by rfl,rfl⟩) (by assumption) ?_;(simp only [put_lit,List.set]));(refine take_at (i:=3) (oi:=_) (v:=undef) rfl rfl (by kernel_rfl) (by kernel_rfl) (by kernel_rfl) (fun _ _ _ h=>h) (Or.inr ⟨by rfl,rfl⟩) (by assumption) ?_;(simp only [put_lit,List.set]));(refine take_at (i:=4) (oi:=_) (v:=undef) rfl rfl (by kernel_rfl) (by kernel_rfl) (by kernel_rfl) (fun _ _ _ h=>h) (Or.inr ⟨by rfl,rfl⟩) (by assumption) ?_;(simp only [put_lit,List.set]));(refine take_at (i:=5) (oi:=_) (v:=undef) rfl rfl (by kernel_rfl) (by kernel_rfl) (by kernel_rfl) (fun _ _ _ h=>h) (Or.inr ⟨by rfl,rfl⟩) (by assumption) ?_;(simp only [put_lit,List.set]));(refine take_at (i:=6) (oi:=_) (v:=undef) rfl rfl (by kernel_rfl) (by kernel_rfl) (by kernel_rfl) (fun _ _ _ h=>h) (Or.inr ⟨by rfl,rfl⟩) (by assumption) ?_;(simp only [put_lit,List.set]));(refine take_at (i:=7) (oi:=_) (v:=undef) rfl rfl (by kernel_rfl) (by kernel_rfl) (by kernel_rfl) (fun _ _ _ h=>h) (Or.inr ⟨by rfl,rfl⟩) (by assumption) ?_;(simp only [put_lit,List.set]));(refine take_at (i:=8) (oi:=_) (v:=undef) rfl rfl (by kernel_rfl) (by kernel_rfl) (by kernel_rfl) (fun _ _ _ h=>h) (Or.inr ⟨by rfl,rfl⟩) (by assumption) ?_;(simp only [put_lit,List.set]));(refine take_at (i:=9) (oi:=_) (v:=undef) rfl rfl (by kernel_rfl) (by kernel_rfl) (by kernel_rfl) (fun _ _ _ h=>h) (Or.inr ⟨by rfl,rfl⟩) (by assumption) ?_;(simp only [put_lit,List.set]));(refine take_at (i:=10) (oi:=_) (v:=undef) rfl rfl (by kernel_rfl) (by kernel_rfl) (by kernel_rfl) (fun _ _ _ h=>h) (Or.inr ⟨by rfl,rfl⟩) (by assumption) ?_;(simp only [put_lit,List.set]));(refine tk (i:=11) (v:=?_) rfl rfl (Or.inl ⟨by rfl,?_⟩) ?_;rotate_left;(focus (intro w hSw;(try dsimp only at hSw);go_simp;(try with_reducible rfl)));(simp only [put_lit,List.set]));refine wpAnyH_done (by kernel_rfl) ?_ _;clear hHeld;clear x0 x1 x2 x3 x4 x5
   have jd:=(Below.refl w4.heap.size w4).drew
   replace KB:=Lib.hid (KB.out.move jd);replace HO:=Lib.hid (HO.out.below ikN jd);replace HC:=Lib.hid (HC.out.below jd);replace K4:=Lib.hid (K4.out.below jd K4.out.lt);replace Hbw:=Lib.hid (Hbw.out.trans ((jd).mono Hbw.out.size))
   clear jd
   have HM:=Lib.hid (FM.out NF.out);have HL2:=Lib.hid (L2.out NF.out);have x0:=KB.out.tb.r.c0;have x1:=KB.out.tb.r.c1;have x2:=KB.out.tb.r.c2;have x3:=KB.out.tb.c3;have x4:=KB.out.tb.c4;have x5:=KB.out.tb.c5;go_wp2_with fail;refine (half_any ikN (r:=s) (HP.out.below ikN Hbw.out) (by omega) HQ.out KB.out.hz KB.out.hq KB.out.hz' KB.out.hq' fa fb fm).mono ?_;rintro e w9 ⟨he,hb9⟩;rw [← HT.out] at he;obtain ⟨n5,A5,l5,c5,B5,m5,d5,n6,A6,l6,c6,B6,m6,d6,rfl,z1,z2,z3,z4⟩:=he;clear x0 x1 x2 x3 x4 x5;replace KB:=Lib.hid (KB.out.move hb9);replace HO:=Lib.hid (HO.out.below ikN hb9);replace HC:=Lib.hid (HC.out.below hb9);replace K4:=Lib.hid (K4.out.below hb9 K4.out.lt);replace Hbw:=Lib.hid (Hbw.out.trans ((hb9).mono Hbw.out.size));clear hb9;have hf:=pu6_frs w9 g1 (.bool n5) (.slice A5 l5 c5) (.slice B5 m5 d5) (.bool n6) (.slice A6 l6 c6) (.slice B6 m6 d6);have R1:=Lib.hid (KB.out.put z1 z2 z3 z4);have R2:=Lib.hid (rbk_poly HO.out HL2.out KB.out hf);have R3:=Lib.hid (HC.out.off hf KB.out.ndb HB8.out);have R4:=Lib.hid (show Blk (pu6 w9 g1 (.bool n5) (.slice A5 l5 c5) (.slice B5 m5 d5) (.bool n6) (.slice A6 l6 c6) (.slice B6 m6 d6)) g3 34 rz6 from (hf.same g3 K4.out.lt (by omega) (by omega)).trans K4.out);have R5:=Lib.hid (hf.mono Hbw.out Hg1.out Hg1.out Hbw.out.size);have x0:=KB.out.tb.r.c0;have x1:=KB.out.tb.r.c1;have x2:=KB.out.tb.r.c2;have x3:=KB.out.tb.c3;have x4:=KB.out.tb.c4;have x5:=KB.out.tb.c5;have s0:=KB.out.k.frozen 0;have s1:=KB.out.k.frozen 1;have s2:=KB.out.k.frozen 2;have s3:=KB.out.k.frozen 3;have s4:=KB.out.k.frozen 4;have s5:=KB.out.k.frozen 5;clear hf z1 z2 z3 z4 KB HO HC K4 Hbw;go_wp2_with fail;go_roundg (gk-1);(case rel=>exact ⟨i+1,t,n5,A5,l5,c5,B5,m5,d5,n6,A6,l6,c6,B6,m6,d6,by have:=HI.out.1;have:=HM.out;omega,HN.out.1,Rat.le_trans HS.out.2.1 HN.out.2.lo,Rat.le_trans HN.out.2.hi HS.out.2.2,R1.out,R2.out,R3.out,R4.out,R5.out⟩);(case measure=>have:=HI.out.1;have:=HM.out;omega)
  have b2:(S1 != 0)=true:=by rw [bne_iff_ne];exact e1
  have N1:=Lib.hid (show s.1.sgn O≠0 by rw [← HS1.out];exact e1)
  clear e1
  have x0:=KB.out.tb.r.c0;have x1:=KB.out.tb.r.c1;have x2:=KB.out.tb.r.c2;have x3:=KB.out.tb.c3;have x4:=KB.out.tb.c4;have x5:=KB.out.tb.c5
  go_wp2_with fail
  refine (signat_any ikN _ _ _ O _ _ _ _ _ _ _ _ _ _ HO.out po2.fit (by omega) KB.out.hz' KB.out.hq' fb.at.u fb.at.v fb.at.pos po2.ok fb.at.fz fb.at.fq).mono ?_
  rintro e w5 ⟨he,hb5⟩
  have he2:e=.returned (.int .i64 S2):=by rw [HS2.out];exact he
  subst he2
  clear x0 x1 x2 x3 x4 x5
  replace KB:=Lib.hid (KB.out.move hb5);replace HO:=Lib.hid (HO.out.below ikN hb5);replace HC:=Lib.hid (HC.out.below hb5);replace K4:=Lib.hid (K4.out.below hb5 K4.out.lt);replace Hbw:=Lib.hid (Hbw.out.trans ((hb5).mono Hbw.out.size))
  clear he hb5
  by_cases e2:S2=0
  ·have NF:=Lib.hid (F2.out (by rw [← HS2.out];exact e2))
   have b3:(S2 != 0)=false:=by rw [e2];rfl
   clear e2 F1 F2 FC E1 E2
   have x0:=KB.out.tb.r.c0;have x1:=KB.out.tb.r.c1;have x2:=KB.out.tb.r.c2;have x3:=KB.out.tb.c3;have x4:=KB.out.tb.c4;have x5:=KB.out.tb.c5
   go_wp2_with fail
   refine wp_region_held_drew (S:=(fun w'=>w'.cell? ⟨g1,0,none⟩=some (.bool n)∧w'.cell? ⟨g1,1,none⟩=some (.slice A l c)∧w'.cell? ⟨g1,2,none⟩=some (.slice B m d)∧w'.cell? ⟨g1,3,none⟩=some (.bool n')∧w'.cell? ⟨g1,4,none⟩=some (.slice A' l' c')∧w'.cell? ⟨g1,5,none⟩=some (.slice B' m' d'))) (by kernel_rfl) (by (try dsimp only);go_keep) (fun hHeld=>?_);(refine tk (i:=0) (v:=?_) rfl rfl (Or.inl ⟨by rfl,?_⟩) ?_;rotate_left;(focus (intro w hSw;(try dsimp only at hSw);go_simp;(try with_reducible rfl)));(simp only [put_lit,List.set]));(refine tk (i:=1) (v:=?_) rfl rfl (Or.inl ⟨by rfl,?_⟩) ?_;rotate_left;(focus (intro w hSw;(try dsimp only at hSw);go_simp;(try with_reducible rfl)));(simp only [put_lit,List.set]));(refine take_at (i:=2) (oi:=_) (v:=undef) rfl rfl (by kernel_rfl) (by kernel_rfl) (by kernel_rfl) (fun _ _ _ h=>h) (Or.inr ⟨by rfl,rfl⟩) (by assumption) ?_;(simp only [put_lit,List.set]));(refine take_at (i:=3) (oi:=_) (v:=undef) rfl rfl (by kernel_rfl) (by kernel_rfl) (by kernel_rfl) (fun _ _ _ h=>h) (Or.inr ⟨by rfl,rfl⟩) (by assumption) ?_;(simp only [put_lit,List.set]));(refine take_at (i:=4) (oi:=_) (v:=undef) rfl rfl (by kernel_rfl) (by kernel_rfl) (by kernel_rfl) (fun _ _ _ h=>h) (Or.inr ⟨by rfl,rfl⟩) (by assumption) ?_;(simp only [put_lit,List.set]));(refine take_at (i:=5) (oi:=_) (v:=undef) rfl rfl (by kernel_rfl) (by kernel_rfl) (by kernel_rfl) (fun _ _ _ h=>h) (Or.inr ⟨by rfl,rfl⟩) (by assumption) ?_;(simp only [put_lit,List.set]));(refine take_at (i:=6) (oi:=_) (v:=undef) rfl rfl (by kernel_rfl) (by kernel_rfl) (by kernel_rfl) (fun _ _ _ h=>h) (Or.inr ⟨by rfl,rfl⟩) (by assumption) ?_;(simp only [put_lit,List.set]));(refine take_at (i:=7) (oi:=_) (v:=undef) rfl rfl (by kernel_rfl) (by kernel_rfl) (by kernel_rfl) (fun _ _ _ h=>h) (Or.inr ⟨by rfl,rfl⟩) (by assumption) ?_;(simp only [put_lit,List.set]));(refine take_at (i:=8) (oi:=_) (v:=undef) rfl rfl (by kernel_rfl) (by kernel_rfl) (by kernel_rfl) (fun _ _ _ h=>h) (Or.inr ⟨by rfl,rfl⟩) (by assumption) ?_;(simp only [put_lit,List.set]));(refine take_at (i:=9) (oi:=_) (v:=undef) rfl rfl (by kernel_rfl) (by kernel_rfl) (by kernel_rfl) (fun _ _ _ h=>h) (Or.inr ⟨by rfl,rfl⟩) (by assumption) ?_;(simp only [put_lit,List.set]));(refine take_at (i:=10) (oi:=_) (v:=undef) rfl rfl (by kernel_rfl) (by kernel_rfl) (by kernel_rfl) (fun _ _ _ h=>h) (Or.inr ⟨by rfl,rfl⟩) (by assumption) ?_;(simp only [put_lit,List.set]));(refine tk (i:=11) (v:=?_) rfl rfl (Or.inl ⟨by rfl,?_⟩) ?_;rotate_left;(focus (intro w hSw;(try dsimp only at hSw);go_simp;(try with_reducible rfl)));(simp only [put_lit,List.set]));refine wpAnyH_done (by kernel_rfl) ?_ _;clear hHeld;clear x0 x1 x2 x3 x4 x5
   have jd:=(Below.refl w5.heap.size w5).drew
   replace KB:=Lib.hid (KB.out.move jd);replace HO:=Lib.hid (HO.out.below ikN jd);replace HC:=Lib.hid (HC.out.below jd);replace K4:=Lib.hid (K4.out.below jd K4.out.lt);replace Hbw:=Lib.hid (Hbw.out.trans ((jd).mono Hbw.out.size))
   clear jd
   have HM:=Lib.hid (FM.out NF.out);have HL2:=Lib.hid (L2.out NF.out);have x0:=KB.out.tb.r.c0;have x1:=KB.out.tb.r.c1;have x2:=KB.out.tb.r.c2;have x3:=KB.out.tb.c3;have x4:=KB.out.tb.c4;have x5:=KB.out.tb.c5;go_wp2_with fail;refine (half_any ikN (r:=s) (HP.out.below ikN Hbw.out) (by omega) HQ.out KB.out.hz KB.out.hq KB.out.hz' KB.out.hq' fa fb fm).mono ?_;rintro e w9 ⟨he,hb9⟩;rw [← HT.out] at he;obtain ⟨n5,A5,l5,c5,B5,m5,d5,n6,A6,l6,c6,B6,m6,d6,rfl,z1,z2,z3,z4⟩:=he;clear x0 x1 x2 x3 x4 x5;replace KB:=Lib.hid (KB.out.move hb9);replace HO:=Lib.hid (HO.out.below ikN hb9);replace HC:=Lib.hid (HC.out.below hb9);replace K4:=Lib.hid (K4.out.below hb9 K4.out.lt);replace Hbw:=Lib.hid (Hbw.out.trans ((hb9).mono Hbw.out.size));clear hb9;have hf:=pu6_frs w9 g1 (.bool n5) (.slice A5 l5 c5) (.slice B5 m5 d5) (.bool n6) (.slice A6 l6 c6) (.slice B6 m6 d6);have R1:=Lib.hid (KB.out.put z1 z2 z3 z4);have R2:=Lib.hid (rbk_poly HO.out HL2.out KB.out hf);have R3:=Lib.hid (HC.out.off hf KB.out.ndb HB8.out);have R4:=Lib.hid (show Blk (pu6 w9 g1 (.bool n5) (.slice A5 l5 c5) (.slice B5 m5 d5) (.bool n6) (.slice A6 l6 c6) (.slice B6 m6 d6)) g3 34 rz6 from (hf.same g3 K4.out.lt (by omega) (by omega)).trans K4.out);have R5:=Lib.hid (hf.mono Hbw.out Hg1.out Hg1.out Hbw.out.size);have x0:=KB.out.tb.r.c0;have x1:=KB.out.tb.r.c1;have x2:=KB.out.tb.r.c2;have x3:=KB.out.tb.c3;have x4:=KB.out.tb.c4;have x5:=KB.out.tb.c5;have s0:=KB.out.k.frozen 0;have s1:=KB.out.k.frozen 1;have s2:=KB.out.k.frozen 2;have s3:=KB.out.k.frozen 3;have s4:=KB.out.k.frozen 4;have s5:=KB.out.k.frozen 5;clear hf z1 z2 z3 z4 KB HO HC K4 Hbw;go_wp2_with fail;go_roundg (gk-1);(case rel=>exact ⟨i+1,t,n5,A5,l5,c5,B5,m5,d5,n6,A6,l6,c6,B6,m6,d6,by have:=HI.out.1;have:=HM.out;omega,HN.out.1,Rat.le_trans HS.out.2.1 HN.out.2.lo,Rat.le_trans HN.out.2.hi HS.out.2.2,R1.out,R2.out,R3.out,R4.out,R5.out⟩);(case measure=>have:=HI.out.1;have:=HM.out;omega)
  have b3:(S2 != 0)=true:=by rw [bne_iff_ne];exact e2
  replace FC:=Lib.hid (FC.out N1.out (by rw [← HS2.out];exact e2))
  clear e2 F1 F2 N1
  obtain ⟨wk,hwk⟩:∃ wk,wk=w5:=⟨_,rfl⟩
  rw [← hwk] at KB HO HC K4 Hbw ⊢
  clear hwk
  obtain ⟨C1,hC1⟩:∃ C,C=s.1.chg PS:=⟨_,rfl⟩
  obtain ⟨C2,hC2⟩:∃ C,C=s.2.chg PS:=⟨_,rfl⟩
  have FC':=FC.out
  rw [← hC1,← hC2] at FC'
  replace FC:=Lib.hid FC'
  have HC1:=Lib.hid (show (vst (PS.map (sat s.1.z s.1.q)) l8).1=C1 by rw [hC1,← HPl.out];rfl)
  have HC2:=Lib.hid (show (vst (PS.map (sat s.2.z s.2.q)) l8).1=C2 by rw [hC2,← HPl.out];rfl)
  clear hC1 hC2 FC'
  have l1:=KB.out.k.lt
  have x0:=KB.out.tb.r.c0;have x1:=KB.out.tb.r.c1;have x2:=KB.out.tb.r.c2;have x3:=KB.out.tb.c3;have x4:=KB.out.tb.c4;have x5:=KB.out.tb.c5
  go_wp2_with fail
  refine wp_region_held_drew (S:=(fun w'=>w'.cell? ⟨g1,0,none⟩=some (.bool n)∧w'.cell? ⟨g1,1,none⟩=some (.slice A l c)∧w'.cell? ⟨g1,2,none⟩=some (.slice B m d)∧w'.cell? ⟨g1,3,none⟩=some (.bool n')∧w'.cell? ⟨g1,4,none⟩=some (.slice A' l' c')∧w'.cell? ⟨g1,5,none⟩=some (.slice B' m' d'))) (by kernel_rfl) (by (try dsimp only);go_keep) (fun hHeld=>?_)
  (refine tk (i:=0) (v:=?_) rfl rfl (Or.inl ⟨by rfl,?_⟩) ?_;rotate_left;(focus (intro w hSw;(try dsimp only at hSw);go_simp;(try with_reducible rfl)));(simp only [put_lit,List.set]))
  (refine tk (i:=1) (v:=?_) rfl rfl (Or.inl ⟨by rfl,?_⟩) ?_;rotate_left;(focus (intro w hSw;(try dsimp only at hSw);go_simp;(try with_reducible rfl)));(simp only [put_lit,List.set]))
  (refine tk (i:=2) (v:=?_) rfl rfl (Or.inl ⟨by rfl,?_⟩) ?_;rotate_left;(focus (intro w hSw;(try dsimp only at hSw);go_simp;(try with_reducible rfl)));(simp only [put_lit,List.set]))
  (refine tk (i:=3) (v:=?_) rfl rfl (Or.inl ⟨by rfl,?_⟩) ?_;rotate_left;(focus (intro w hSw;(try dsimp only at hSw);go_simp;(try with_reducible rfl)));(simp only [put_lit,List.set]))
  (refine tk (i:=4) (v:=?_) rfl rfl (Or.inl ⟨by rfl,?_⟩) ?_;rotate_left;(focus (intro w hSw;(try dsimp only at hSw);go_simp;(try with_reducible rfl)));(simp only [put_lit,List.set]))
  (refine tk (i:=6) (v:=?_) rfl rfl (Or.inl ⟨by rfl,?_⟩) ?_;rotate_left;(focus (intro w hSw;(try dsimp only at hSw);go_simp;(try with_reducible rfl)));(simp only [put_lit,List.set]))
  (refine tk (i:=7) (v:=?_) rfl rfl (Or.inl ⟨by rfl,?_⟩) ?_;rotate_left;(focus (intro w hSw;(try dsimp only at hSw);go_simp;(try with_reducible rfl)));(simp only [put_lit,List.set]))
  (refine tk (i:=8) (v:=?_) rfl rfl (Or.inl ⟨by rfl,?_⟩) ?_;rotate_left;(focus (intro w hSw;(try dsimp only at hSw);go_simp;(try with_reducible rfl)));(simp only [put_lit,List.set]))
  (refine wpAnyH_ready (rs:=[5]) (by kernel_rfl) (by simp) ?_;refine AllReadyH.cons rfl (fun K hK=>?_) AllReadyH.nil;go_simp)
  refine (vars_any _ _ _ PS _ _ _ _ _ _ _ s.1.q s.1.z _ (HC.out.plst.below Bel.go) (KB.out.hz.below Bel.go) (KB.out.hq.below Bel.go) fa.at E1.out (by omega)).mono ?_
  rintro e w6 ⟨he,hb6⟩
  rw [HC1.out] at he
  subst he
  have G6':=Lib.hid ((Below.trans Bel.go (hb6.mono (by simp<;>omega))):Below wk.heap.size wk w6)
  obtain ⟨hcx,hfx⟩:=bcellS hb6;refine hK.out _ _ ?_ (fun _=>?_);(focus (((try dsimp only);repeat' apply And.intro)<;>(rw [hcx _ (by go_simp)];go_simp)));clear hHeld hK K hcx hfx;rename_i hHeld;clear hb6
  (refine wpAnyH_ready (rs:=[9]) (by kernel_rfl) (by simp) ?_;refine AllReadyH.cons rfl (fun K hK=>?_) AllReadyH.nil;go_simp)
  refine (vars_any _ _ _ PS _ _ _ _ _ _ _ s.2.q s.2.z _ ((HC.out.plst.below G6'.out).below Bel.go) ((KB.out.hz'.below G6'.out).below Bel.go) ((KB.out.hq'.below G6'.out).below Bel.go) fb.at E2.out (by omega)).mono ?_
  rintro e w7 ⟨he,hb7⟩
  rw [HC2.out] at he
  subst he
  have G7:=Lib.hid (G6'.out.trans (((Below.trans Bel.go (hb7.mono (by simp<;>omega))):Below w6.heap.size w6 w7).mono G6'.out.size))
  obtain ⟨hcx,hfx⟩:=bcellS hb7;refine hK.out _ _ ?_ (fun _=>?_);(focus (((try dsimp only);repeat' apply And.intro)<;>(rw [hcx _ (by go_simp)];go_simp)));clear hHeld hK K hcx hfx;rename_i hHeld;clear hb7
  by_cases e3:((C1:Nat):Int)=((C2:Nat):Int)
  ·have b4:(((C1:Nat):Int) == ((C2:Nat):Int))=true:=by rw [e3];simp
   have FR:=Lib.hid (Free.congr (FC.out.1 e3) HGR.out)
   clear e3
   (refine tk (i:=10) (v:=?_) rfl rfl (Or.inl ⟨by rfl,?_⟩) ?_;rotate_left;(focus (intro w hSw;(try dsimp only at hSw);go_simp;(try with_reducible rfl)));(simp only [put_lit,List.set]))
   (refine tk (i:=11) (v:=?_) rfl rfl (Or.inl ⟨by rfl,?_⟩) ?_;rotate_left;(focus (intro w hSw;(try dsimp only at hSw);go_simp;(try with_reducible rfl)));(simp only [put_lit,List.set]))
   refine wpAnyH_done (by kernel_rfl) ?_ _
   replace KB:=Lib.hid (KB.out.move G7.out);replace HO:=Lib.hid (HO.out.below ikN G7.out);replace HC:=Lib.hid (HC.out.below G7.out);replace K4:=Lib.hid (K4.out.below G7.out K4.out.lt);replace Hbw:=Lib.hid (Hbw.out.trans ((G7.out).mono Hbw.out.size))
   clear hHeld G6' G7
   clear x0 x1 x2 x3 x4 x5
   have FX:=Lib.hid (root_fin (r:=s) Hbw.out K4.out Hg3.out KB.out.hz KB.out.hq KB.out.hz' KB.out.hq');have r0:=(K4.out.cell 0).trans rfl;have r1:=(K4.out.cell 1).trans rfl;have r2:=(K4.out.cell 2).trans rfl;have r3:=(K4.out.cell 3).trans rfl;have r4:=(K4.out.cell 4).trans rfl;have r5:=(K4.out.cell 5).trans rfl;have s0:=K4.out.frozen 0;have s1:=K4.out.frozen 1;have s2:=K4.out.frozen 2;have s3:=K4.out.frozen 3;have s4:=K4.out.frozen 4;have s5:=K4.out.frozen 5;have x0:=KB.out.tb.r.c0;have x1:=KB.out.tb.r.c1;have x2:=KB.out.tb.r.c2;have x3:=KB.out.tb.c3;have x4:=KB.out.tb.c4;have x5:=KB.out.tb.c5;clear K4 KB HO HC Hbw;go_wp2_with fail;refine bodyPost_ret (v:=.agg #[.bool n,.slice A l c,.slice B m d,.bool n',.slice A' l' c',.slice B' m' d']) (by simp [results,Tryz.results57,go_sem,r0,r1,r2,r3,r4,r5]) rfl ⟨⟨i,s,HI.out.2.1,HS.out.1,HS.out.2.1,HS.out.2.2,FR.out,FX.out.1⟩,FX.out.2⟩
  ·have b4:(((C1:Nat):Int) == ((C2:Nat):Int))=false:=by rw [beq_eq_false_iff_ne];exact e3
   have NF:=Lib.hid (fun h=>e3 (FC.out.2 h))
   clear e3
   (refine tk (i:=10) (v:=?_) rfl rfl (Or.inl ⟨by rfl,?_⟩) ?_;rotate_left;(focus (intro w hSw;(try dsimp only at hSw);go_simp;(try with_reducible rfl)));(simp only [put_lit,List.set]))
   (refine tk (i:=11) (v:=?_) rfl rfl (Or.inl ⟨by rfl,?_⟩) ?_;rotate_left;(focus (intro w hSw;(try dsimp only at hSw);go_simp;(try with_reducible rfl)));(simp only [put_lit,List.set]))
   refine wpAnyH_done (by kernel_rfl) ?_ _
   replace KB:=Lib.hid (KB.out.move G7.out);replace HO:=Lib.hid (HO.out.below ikN G7.out);replace HC:=Lib.hid (HC.out.below G7.out);replace K4:=Lib.hid (K4.out.below G7.out K4.out.lt);replace Hbw:=Lib.hid (Hbw.out.trans ((G7.out).mono Hbw.out.size))
   clear hHeld G6' G7
   clear x0 x1 x2 x3 x4 x5
   have HM:=Lib.hid (FM.out NF.out);have HL2:=Lib.hid (L2.out NF.out);have x0:=KB.out.tb.r.c0;have x1:=KB.out.tb.r.c1;have x2:=KB.out.tb.r.c2;have x3:=KB.out.tb.c3;have x4:=KB.out.tb.c4;have x5:=KB.out.tb.c5;go_wp2_with fail;refine (half_any ikN (r:=s) (HP.out.below ikN Hbw.out) (by omega) HQ.out KB.out.hz KB.out.hq KB.out.hz' KB.out.hq' fa fb fm).mono ?_;rintro e w9 ⟨he,hb9⟩;rw [← HT.out] at he;obtain ⟨n5,A5,l5,c5,B5,m5,d5,n6,A6,l6,c6,B6,m6,d6,rfl,z1,z2,z3,z4⟩:=he;clear x0 x1 x2 x3 x4 x5;replace KB:=Lib.hid (KB.out.move hb9);replace HO:=Lib.hid (HO.out.below ikN hb9);replace HC:=Lib.hid (HC.out.below hb9);replace K4:=Lib.hid (K4.out.below hb9 K4.out.lt);replace Hbw:=Lib.hid (Hbw.out.trans ((hb9).mono Hbw.out.size));clear hb9;have hf:=pu6_frs w9 g1 (.bool n5) (.slice A5 l5 c5) (.slice B5 m5 d5) (.bool n6) (.slice A6 l6 c6) (.slice B6 m6 d6);have R1:=Lib.hid (KB.out.put z1 z2 z3 z4);have R2:=Lib.hid (rbk_poly HO.out HL2.out KB.out hf);have R3:=Lib.hid (HC.out.off hf KB.out.ndb HB8.out);have R4:=Lib.hid (show Blk (pu6 w9 g1 (.bool n5) (.slice A5 l5 c5) (.slice B5 m5 d5) (.bool n6) (.slice A6 l6 c6) (.slice B6 m6 d6)) g3 34 rz6 from (hf.same g3 K4.out.lt (by omega) (by omega)).trans K4.out);have R5:=Lib.hid (hf.mono Hbw.out Hg1.out Hg1.out Hbw.out.size);have x0:=KB.out.tb.r.c0;have x1:=KB.out.tb.r.c1;have x2:=KB.out.tb.r.c2;have x3:=KB.out.tb.c3;have x4:=KB.out.tb.c4;have x5:=KB.out.tb.c5;have s0:=KB.out.k.frozen 0;have s1:=KB.out.k.frozen 1;have s2:=KB.out.k.frozen 2;have s3:=KB.out.k.frozen 3;have s4:=KB.out.k.frozen 4;have s5:=KB.out.k.frozen 5;clear hf z1 z2 z3 z4 KB HO HC K4 Hbw;go_wp2_with fail;go_roundg (gk-1);(case rel=>exact ⟨i+1,t,n5,A5,l5,c5,B5,m5,d5,n6,A6,l6,c6,B6,m6,d6,by have:=HI.out.1;have:=HM.out;omega,HN.out.1,Rat.le_trans HS.out.2.1 HN.out.2.lo,Rat.le_trans HN.out.2.hi HS.out.2.2,R1.out,R2.out,R3.out,R4.out,R5.out⟩);(case measure=>have:=HI.out.1;have:=HM.out;omega)
end Go.Proofs.YtbfddopopajgaabGreat
namespace Go.Proofs.YtbfddopopajgaabGreat
open Go Go.RowKit
set_option maxRecDepth 100000 in
set_option maxHeartbeats 8000000 in
theorem signr_g {w:World} {Af:Option Addr} {lf cf:Nat} {f:List Int} {Ag:Option Addr} {lg cg:Nat} {g:List Int} {x:Pt} {i0:Nat} {r:Fq×Fq} {n:Bool} {A:Option Addr} {l c:Nat} {B:Option Addr} {m d:Nat} {n':Bool} {A':Option Addr} {l' c':Nat} {B':Option Addr} {m' d':Nat}
 (hf:PolyN w Af lf cf f) (s6:S6 f) (h0:plen f≠0) (hg:PolyN w Ag lg cg g) (zg:ZaG f g x) (go:sgp g x≠0→AwO f g x) (hz:IntN w n A l c r.1.z) (hq:NatN w B m d r.1.q) (hz':IntN w n' A' l' c' r.2.z) (hq':NatN w B' m' d' r.2.q) (hi0:i0≤NN+1) (ha:ASt f x i0 r) :
 Calls Tryz.prog 15 #[.slice Af lf cf,.agg #[.bool n,.slice A l c,.slice B m d,.bool n',.slice A' l' c',.slice B' m' d'],.slice Ag lg cg] w fun e w'=>e=.returned (.tuple #[.int .i64 (sgp g x),.int .i64 0])∧Below w.heap.size w w':=by
 have hlf:lf≤6:=by have:=hf.length;have:=s6.len;omega
 have hlg:lg≤16:=by have:=hg.length;have:=zg.len;omega
 have gfit:=zg.fit
 have HAT:=Lib.hid zg.at_
 have hlen:=s6.len
 have o1:=below_new w (tbox n A l c B m d n' A' l' c' B' m' d')
 have T:=Lib.hid (TBox.make hz hq hz' hq')
 have HP:=Lib.hid (hf.below ikN o1)
 have HG:=Lib.hid (hg.below ikN o1)
 have Hb:=Lib.hid o1
 have h9:=s6.p9
 obtain ⟨fa,fb,_⟩:=ha.fqb h9 h0 hi0
 have HV:=Lib.hid (show vld 2 f r.1 r.2=true from (vld_iff h9 h0 fa.p fb.p).2 ⟨x,ha.iso⟩)
 have HA:=Lib.hid ha
 have H0:=Lib.hid h0
 obtain ⟨S,hS⟩:∃ S,S=sgp g x:=⟨_,rfl⟩
 rw [← hS]
 have HS:=Lib.hid hS
 clear hf hg hz hq hz' hq' o1 ha h0 hS
 go_enter Tryz.func15,Tryz.ntmps15
 have x0:=T.out.r.c0;have x1:=T.out.r.c1;have x2:=T.out.r.c2;have x3:=T.out.c3;have x4:=T.out.c4;have x5:=T.out.c5
 go_wp2_with fail
 refine (valid_any ikN _ _ _ f r.1 r.2 _ _ _ _ _ _ _ _ _ _ _ _ _ _ _ HP.out (by omega) h9 T.out.r.hz T.out.r.hq T.out.hz T.out.hq fa fb).mono ?_
 rintro e w1 ⟨he,hb1⟩
 rw [HV.out] at he
 subst he
 clear x0 x1 x2 x3 x4 x5
 replace HP:=Lib.hid (HP.out.below ikN hb1);replace HG:=Lib.hid (HG.out.below ikN hb1);replace T:=Lib.hid (T.out.move hb1);replace Hb:=Lib.hid (Hb.out.trans ((hb1).mono Hb.out.size))
 clear hb1
 go_wp2_with fail
 refine (part_q ikN _ _ _ f _ HP.out h9.cp.fit.smp (fun _=>h9.q) (by omega)).mono ?_
 rintro e w2 ⟨A2,l2,c2,rfl,h2,hb2⟩
 have HQ:=Lib.hid h2
 replace HP:=Lib.hid (HP.out.below ikN hb2);replace HG:=Lib.hid (HG.out.below ikN hb2);replace T:=Lib.hid (T.out.move hb2);replace Hb:=Lib.hid (Hb.out.trans ((hb2).mono Hb.out.size))
 clear h2 hb2
 have x0:=T.out.r.c0;have x1:=T.out.r.c1;have x2:=T.out.r.c2;have x3:=T.out.c3;have x4:=T.out.c4;have x5:=T.out.c5
 go_wp2_with fail
 refine (zeroat_g (r:=r) HQ.out s6 HG.out zg T.out.r.hz T.out.r.hq T.out.hz T.out.hq fa fb HA.out.iso).mono ?_
 rintro e w3 ⟨he,hb3⟩
 rw [← HS.out] at he
 subst he
 clear x0 x1 x2 x3 x4 x5
 replace HQ:=Lib.hid (HQ.out.below ikN hb3)
 replace HP:=Lib.hid (HP.out.below ikN hb3);replace HG:=Lib.hid (HG.out.below ikN hb3);replace T:=Lib.hid (T.out.move hb3);replace Hb:=Lib.hid (Hb.out.trans ((hb3).mono Hb.out.size))
 clear hb3
 by_cases c0:S=0
 ·rw [decide_eq_true c0]
  have HC:=Lib.hid c0
  clear c0 T HP HG HQ
  go_wp2_with fail
  refine bodyPost_ret (v:=.tuple #[.int .i64 0,.int .i64 0]) (by simp [results,Tryz.results15,go_sem]) rfl ⟨by rw [HC.out],Hb.out⟩
 ·rw [decide_eq_false c0]
  have gx:sgp g x≠0:=by rw [← HS.out];exact c0
  clear c0
  have x0:=T.out.r.c0;have x1:=T.out.r.c1;have x2:=T.out.r.c2;have x3:=T.out.c3;have x4:=T.out.c4;have x5:=T.out.c5
  go_wp2_with fail
  refine (away_g (r:=r) HQ.out s6 H0.out HG.out hlg gfit gx (go gx) T.out.r.hz T.out.r.hq T.out.hz T.out.hq hi0 HA.out).mono ?_
  rintro e w4 ⟨⟨i,s,hi,hs,_,_,hfr,n4,A4,l4,c4,B4,m4,d4,n5,A5,l5,c5,B5,m5,d5,rfl,z1,z2,z3,z4⟩,hb4⟩
  clear x0 x1 x2 x3 x4 x5
  have hfd:∀ w:World,(Instr.field 34 (.agg #[.bool n4,.slice A4 l4 c4,.slice B4 m4 d4,.bool n5,.slice A5 l5 c5,.slice B5 m5 d5]) 0).run Tryz.prog w=.ok (.agg #[.bool n4,.slice A4 l4 c4,.slice B4 m4 d4]) w:=fun _=>by kernel_rfl
  obtain ⟨fc,_,_⟩:=hs.fqb h9 H0.out hi
  have hsg:s.1.sgn g=S:=by rw [sgn_pt fc.p,hs.iso.free_sg hfr,HS.out]
  have pg:=HAT.out s.1 fc
  have Z1:=Lib.hid z1
  have Z2:=Lib.hid z2
  replace HP:=Lib.hid (HP.out.below ikN hb4);replace HG:=Lib.hid (HG.out.below ikN hb4);replace T:=Lib.hid (T.out.move hb4);replace Hb:=Lib.hid (Hb.out.trans ((hb4).mono Hb.out.size))
  clear z1 z2 z3 z4 hb4 hs hfr hi HQ gx
  have HSG:=Lib.hid hsg
  clear hsg
  go_wp2_with fail
  refine (signat_any ikN _ _ _ g _ _ _ _ _ _ _ _ _ _ HG.out pg.fit (by omega) Z1.out Z2.out fc.at.u fc.at.v fc.at.pos pg.ok fc.at.fz fc.at.fq).mono ?_
  rintro e w5 ⟨he,hb5⟩
  have he2:e=.returned (.int .i64 S):=by rw [← HSG.out];exact he
  subst he2
  replace Hb:=Lib.hid (Hb.out.trans (hb5.mono Hb.out.size))
  clear he hb5 T HP HG Z1 Z2 HSG hfd
  go_wp2_with fail
  refine bodyPost_ret (v:=.tuple #[.int .i64 S,.int .i64 0]) (by simp [results,Tryz.results15,go_sem]) rfl ⟨rfl,Hb.out⟩
end Go.Proofs.YtbfddopopajgaabGreat
namespace Go.Proofs.YtbfddopopajgaabGreat
open Go.RowKit
theorem gd_facts2 {f g:List Int} (h:P9 f) (l6:plen f≤6) (lg:plen g≤16) (hg80:∀ j,(g.getD j 0).natAbs≤BB^80) (h0:plen f≠0):GdF f g (gres f g):=by
 have hf80:∀ j,(f.getD j 0).natAbs≤BB^80:=fun j=>Nat.le_trans (h.b j) (bbk_le (a:=10) (b:=80) (by decide))
 have hs:plen f+plen g≤34:=by omega
 have ga:=ga_big hs hf80 hg80
 have hgi:=gres_is ga
 have hi:IsGcd f g (gres f g):=hgi.resolve_left (fun h=>h0 h.1) |>.2
 have bd:=gres_bd2 hs hf80 hg80
 have dl:plen (gres f g)≤plen f:=dvq_plen hi.l h0
 refine ⟨ga,hi.ne,fun j=>Nat.lt_of_le_of_lt (bd j) (Nat.pow_lt_pow_right (by rw [BB_eq];decide) (by rw [GK_eq,FW_eq];decide)),by omega,by rw [← hi.trim,ptrim_length];omega,fun j=>?_,fun x=>⟨fun e=>⟨dvq_root hi.l e,dvq_root hi.r e⟩,fun e=>comb_root hi.c e.1 e.2⟩⟩
 obtain ⟨c,q,hc,e⟩:=hi.l
 have hk:=gp_ne hi.ne
 have e2:∀ x,ev (gres f g) x=(sg (plead (gres f g))*(pcont (gres f g):Int))*ev (pprim (gres f g)) x:=fun x=>by
  rw [← ev_psc]
  exact ev_congr (fun k=>by rw [psc_get];exact gp_get hi.ne k) x
 obtain ⟨s,hs'⟩:=gauss_div (l:=pprim (gres f g)) (f:=f) (r:=psc (sg (plead (gres f g))*(pcont (gres f g):Int)) q) (gp_cont hi.ne) hc (fun x=>by rw [e,e2,ev_psc];grind)
 exact factor_le (g:=s) (k:=10) (by omega) h0 h.b (fun x=>by rw [hs' x,Int.mul_comm]) j
theorem gcd_p9b {Q g:List Int} (h9:P9 Q) (l6:plen Q≤6) (q0:plen Q≠0) (lg:plen g≤16) (hb2:∀ j,(g.getD j 0).natAbs≤BB^2):P9 (gres Q g):=by
 have hd:=gd_facts2 h9 l6 lg (fun j=>Nat.le_trans (hb2 j) (bbk_le (by decide))) q0
 refine ⟨by have:=hd.len;omega,fun j=>?_⟩
 by_cases g0:plen g=0
 ·unfold gres
  rw [if_neg q0,if_pos g0,ppos_abs]
  exact h9.b j
 ·have hi:IsGcd Q g (gres Q g):=(gres_is hd.ga).resolve_left (fun h=>q0 h.1) |>.2
  have hk:=gp_ne hi.ne
  have e2:∀ x,ev (gres Q g) x=(sg (plead (gres Q g))*(pcont (gres Q g):Int))*ev (pprim (gres Q g)) x:=fun x=>by
   rw [← ev_psc]
   exact ev_congr (fun k=>by rw [psc_get];exact gp_get hi.ne k) x
  obtain ⟨c,q,hc,e⟩:=hi.r
  obtain ⟨t,ht⟩:=gauss_div (l:=pprim (gres Q g)) (f:=g) (r:=psc (sg (plead (gres Q g))*(pcont (gres Q g):Int)) q) (gp_cont hi.ne) hc (fun x=>by rw [e,e2,ev_psc];grind)
  have h1:=factor_le (g:=t) (k:=2) lg g0 hb2 (fun x=>(ht x).trans (Int.mul_comm _ _)) j
  have hc1:pcont (gres Q g)≤BB^2:=by
   rw [hi.cont]
   exact Nat.le_trans (Nat.le_of_dvd (Nat.pos_of_ne_zero (pcont_ne g0)) (Nat.gcd_dvd_right _ _)) (pcont_le g0 hb2)
  rw [gp_get hi.ne j,Int.natAbs_mul,Int.natAbs_mul,Int.natAbs_natCast]
  have hs:(sg (plead (gres Q g))).natAbs≤1:=by rcases sg_cases (plead (gres Q g)) with ⟨_,e⟩ | ⟨_,e⟩ | ⟨_,e⟩<;>omega
  have h3:(sg (plead (gres Q g))).natAbs*pcont (gres Q g)≤1*BB^2:=Nat.mul_le_mul hs hc1
  rw [Nat.one_mul] at h3
  refine Nat.le_trans (Nat.mul_le_mul h3 h1) ?_
  rw [← Nat.pow_add]
  exact bbk_le (by decide)
theorem zero_countb {f g:List Int} {a b:Fq} {x:Pt} (h:S6 f) (h0:plen f≠0) (lg:plen g≤16) (hb2:∀ j,(g.getD j 0).natAbs≤BB^2) (ha:0<a.q) (hb:0<b.q) (hi:IsoV f x a b) (hlt:a.v<b.v):0<ncount (gres (qpart f) g) a.z a.q b.z b.q↔sgp g x=0:=by
 have hq:=q_facts h.p9.q h0
 have hd:=gd_facts2 h.q9 h.ql lg (fun j=>Nat.le_trans (hb2 j) (bbk_le (by decide))) hq.q0
 obtain ⟨xs,hx⟩:=roots_lst hd.g0 (fun y=>a.p<y∧(y<b.p∨y=b.p))
 rw [ncount_half (gcd_p9b h.q9 h.ql hq.q0 lg hb2) hd.g0 ha hb ((vld_lt ha hb).2 hlt) hx]
 rcases hi.2 with h2 | ⟨_,n1,n2,l1,l2,hu⟩
 ·grind
 constructor
 ·intro hl
  match xs,hx,hl with
  | y :: ys,hx,_ =>
    obtain ⟨h1,h2,h3⟩:=(hx.2 y).1 (List.mem_cons_self ..)
    obtain ⟨k1,k2⟩:=(hd.r y).1 h1
    have k3:=(hq.root y).1 k1
    rcases h3 with h3 | h3
    ·rw [← hu y k3 h2 h3];exact k2
    ·rw [h3] at k3;exact absurd k3 n2
 ·intro hg0
  have:=(hx.2 x).2 ⟨(hd.r x).2 ⟨(hq.root x).2 hi.1,hg0⟩,l1,.inl l2⟩
  have:=List.length_pos_of_mem this
  omega
noncomputable def TQ:Nat:=Classical.choose (⟨288,rfl⟩:∃ n:Nat,n=288)
theorem TQ_eq:TQ=288:=Classical.choose_spec (⟨288,rfl⟩:∃ n:Nat,n=288)
set_option maxRecDepth 100000 in
theorem chk_tabq:((List.range 12).all fun la=>(List.range 12).all fun lb=>chk 12 la lb 288 288)=true:=by decide +kernel
theorem chain_q {f g:List Int} (l1:plen f≤11) (l2:plen g≤11) (bf:Bd (2^TQ) f) (bg:Bd (2^TQ) g):chOK 12 (pred f) (pred g)∧(∀ p∈pchain 12 f g,Bd (2^CB) p∧p.length≤11)∧(chn 12 (pred f) (pred g)).length≤12∧(pchain 12 f g).length≤13:=by
 have e1:=pred_len f
 have e2:=pred_len g
 have ht:=chk_tabq
 simp only [List.all_eq_true,List.mem_range] at ht
 have h:=chk_ok2 12 (sa:=TQ) (sb:=TQ) (a:=pred f) (b:=pred g) (by rw [TQ_eq];exact ht _ (by omega) _ (by omega)) (by rw [pred_plen,e1]) (by rw [pred_plen,e2]) (by omega) (by omega) (pred_bd bf) (pred_bd bg)
 have h3:=chn_len 12 (pred f) (pred g)
 refine ⟨h.1,fun p hp=>?_,h3,?_⟩
 ·unfold pchain at hp
  split at hp
  ·simp at hp
  ·rcases List.mem_cons.1 hp with rfl | hp
   ·exact ⟨(pred_bd bf).mono (Nat.pow_le_pow_right (by decide) (by rw [CB_eq,TQ_eq];decide)),by rw [pred_len];exact l1⟩
   ·have:=h.2 p hp
    exact ⟨this.1,by have:=this.2;omega⟩
 ·unfold pchain
  split
  ·simp
  ·rw [List.length_cons];omega
theorem bd_atq {p:List Int} {z:Int} {q:Nat} (hb:Bd (2^CB) p) (hl:p.length≤11) (hz:z.natAbs≤ZB) (hq:q≤ZB):PoOK z q p:=by
 have ft:FitP p:=fun j=>Nat.lt_of_le_of_lt (hb j) (two_fw (by rw [CB_eq];decide))
 have hz':(z.tdiv (Nat.gcd z.natAbs q)).natAbs≤ZB:=by
  rw [Int.natAbs_tdiv]
  exact Nat.le_trans (Nat.div_le_self _ _) hz
 have hq':(((q / Nat.gcd z.natAbs q:Nat):Int)).natAbs≤ZB:=by
  rw [Int.natAbs_natCast]
  exact Nat.le_trans (Nat.div_le_self _ _) hq
 refine ⟨ft,by omega,fun t ht=>?_⟩
 have hpl:=plen_le p
 have z1:1≤ZB:=by have:=zb_128;omega
 obtain ⟨h1,h2⟩:=scs_bd2 (p:=ptrim p) (M:=2^CB) z1 (plen p) (fun k=>by rw [ptrim_getD];exact hb k) hz' hq' t
 have e:ZB^t≤2^(32*(ZK*11)):=by
  refine Nat.le_trans (Nat.pow_le_pow_right z1 (show t≤11 by omega)) ?_
  unfold ZB
  rw [← Nat.pow_mul,bb_two]
  exact Nat.le_refl _
 constructor
 ·refine Nat.lt_of_le_of_lt h2 ?_
  refine Nat.lt_of_le_of_lt (Nat.mul_le_mul (show t≤2^4 by omega) (Nat.mul_le_mul_left (2^CB) e)) ?_
  rw [← Nat.pow_add,← Nat.pow_add]
  exact two_fw (by rw [CB_eq,ZK_eq];decide)
 ·exact Nat.lt_of_le_of_lt (Nat.le_trans h1 e) (two_fw (by rw [ZK_eq];decide))
section
variable {f g H:List Int} {x:Pt}
theorem big_bd {p:List Int} {k:Nat} (hk:k≤100) (h:∀ j,(p.getD j 0).natAbs≤BB^k):Bd (2^CB) p:=fun j=>by
 refine Nat.le_trans (h j) ?_
 rw [bb_two]
 exact Nat.pow_le_pow_right (by decide) (by rw [CB_eq];omega)
theorem big_fit {p:List Int} {k:Nat} (hk:k≤100) (h:∀ j,(p.getD j 0).natAbs≤BB^k):FitP p:=fun j=>Nat.lt_of_le_of_lt (h j) (Nat.pow_lt_pow_right (by rw [BB_eq];decide) (by rw [FW_eq];omega))
theorem zag_big (h:S6 f) (h0:plen f≠0) (hl:H.length≤11) (hb:∀ j,(H.getD j 0).natAbs≤BB^2):ZaG f H x:=by
 have hq:=q_facts h.p9.q h0
 have lg:plen H≤16:=by have:=plen_le H;omega
 have hd:=gd_facts2 h.q9 h.ql lg (fun j=>Nat.le_trans (hb j) (bbk_le (by decide))) hq.q0
 exact ⟨big_fit (by decide) hb,by omega,fun a ha=>bd_atq (big_bd (by decide) hb) hl ha.z ha.q,hd.ga,gcd_p9b h.q9 h.ql hq.q0 lg hb,hd.t,fun a b ha hb' hi hlt=>zero_countb h h0 lg hb ha hb' hi hlt⟩
theorem awo_big (h:S6 f) (h0:plen f≠0) (hl:H.length≤11) (hb:∀ j,(H.getD j 0).natAbs≤BB^2) (Hx:sgp H x≠0) (hr:∀ y,sgp H y=0→∃ G,ptrim G=G∧plen G≤10∧(∀ j,(G.getD j 0).natAbs≤BB^16)∧sgp G x≠0∧sgp G y=0∧∀ z,sgp G z=0→sgp H z=0):AwO f H x:=by
 have lg:plen H≤11:=by have:=plen_le H;omega
 have g0:plen H≠0:=fun e=>Hx (sgp_zero e x)
 have hp:∀ j,((pprim H).getD j 0).natAbs≤BB^2:=fun j=>Nat.le_trans (pprim_abs H j) (hb j)
 have hQ:QOK H:=⟨by omega,fun j=>Nat.le_trans (hp j) (bbk_le (by decide))⟩
 have hq:=q_facts hQ g0
 have hOl:(qpart H).length≤11:=by rw [← hq.t,ptrim_length];have:=hq.l;omega
 have bO:∀ j,((qpart H).getD j 0).natAbs≤BB^8:=hq.b 2 hp
 have lO:plen (qpart H)≤11:=by have:=hq.l;omega
 have bD:∀ j,((pder (qpart H)).getD j 0).natAbs≤BB^9:=pder_abs (by omega) bO
 have lD:=plen_pder (qpart H)
 have up:∀ {p:List Int},(∀ j,(p.getD j 0).natAbs≤BB^9)→Bd (2^TQ) p:=fun {p} hp j=>by
  refine Nat.le_trans (hp j) ?_
  obtain ⟨k,hk⟩:∃ k:Nat,k=9:=⟨_,rfl⟩
  rw [← hk,bb_two]
  exact Nat.pow_le_pow_right (by decide) (by rw [TQ_eq];omega)
 obtain ⟨k1,k2,k3,k4⟩:=chain_q lO (by omega) (up fun j=>Nat.le_trans (bO j) (bbk_le (by decide))) (up bD)
 have hgr:∀ y,sgp H y=0↔sgp (qpart H) y=0:=fun y=>(hq.root y).symm
 refine ⟨hQ,hq.t,hq.q0,hgr,hOl,big_fit (by decide) bO,big_fit (by decide) bD,k1,k3,k4,fun a ha=>bd_atq (big_bd (by decide) bO) hOl ha.z ha.q,fun a ha p hp=>bd_atq (k2 p hp).1 (k2 p hp).2 ha.z ha.q,fun s ha hb' hab na nb=>chg_free2 hq.q0 hq.simple k1 ha hb' hab na nb,fun i s hs hne hn=>?_⟩
 obtain ⟨y,hy⟩:=Classical.not_forall.1 hn
 obtain ⟨hy,hno⟩:=Classical.not_imp.1 hy
 obtain ⟨G,tG,lG,bG,gx,gy,_⟩:=hr y ((hgr y).2 hy)
 exact hs.more h.p9 h0 tG lG bG gx hne fun hf=>hno (hf y gy)
def bigH (f g:List Int):List Int:=ptrim (padd (polymul g g) (polymul f g))
theorem bigH_ev (f g:List Int) (t:Int):ev (bigH f g) t=ev g t*ev (padd g f) t:=by
 unfold bigH
 rw [ev_ptrim,ev_padd,ev_padd,ev_mul,ev_mul]
 grind
theorem bigH_sgp (f g:List Int) (y:Pt):sgp (bigH f g) y=sgp g y*sgp (padd g f) y:=by
 rw [sgp_ev (r:=polymul g (padd g f)) (fun t=>by rw [ev_mul,bigH_ev]) y,sgp_mul]
theorem s6_one (h:S6 f) (j:Nat):(f.getD j 0).natAbs≤BB^1:=Nat.le_trans (h.b j) (by rw [Nat.pow_one,BB_eq];decide)
theorem mul_s6 (hf:S6 f) (hg:S6 g) (j:Nat):((polymul f g).getD j 0).natAbs≤17179869184:=Nat.le_trans (mul_coef (X:=32768) (Y:=32768) hf.b hg.b (by have:=hf.pl;omega) j) (by decide)
theorem bigH_b (hf:S6 f) (hg:S6 g) (j:Nat):((bigH f g).getD j 0).natAbs≤BB^2:=by
 unfold bigH
 rw [ptrim_getD,padd_get]
 have h1:=mul_s6 hg hg j
 have h2:=mul_s6 hf hg j
 have h3:34359738368≤BB^2:=by rw [BB_eq];decide
 omega
theorem bigH_l (hf:S6 f) (hg:S6 g):(bigH f g).length≤11:=by
 unfold bigH
 rw [ptrim_length]
 have h1:plen (polymul g g)≤11:=mul_plen (.inr (.inr (by have:=hg.pl;omega)))
 have h2:plen (polymul f g)≤11:=mul_plen (.inr (.inr (by have:=hg.pl;have:=hf.pl;omega)))
 refine plen_le_of fun k hk=>?_
 rw [padd_get,getD_ge_plen _ k (by omega),getD_ge_plen _ k (by omega)]
 rfl
theorem bigH_x (hx:sgp f x=0):sgp (bigH f g) x=sgp g x*sgp g x:=by rw [bigH_sgp,sgp_add0 hx]
theorem zag_bigH (hf:S6 f) (h0:plen f≠0) (hg:S6 g):ZaG f (bigH f g) x:=zag_big hf h0 (bigH_l hf hg) (bigH_b hf hg)
theorem awo_bigH (hf:S6 f) (h0:plen f≠0) (hg:S6 g) (hx:sgp f x=0) (Hx:sgp (bigH f g) x≠0):AwO f (bigH f g) x:=by
 refine awo_big hf h0 (bigH_l hf hg) (bigH_b hf hg) Hx fun y hy=>?_
 have gx:sgp g x≠0:=fun e=>Hx (by rw [bigH_x hx,e];rfl)
 have hs:∀ z,sgp (ptrim (padd g f)) z=sgp (padd g f) z:=fun z=>sgp_ev (fun t=>ev_ptrim _ t) z
 rw [bigH_sgp] at hy
 rcases Int.mul_eq_zero.1 hy with c | c
 ·exact ⟨g,hg.t,by have:=hg.pl;omega,fun j=>Nat.le_trans (s6_one hg j) (bbk_le (by decide)),gx,c,fun z hz=>by rw [bigH_sgp,hz,Int.zero_mul]⟩
 ·refine ⟨ptrim (padd g f),ptrim_ptrim _,?_,fun j=>?_,by rw [hs,sgp_add0 hx];exact gx,by rw [hs];exact c,fun z hz=>by rw [hs] at hz;rw [bigH_sgp,hz,Int.mul_zero]⟩
  ·rw [plen_ptrim]
   have:=plen_le (padd g f)
   rw [padd_length] at this
   have:=hf.len
   have:=hg.len
   omega
  ·rw [ptrim_getD,padd_get]
   have h1:=hg.b j
   have h2:=hf.b j
   have h3:BB^1≤BB^16:=bbk_le (by decide)
   have h4:65536≤BB^1:=by rw [Nat.pow_one,BB_eq];decide
   omega
end
end Go.Proofs.YtbfddopopajgaabGreat
namespace Go.Proofs.YtbfddopopajgaabGreat
open Go Go.RowKit
def cmpr (Q:List Int) (r:Fq×Fq) (a:Fq):Int :=
 if fcmp r.1 r.2=0 then fcmp r.1 a else if fcmp a r.1≤0 then 1 else if 0≤fcmp a r.2 then -1 else if a.sgn Q=0 then 0 else if a.sgn Q=r.1.sgn Q then 1 else -1
section
variable {Q f:List Int} {r:Fq×Fq} {a:Fq} {x:Pt}
end
set_option maxRecDepth 100000 in
set_option maxHeartbeats 4000000 in
theorem compare_any {I:IntPred} (hI:IK I) {w:World} {Ap:Option Addr} {lp cp:Nat} {Q:List Int} {r:Fq×Fq} {a:Fq} {n:Bool} {A:Option Addr} {l c:Nat} {B:Option Addr} {m d:Nat} {n':Bool} {A':Option Addr} {l' c':Nat} {B':Option Addr} {m' d':Nat} {na:Bool} {Aa:Option Addr} {la ca:Nat} {Ba:Option Addr} {ma da:Nat}
 (hp:PolyP I w Ap lp cp Q) (hlp:lp≤1000000) (hQ:∀ x,FqB x→PoOK x.z x.q Q) (hz:IntN w n A l c r.1.z) (hq:NatN w B m d r.1.q) (hz':IntN w n' A' l' c' r.2.z) (hq':NatN w B' m' d' r.2.q) (hza:IntN w na Aa la ca a.z) (hqa:NatN w Ba ma da a.q) (ha:FqB r.1) (hb:FqB r.2) (hc:FqB a) :
 Calls Tryz.prog 74 #[.slice Ap lp cp,.agg #[.bool n,.slice A l c,.slice B m d,.bool n',.slice A' l' c',.slice B' m' d'],.agg #[.bool na,.slice Aa la ca,.slice Ba ma da]] w fun e w'=>e=.returned (.int .i64 (cmpr Q r a))∧Below w.heap.size w w':=by
 have o1:=below_new w (tbox n A l c B m d n' A' l' c' B' m' d')
 have o2:=below_new (w.alloc (tbox n A l c B m d n' A' l' c' B' m' d')) (rbox na Aa la ca Ba ma da)
 have b2:Below w.heap.size w ((w.alloc (tbox n A l c B m d n' A' l' c' B' m' d')).alloc (rbox na Aa la ca Ba ma da)):=o1.alloc (by simp) _
 have T:=Lib.hid ((TBox.make hz hq hz' hq').move o2)
 have r2:=RBox.make (hza.below o1) (hqa.below o1)
 simp only [World.size_alloc] at r2
 have R:=Lib.hid r2
 have HP:=Lib.hid (hp.below hI b2)
 have Hb:=Lib.hid b2
 have p1:=ha.p
 have p2:=hb.p
 have p3:=hc.p
 have pa:=hQ _ ha
 have pc:=hQ _ hc
 obtain ⟨V,hV⟩:∃ V,V=cmpr Q r a:=⟨_,rfl⟩
 rw [← hV]
 unfold cmpr at hV
 have HV:=Lib.hid hV
 obtain ⟨S,hS⟩:∃ S,S=a.sgn Q:=⟨_,rfl⟩
 obtain ⟨S2,hS2⟩:∃ S,S=r.1.sgn Q:=⟨_,rfl⟩
 have HS:=Lib.hid hS
 have HS2:=Lib.hid hS2
 clear hz hq hz' hq' hza hqa o1 o2 b2 r2 hp hV hS hS2 hQ
 go_enter Tryz.func74,Tryz.ntmps74
 have x0:=T.out.r.c0;have x1:=T.out.r.c1;have x2:=T.out.r.c2;have x3:=T.out.c3;have x4:=T.out.c4;have x5:=T.out.c5;have y0:=R.out.c0;have y1:=R.out.c1;have y2:=R.out.c2
 go_wp2_with fail
 refine (isexact_any T.out.r.hz T.out.r.hq T.out.hz T.out.hq ha hb).mono ?_
 rintro e w1 ⟨rfl,hb1⟩
 clear x0 x1 x2 x3 x4 x5 y0 y1 y2
 replace HP:=Lib.hid (HP.out.below hI hb1);replace T:=Lib.hid (T.out.move hb1);replace R:=Lib.hid (R.out.move hb1);replace Hb:=Lib.hid (Hb.out.trans ((hb1).mono Hb.out.size))
 clear hb1
 by_cases c0:fcmp r.1 r.2=0
 ·have b1:(fcmp r.1 r.2 == 0)=true:=by rw [c0];rfl
  have EV:=Lib.hid (show V=fcmp r.1 a by rw [HV.out,if_pos c0])
  clear c0
  have x0:=T.out.r.c0;have x1:=T.out.r.c1;have x2:=T.out.r.c2;have x3:=T.out.c3;have x4:=T.out.c4;have x5:=T.out.c5;have y0:=R.out.c0;have y1:=R.out.c1;have y2:=R.out.c2
  go_wp2_with fail
  refine (rcmp_any _ _ _ _ _ _ _ _ _ _ _ _ _ _ _ _ _ _ _ T.out.r.hz.at_ T.out.r.hq.at_ R.out.hz.at_ R.out.hq.at_ (by omega) (by omega) ha.fz ha.fq hc.fz hc.fq).mono ?_;rintro e w2 ⟨rfl,hb9⟩;clear x0 x1 x2 x3 x4 x5 y0 y1 y2;replace HP:=Lib.hid (HP.out.below hI hb9);replace T:=Lib.hid (T.out.move hb9);replace R:=Lib.hid (R.out.move hb9);replace Hb:=Lib.hid (Hb.out.trans ((hb9).mono Hb.out.size));clear hb9
  obtain ⟨C,hC⟩:∃ C,C=fcmp r.1 a:=⟨_,rfl⟩
  rw [show cmpz (r.1.z*(a.q:Int)) (a.z*(r.1.q:Int))=C from hC.symm]
  replace EV:=Lib.hid (EV.out.trans hC.symm)
  clear hC T R HP
  go_wp2;go_ret;exact ⟨(by first | (rw [EV.out];done) | (rw [EV.out];rfl)),Hb.out⟩
 have b1:(fcmp r.1 r.2 == 0)=false:=by rw [beq_eq_false_iff_ne];exact c0
 have hV:=HV.out
 rw [if_neg c0] at hV
 replace HV:=Lib.hid hV
 clear c0 hV
 have x0:=T.out.r.c0;have x1:=T.out.r.c1;have x2:=T.out.r.c2;have x3:=T.out.c3;have x4:=T.out.c4;have x5:=T.out.c5;have y0:=R.out.c0;have y1:=R.out.c1;have y2:=R.out.c2
 go_wp2_with fail
 refine (rcmp_any _ _ _ _ _ _ _ _ _ _ _ _ _ _ _ _ _ _ _ R.out.hz.at_ R.out.hq.at_ T.out.r.hz.at_ T.out.r.hq.at_ (by omega) (by omega) hc.fz hc.fq ha.fz ha.fq).mono ?_;rintro e w2 ⟨rfl,hb9⟩;clear x0 x1 x2 x3 x4 x5 y0 y1 y2;replace HP:=Lib.hid (HP.out.below hI hb9);replace T:=Lib.hid (T.out.move hb9);replace R:=Lib.hid (R.out.move hb9);replace Hb:=Lib.hid (Hb.out.trans ((hb9).mono Hb.out.size));clear hb9
 obtain ⟨C1,hC1⟩:∃ C,C=fcmp a r.1:=⟨_,rfl⟩
 rw [show cmpz (a.z*(r.1.q:Int)) (r.1.z*(a.q:Int))=C1 from hC1.symm]
 have hV:=HV.out
 rw [← hC1] at hV
 replace HV:=Lib.hid hV
 clear hC1 hV
 by_cases c1:C1≤0
 ·have b2:decide (C1≤0)=true:=decide_eq_true c1
  have EV:=Lib.hid (show V=1 by rw [HV.out,if_pos c1])
  clear c1 T R HP
  go_wp2;go_ret;exact ⟨(by first | (rw [EV.out];done) | (rw [EV.out];rfl)),Hb.out⟩
 have b2:decide (C1≤0)=false:=decide_eq_false c1
 have hV:=HV.out
 rw [if_neg c1] at hV
 replace HV:=Lib.hid hV
 clear c1 hV
 have x0:=T.out.r.c0;have x1:=T.out.r.c1;have x2:=T.out.r.c2;have x3:=T.out.c3;have x4:=T.out.c4;have x5:=T.out.c5;have y0:=R.out.c0;have y1:=R.out.c1;have y2:=R.out.c2
 go_wp2_with fail
 refine (rcmp_any _ _ _ _ _ _ _ _ _ _ _ _ _ _ _ _ _ _ _ R.out.hz.at_ R.out.hq.at_ T.out.hz.at_ T.out.hq.at_ (by omega) (by omega) hc.fz hc.fq hb.fz hb.fq).mono ?_;rintro e w3 ⟨rfl,hb9⟩;clear x0 x1 x2 x3 x4 x5 y0 y1 y2;replace HP:=Lib.hid (HP.out.below hI hb9);replace T:=Lib.hid (T.out.move hb9);replace R:=Lib.hid (R.out.move hb9);replace Hb:=Lib.hid (Hb.out.trans ((hb9).mono Hb.out.size));clear hb9
 obtain ⟨C2,hC2⟩:∃ C,C=fcmp a r.2:=⟨_,rfl⟩
 rw [show cmpz (a.z*(r.2.q:Int)) (r.2.z*(a.q:Int))=C2 from hC2.symm]
 have hV:=HV.out
 rw [← hC2] at hV
 replace HV:=Lib.hid hV
 clear hC2 hV
 by_cases c2:0≤C2
 ·have b3:decide (0≤C2)=true:=decide_eq_true c2
  have EV:=Lib.hid (show V=-1 by rw [HV.out,if_pos c2])
  clear c2 T R HP
  go_wp2;go_ret;exact ⟨(by first | (rw [EV.out];done) | (rw [EV.out];rfl)),Hb.out⟩
 have b3:decide (0≤C2)=false:=decide_eq_false c2
 have hV:=HV.out
 rw [if_neg c2,← HS.out,← HS2.out] at hV
 replace HV:=Lib.hid hV
 clear c2 hV
 have x0:=T.out.r.c0;have x1:=T.out.r.c1;have x2:=T.out.r.c2;have x3:=T.out.c3;have x4:=T.out.c4;have x5:=T.out.c5;have y0:=R.out.c0;have y1:=R.out.c1;have y2:=R.out.c2
 go_wp2_with fail
 refine (signat_any hI _ _ _ Q _ _ _ _ _ _ _ _ _ _ HP.out (pc).fit (by omega) R.out.hz R.out.hq (hc).at.u (hc).at.v (hc).at.pos (pc).ok (hc).at.fz (hc).at.fq).mono ?_;rintro e w4 ⟨he,hb9⟩;have he2:e=.returned (.int .i64 S):=(by rw [HS.out];exact he);subst he2;clear he;clear x0 x1 x2 x3 x4 x5 y0 y1 y2;replace HP:=Lib.hid (HP.out.below hI hb9);replace T:=Lib.hid (T.out.move hb9);replace R:=Lib.hid (R.out.move hb9);replace Hb:=Lib.hid (Hb.out.trans ((hb9).mono Hb.out.size));clear hb9
 by_cases c3:S=0
 ·have b4:(S == 0)=true:=by rw [c3];rfl
  have EV:=Lib.hid (show V=0 by rw [HV.out,if_pos c3])
  clear c3 T R HP
  go_wp2;go_ret;exact ⟨(by first | (rw [EV.out];done) | (rw [EV.out];rfl)),Hb.out⟩
 have b4:(S == 0)=false:=by rw [beq_eq_false_iff_ne];exact c3
 have hV:=HV.out
 rw [if_neg c3] at hV
 replace HV:=Lib.hid hV
 clear c3 hV
 have x0:=T.out.r.c0;have x1:=T.out.r.c1;have x2:=T.out.r.c2;have x3:=T.out.c3;have x4:=T.out.c4;have x5:=T.out.c5;have y0:=R.out.c0;have y1:=R.out.c1;have y2:=R.out.c2
 go_wp2_with fail
 refine (signat_any hI _ _ _ Q _ _ _ _ _ _ _ _ _ _ HP.out (pa).fit (by omega) T.out.r.hz T.out.r.hq (ha).at.u (ha).at.v (ha).at.pos (pa).ok (ha).at.fz (ha).at.fq).mono ?_;rintro e w5 ⟨he,hb9⟩;have he2:e=.returned (.int .i64 S2):=(by rw [HS2.out];exact he);subst he2;clear he;clear x0 x1 x2 x3 x4 x5 y0 y1 y2;replace HP:=Lib.hid (HP.out.below hI hb9);replace T:=Lib.hid (T.out.move hb9);replace R:=Lib.hid (R.out.move hb9);replace Hb:=Lib.hid (Hb.out.trans ((hb9).mono Hb.out.size));clear hb9
 by_cases c4:S=S2
 ·have b5:(S == S2)=true:=by rw [c4];simp
  have EV:=Lib.hid (show V=1 by rw [HV.out,if_pos c4])
  clear c4 T R HP
  go_wp2;go_ret;exact ⟨(by first | (rw [EV.out];done) | (rw [EV.out];rfl)),Hb.out⟩
 ·have b5:(S == S2)=false:=by rw [beq_eq_false_iff_ne];exact c4
  have EV:=Lib.hid (show V=-1 by rw [HV.out,if_neg c4])
  clear c4 T R HP
  go_wp2;go_ret;exact ⟨(by first | (rw [EV.out];done) | (rw [EV.out];rfl)),Hb.out⟩
end Go.Proofs.YtbfddopopajgaabGreat
namespace Go.Proofs.YtbfddopopajgaabGreat
open Go Go.RowKit
noncomputable def cmpV (f:List Int) (r:Fq×Fq) (a:Fq):Int:=bif vld 2 f r.1 r.2 then cmpr (qpart f) r a else 0
def errV (V:Bool):Int:=bif V then 0 else 1
set_option maxRecDepth 100000 in
set_option maxHeartbeats 4000000 in
theorem rcmpr_any {I:IntPred} (hI:IK I) {w:World} {Af:Option Addr} {lf cf:Nat} {f:List Int} {r:Fq×Fq} {a:Fq} {n:Bool} {A:Option Addr} {l c:Nat} {B:Option Addr} {m d:Nat} {n':Bool} {A':Option Addr} {l' c':Nat} {B':Option Addr} {m' d':Nat} {na:Bool} {Aa:Option Addr} {la ca:Nat} {Ba:Option Addr} {ma da:Nat}
 (hf:PolyP I w Af lf cf f) (hl:f.length≤10) (h9:P9 f) (hz:IntN w n A l c r.1.z) (hq:NatN w B m d r.1.q) (hz':IntN w n' A' l' c' r.2.z) (hq':NatN w B' m' d' r.2.q) (hza:IntN w na Aa la ca a.z) (hqa:NatN w Ba ma da a.q) (ha:FqB r.1) (hb:FqB r.2) (hc:FqB a) :
 Calls Tryz.prog 28 #[.slice Af lf cf,.agg #[.bool n,.slice A l c,.slice B m d,.bool n',.slice A' l' c',.slice B' m' d'],.agg #[.bool na,.slice Aa la ca,.slice Ba ma da]] w fun e w'=>e=.returned (.tuple #[.int .i64 (cmpV f r a),.int .i64 (errV (vld 2 f r.1 r.2))])∧Below w.heap.size w w':=by
 have hlf:lf≤10:=by have:=hf.length;omega
 have o1:=below_new w (tbox n A l c B m d n' A' l' c' B' m' d')
 have o2:=below_new (w.alloc (tbox n A l c B m d n' A' l' c' B' m' d')) (rbox na Aa la ca Ba ma da)
 have b2:Below w.heap.size w ((w.alloc (tbox n A l c B m d n' A' l' c' B' m' d')).alloc (rbox na Aa la ca Ba ma da)):=o1.alloc (by simp) _
 have T:=Lib.hid ((TBox.make hz hq hz' hq').move o2)
 have r2:=RBox.make (hza.below o1) (hqa.below o1)
 simp only [World.size_alloc] at r2
 have R:=Lib.hid r2
 have HP:=Lib.hid (hf.below hI b2)
 have Hb:=Lib.hid b2
 obtain ⟨V,hV⟩:∃ V,V=vld 2 f r.1 r.2:=⟨_,rfl⟩
 obtain ⟨X,hX⟩:∃ X,X=cmpV f r a:=⟨_,rfl⟩
 rw [← hV,← hX]
 unfold cmpV at hX
 rw [← hV] at hX
 have HX:=Lib.hid hX
 have HV:=Lib.hid hV
 clear hz hq hz' hq' hza hqa o1 o2 b2 r2 hf hV hX
 go_enter Tryz.func28,Tryz.ntmps28
 have x0:=T.out.r.c0;have x1:=T.out.r.c1;have x2:=T.out.r.c2;have x3:=T.out.c3;have x4:=T.out.c4;have x5:=T.out.c5;have y0:=R.out.c0;have y1:=R.out.c1;have y2:=R.out.c2
 go_wp2_with fail
 refine (valid_any hI _ _ _ f r.1 r.2 _ _ _ _ _ _ _ _ _ _ _ _ _ _ _ HP.out hl h9 T.out.r.hz T.out.r.hq T.out.hz T.out.hq ha hb).mono ?_
 rintro e w1 ⟨he,hb1⟩
 have he2:e=.returned (.bool V):=by rw [HV.out];exact he
 subst he2
 clear he
 clear x0 x1 x2 x3 x4 x5 y0 y1 y2
 replace HP:=Lib.hid (HP.out.below hI hb1);replace T:=Lib.hid (T.out.move hb1);replace R:=Lib.hid (R.out.move hb1);replace Hb:=Lib.hid (Hb.out.trans ((hb1).mono Hb.out.size))
 clear hb1
 cases V with
 | false =>
   have EX:=Lib.hid (show X=0 by rw [HX.out];rfl)
   go_wp2_with fail
   refine bodyPost_ret (v:=.tuple #[.int .i64 0,.int .i64 1]) (by simp [results,Tryz.results28,go_sem]) rfl ⟨by rw [EX.out];rfl,Hb.out⟩
 | true =>
   obtain ⟨wb,hwb⟩:∃ wb,wb=w1:=⟨_,rfl⟩
   obtain ⟨g1,hg1⟩:∃ g,g=w.heap.size:=⟨_,rfl⟩
   obtain ⟨g2,hg2⟩:∃ g,g=w.heap.size+1:=⟨_,rfl⟩
   rw [← hwb] at T R HP Hb ⊢
   rw [← hg1] at T
   rw [← hg2] at R
   rw [← hg2,← hg1]
   have l1:=T.out.r.lt
   have l2:=R.out.lt
   clear hwb hg1 hg2
   have x0:=T.out.r.c0;have x1:=T.out.r.c1;have x2:=T.out.r.c2;have x3:=T.out.c3;have x4:=T.out.c4;have x5:=T.out.c5;have y0:=R.out.c0;have y1:=R.out.c1;have y2:=R.out.c2
   have h0:plen f≠0:=fun h0=>by have:=HV.out;rw [vld_nil h0 2 (by omega)] at this;cases this
   have hQ:∀ x,FqB x→PoOK x.z x.q (qpart f):=fun x hx=>h9.part.at (by rw [← h9.part_t,ptrim_length];have:=h9.part_l;have:=h9.len;omega) hx.z hx.q
   have hql:(qpart f).length≤10:=by rw [← h9.part_t,ptrim_length];have:=h9.part_l;have:=h9.len;omega
   obtain ⟨Q,hQe⟩:∃ Q,Q=qpart f:=⟨_,rfl⟩
   rw [← hQe] at hQ hql
   have HQ:=Lib.hid hQ
   have HQe:=Lib.hid hQe
   have EX:=Lib.hid (show X=cmpr Q r a by rw [HX.out,hQe];rfl)
   clear h0 hQ hQe
   go_wp2_with fail
   refine wp_region_held_drew (S:=fun w'=>w'.cell? ⟨g1,0,none⟩=some (.bool n)∧w'.cell? ⟨g1,1,none⟩=some (.slice A l c)∧w'.cell? ⟨g1,2,none⟩=some (.slice B m d)∧w'.cell? ⟨g1,3,none⟩=some (.bool n')∧w'.cell? ⟨g1,4,none⟩=some (.slice A' l' c')∧w'.cell? ⟨g1,5,none⟩=some (.slice B' m' d')∧w'.cell? ⟨g2,0,none⟩=some (.bool na)∧w'.cell? ⟨g2,1,none⟩=some (.slice Aa la ca)∧w'.cell? ⟨g2,2,none⟩=some (.slice Ba ma da)) (by kernel_rfl) (by (try dsimp only);go_keep) (fun hHeld=>?_)
   (refine tk (i:=0) (v:=?_) rfl rfl (Or.inl ⟨by rfl,?_⟩) ?_;rotate_left;(focus (intro w hSw;(try dsimp only at hSw);go_simp;(try with_reducible rfl)));(simp only [put_lit,List.set]))
   (refine tk (i:=2) (v:=?_) rfl rfl (Or.inl ⟨by rfl,?_⟩) ?_;rotate_left;(focus (intro w hSw;(try dsimp only at hSw);go_simp;(try with_reducible rfl)));(simp only [put_lit,List.set]))
   (refine tk (i:=3) (v:=?_) rfl rfl (Or.inl ⟨by rfl,?_⟩) ?_;rotate_left;(focus (intro w hSw;(try dsimp only at hSw);go_simp;(try with_reducible rfl)));(simp only [put_lit,List.set]))
   (refine wpAnyH_ready (rs:=[1]) (by kernel_rfl) (by simp) ?_;refine AllReadyH.cons rfl (fun K hK=>?_) AllReadyH.nil;go_simp)
   refine (part_q hI _ _ _ f _ (HP.out.below hI Bel.go) h9.cp.fit.smp (fun _=>h9.q) (by omega)).mono ?_
   rintro e w4 ⟨A4,l4,c4,rfl,h4,hb4⟩
   rw [← HQe.out] at h4
   have hl4:l4≤10:=by have:=h4.length;omega
   have G4:=Lib.hid ((Below.trans Bel.go (hb4.mono (by simp<;>omega))):Below wb.heap.size wb w4)
   have H4:=Lib.hid h4
   obtain ⟨hcx,hfx⟩:=bcellS hb4;refine hK.out _ _ ?_ (fun _=>?_);(focus (((try dsimp only);repeat' apply And.intro)<;>(rw [hcx _ (by go_simp)];go_simp)));clear hHeld hK K hcx hfx;rename_i hHeld
   clear h4 hb4
   (refine wpAnyH_ready (rs:=[4]) (by kernel_rfl) (by simp) ?_;refine AllReadyH.cons rfl (fun K hK=>?_) AllReadyH.nil;go_simp)
   have T4:=T.out.move G4.out
   have R4:=R.out.move G4.out
   refine (compare_any ikN (r:=r) (a:=a) (H4.out.below ikN Bel.go) (by omega) HQ.out (T4.r.hz.below Bel.go) (T4.r.hq.below Bel.go) (T4.hz.below Bel.go) (T4.hq.below Bel.go) (R4.hz.below Bel.go) (R4.hq.below Bel.go) ha hb hc).mono ?_
   rintro e w5 ⟨he,hb5⟩
   have he2:e=.returned (.int .i64 X):=by rw [EX.out];exact he
   subst he2
   have G5:=Lib.hid (G4.out.trans (((Below.trans Bel.go (hb5.mono (by simp<;>omega))):Below w4.heap.size w4 w5).mono G4.out.size))
   obtain ⟨hcx,hfx⟩:=bcellS hb5;refine hK.out _ _ ?_ (fun _=>?_);(focus (((try dsimp only);repeat' apply And.intro)<;>(rw [hcx _ (by go_simp)];go_simp)));clear hHeld hK K hcx hfx;rename_i hHeld
   clear hb5 he T4 R4
   (refine tk (i:=5) (v:=?_) rfl rfl (Or.inl ⟨by rfl,?_⟩) ?_;rotate_left;(focus (intro w hSw;(try dsimp only at hSw);go_simp;(try with_reducible rfl)));(simp only [put_lit,List.set]))
   (refine tk (i:=6) (v:=?_) rfl rfl (Or.inl ⟨by rfl,?_⟩) ?_;rotate_left;(focus (intro w hSw;(try dsimp only at hSw);go_simp;(try with_reducible rfl)));(simp only [put_lit,List.set]))
   refine wpAnyH_done (by kernel_rfl) ?_ _
   replace Hb:=Lib.hid (Hb.out.trans (G5.out.mono Hb.out.size))
   clear hHeld T R HP G4 G5 H4
   clear x0 x1 x2 x3 x4 x5 y0 y1 y2
   go_wp2
   refine bodyPost_ret (v:=.tuple #[.int .i64 X,.int .i64 0]) (by simp [results,Tryz.results28,go_sem]) rfl ⟨by rfl,Hb.out⟩
end Go.Proofs.YtbfddopopajgaabGreat
namespace Go.Proofs.YtbfddopopajgaabGreat
open Go Go.RowKit
theorem w2_atR (w:World):I64At (w.alloc (.cells #[.int .i64 (-2),.int .i64 0,.int .i64 1] 2)) (some ⟨w.heap.size,0,none⟩) 3 3 w2:=by
 refine ⟨rfl,by omega,.inr ⟨w.heap.size,0,rfl,by simp,fun j hj=>?_⟩⟩
 match j,hj with
 | 0,_=>simp [w2]
 | 1,_=>simp [w2]
 | 2,_=>simp [w2]
theorem w2_trimR:ptrim w2=w2:=by decide
def SqE (e:Ending) (w:World):Prop:=∃ Ap lp cp n A l c B m d n' A' l' c' B' m' d',e=.returned (.tuple #[.slice Ap lp cp,.agg #[.bool n,.slice A l c,.slice B m d,.bool n',.slice A' l' c',.slice B' m' d']])∧PolyN w Ap lp cp w2∧IntN w n A l c 1∧NatN w B m d 1∧IntN w n' A' l' c' 2∧NatN w B' m' d' 1
theorem root_poly {w w':World} {g t:Nat} {A:Option Addr} {l c:Nat} {p:List Int} (hp:PolyN w A l c p) (hl:2≤p.length) (hk:Blk w g t rz6) (hf:FrS g g w w'):PolyN w' A l c p:=by
 refine PolyG.frs (g:=g) (g':=g) ⟨hp,?_⟩ hf (rz6_ndb hk) (rz6_ndb hk)
 have hlen:=hp.length
 rcases hp.elems with h0 | ⟨b,o,hA,hlt,he⟩
 ·exact .inl h0
 ·refine .inr ⟨b,o,hA,?_⟩
  have hne:b≠g:=fun e=>by
   subst e
   obtain ⟨_,_,_,_,f1,_,_⟩:=he 0 (by omega)
   obtain ⟨_,_,_,_,f2,_,_⟩:=he 1 (by omega)
   rw [hk.cell] at f1 f2
   match o,f1,f2 with
   | 0,_,f2=>simp at f2
   | 1,f1,_=>simp at f1
   | 2,f1,_=>simp at f1
   | 3,_,f2=>simp at f2
   | 4,f1,_=>simp at f1
   | 5,f1,_=>simp at f1
   | o+6,f1,_=>simp at f1
  exact ⟨hne,hne⟩
set_option maxRecDepth 100000 in
set_option maxHeartbeats 4000000 in
theorem sqrt2_any (w:World):Calls Tryz.prog 40 #[] w fun e w'=>SqE e w'∧Below w.heap.size w w':=by
 have o1:=below_new w rtObj
 have K3:Blk (w.alloc rtObj) w.heap.size 34 rz6:=Blk.new _ _ _
 have jb:=below_new (w.alloc rtObj) (.cells #[.int .i64 (-2),.int .i64 0,.int .i64 1] 2)
 have hat:=w2_atR (w.alloc rtObj)
 have Hb:=Lib.hid (o1.trans (jb.mono o1.size))
 have K4:=Lib.hid (K3.below jb K3.lt)
 obtain ⟨g3,hg3⟩:∃ g,g=w.heap.size:=⟨_,rfl⟩
 rw [← hg3] at K4
 have Hg:=Lib.hid (show w.heap.size≤g3 by omega)
 have HG3:=Lib.hid hg3
 clear o1 jb K3 hg3
 go_enter Tryz.func40,Tryz.ntmps40
 go_wp2_with fail
 refine (pof_any _ _ _ _ _ (by first | exact hat | simpa using hat) (by intro c hc;simp [w2] at hc;rcases hc with rfl | rfl | rfl<;>(unfold I64;omega)) (by omega)).mono ?_
 rintro e w1 ⟨A1,l1,c1,rfl,h1,hb1⟩
 rw [w2_trimR] at h1
 have HP:=Lib.hid h1
 replace K4:=Lib.hid (K4.out.below hb1 K4.out.lt)
 replace Hb:=Lib.hid (Hb.out.trans (hb1.mono Hb.out.size))
 clear hb1 h1 hat
 go_wp2_with fail
 refine (rof_any 1 _ (by unfold I64;omega)).mono ?_
 rintro e w2' ⟨⟨n2,A2,l2,c2,B2,m2,d2,rfl,h2,k2⟩,hb2⟩
 have H2:=Lib.hid (And.intro h2 k2)
 replace HP:=Lib.hid (HP.out.below ikN hb2)
 replace K4:=Lib.hid (K4.out.below hb2 K4.out.lt)
 replace Hb:=Lib.hid (Hb.out.trans (hb2.mono Hb.out.size))
 clear hb2 h2 k2
 go_wp2_with fail
 refine (rof_any 2 _ (by unfold I64;omega)).mono ?_
 rintro e w3 ⟨⟨n3,A3,l3,c3,B3,m3,d3,rfl,h3,k3⟩,hb3⟩
 replace H2:=Lib.hid (And.intro (H2.out.1.below hb3) (H2.out.2.below hb3))
 replace HP:=Lib.hid (HP.out.below ikN hb3)
 replace K4:=Lib.hid (K4.out.below hb3 K4.out.lt)
 replace Hb:=Lib.hid (Hb.out.trans (hb3.mono Hb.out.size))
 have hf:=pu6_frs w3 g3 (.bool n2) (.slice A2 l2 c2) (.slice B2 m2 d2) (.bool n3) (.slice A3 l3 c3) (.slice B3 m3 d3)
 have nd:=rz6_ndb K4.out
 have hpg:PolyN (pu6 w3 g3 (.bool n2) (.slice A2 l2 c2) (.slice B2 m2 d2) (.bool n3) (.slice A3 l3 c3) (.slice B3 m3 d3)) A1 l1 c1 w2:=root_poly HP.out (by decide) K4.out hf
 have FX:=Lib.hid (And.intro (show SqE (.returned (.tuple #[.slice A1 l1 c1,.agg #[.bool n2,.slice A2 l2 c2,.slice B2 m2 d2,.bool n3,.slice A3 l3 c3,.slice B3 m3 d3]])) _ from ⟨_,_,_,_,_,_,_,_,_,_,_,_,_,_,_,_,_,rfl,hpg,H2.out.1.frs hf nd nd,H2.out.2.frs hf nd nd,h3.frs hf nd nd,k3.frs hf nd nd⟩) (hf.mono Hb.out Hg.out Hg.out Hb.out.size))
 rw [← HG3.out]
 have r0:=(K4.out.cell 0).trans rfl;have r1:=(K4.out.cell 1).trans rfl;have r2:=(K4.out.cell 2).trans rfl;have r3:=(K4.out.cell 3).trans rfl;have r4:=(K4.out.cell 4).trans rfl;have r5:=(K4.out.cell 5).trans rfl;have s0:=K4.out.frozen 0;have s1:=K4.out.frozen 1;have s2:=K4.out.frozen 2;have s3:=K4.out.frozen 3;have s4:=K4.out.frozen 4;have s5:=K4.out.frozen 5
 clear hb3 h3 k3 hf nd hpg K4 Hb H2 HP
 go_wp2
 refine bodyPost_ret (v:=.tuple #[.slice A1 l1 c1,.agg #[.bool n2,.slice A2 l2 c2,.slice B2 m2 d2,.bool n3,.slice A3 l3 c3,.slice B3 m3 d3]]) (by simp [results,Tryz.results40,go_sem,r0,r1,r2,r3,r4,r5]) rfl FX.out
theorem p9_one:FqB ⟨1,1⟩:=⟨Nat.one_pos,Nat.le_trans (by decide) zb_128,Nat.le_trans (by decide) zb_128⟩
theorem p9_two:FqB ⟨2,1⟩:=⟨Nat.one_pos,Nat.le_trans (by decide) zb_128,Nat.le_trans (by decide) zb_128⟩
theorem sq_count:fcount w2 ⟨1,1⟩ ⟨2,1⟩=1:=by
 unfold fcount ncount
 rw [if_pos (by decide)]
 unfold nint
 rw [← vat_eq (z:=1) (q:=1) Nat.one_pos,← vat_eq (z:=2) (q:=1) Nat.one_pos]
 decide +kernel
theorem sq_vld:vld 2 w2 ⟨1,1⟩ ⟨2,1⟩=true:=by
 unfold vld
 rw [if_neg (by decide),if_pos (by decide),if_neg (by decide +kernel),if_neg (by decide +kernel),sq_count]
 rfl
theorem sq_cmp:cmpV w2 (⟨1,1⟩,⟨2,1⟩) ⟨1,1⟩=1:=by
 unfold cmpV
 rw [sq_vld]
 show cmpr _ _ _=1
 unfold cmpr
 rw [if_neg (by decide),if_pos (by decide)]
set_option maxHeartbeats 1000000 in
theorem awake18_any (w:World):Calls Tryz.prog 8 #[] w fun e w'=>e=.returned (.bool true)∧Below w.heap.size w w':=by
 go_enter Tryz.func8,Tryz.ntmps8
 go_wp2_with fail
 refine (sqrt2_any _).mono ?_
 rintro e w1 ⟨⟨Ap,lp,cp,n,A,l,c,B,m,d,n',A',l',c',B',m',d',rfl,hp,hz,hq,hz',hq'⟩,hb1⟩
 have T0:=TBox.make hz hq hz' hq'
 have jb:=below_new w1 (tbox n A l c B m d n' A' l' c' B' m' d')
 have T:=Lib.hid T0
 have HP:=Lib.hid (hp.below ikN jb)
 have Hb:=Lib.hid (hb1.trans (jb.mono hb1.size))
 obtain ⟨wb,hwb⟩:∃ wb,wb=w1.alloc (tbox n A l c B m d n' A' l' c' B' m' d'):=⟨_,rfl⟩
 obtain ⟨g1,hg1⟩:∃ g,g=w1.heap.size:=⟨_,rfl⟩
 clear hb1 jb T0 hp hz hq hz' hq'
 go_wp2_with fail
 rw [← hwb,← hg1] at T
 rw [← hwb] at HP Hb ⊢
 rw [← hg1]
 have l1:=T.out.r.lt
 clear hwb hg1
 have x0:=T.out.r.c0;have x1:=T.out.r.c1;have x2:=T.out.r.c2;have x3:=T.out.c3;have x4:=T.out.c4;have x5:=T.out.c5
 refine wp_region_held_drew (S:=fun w'=>w'.cell? ⟨g1,0,none⟩=some (.bool n)∧w'.cell? ⟨g1,1,none⟩=some (.slice A l c)∧w'.cell? ⟨g1,2,none⟩=some (.slice B m d)∧w'.cell? ⟨g1,3,none⟩=some (.bool n')∧w'.cell? ⟨g1,4,none⟩=some (.slice A' l' c')∧w'.cell? ⟨g1,5,none⟩=some (.slice B' m' d')) (by kernel_rfl) (by (try dsimp only);go_keep) (fun hHeld=>?_)
 (refine tk (i:=0) (v:=?_) rfl rfl (Or.inl ⟨by rfl,?_⟩) ?_;rotate_left;(focus (intro w hSw;(try dsimp only at hSw);go_simp;(try with_reducible rfl)));(simp only [put_lit,List.set]))
 (refine tk (i:=1) (v:=?_) rfl rfl (Or.inl ⟨by rfl,?_⟩) ?_;rotate_left;(focus (intro w hSw;(try dsimp only at hSw);go_simp;(try with_reducible rfl)));(simp only [put_lit,List.set]))
 refine wpAnyH_ready (rs:=[2]) (by kernel_rfl) (by simp) ?_
 refine AllReadyH.cons rfl (fun K hK=>?_) AllReadyH.nil;go_simp
 refine (rof_any 1 _ (by unfold I64;omega)).mono ?_
 rintro e w4 ⟨⟨n4,A4,l4,c4,B4,m4,d4,rfl,h4,k4⟩,hb4⟩
 have G4:=Lib.hid ((Below.trans Bel.go (hb4.mono (by simp<;>omega))):Below wb.heap.size wb w4)
 have H4:=Lib.hid (And.intro h4 k4)
 obtain ⟨hcx,hfx⟩:=bcellS hb4
 refine hK.out _ _ ?_ (fun _=>?_)
 ·((try dsimp only);repeat' apply And.intro)<;>(rw [hcx _ (by go_simp)];go_simp)
 clear hHeld hK K hcx hfx;rename_i hHeld
 clear h4 k4 hb4
 refine wpAnyH_ready (rs:=[3]) (by kernel_rfl) (by simp) ?_
 refine AllReadyH.cons rfl (fun K hK=>?_) AllReadyH.nil;go_simp
 have T4:=T.out.move G4.out
 refine (rcmpr_any ikN (f:=w2) (r:=(⟨1,1⟩,⟨2,1⟩)) (a:=⟨1,1⟩) ((HP.out.below ikN G4.out).below ikN Bel.go) (by decide) p9_w2 (T4.r.hz.below Bel.go) (T4.r.hq.below Bel.go) (T4.hz.below Bel.go) (T4.hq.below Bel.go) (H4.out.1.below Bel.go) (H4.out.2.below Bel.go) p9_one p9_two p9_one).mono ?_
 rintro e w5 ⟨he,hb5⟩
 rw [sq_cmp,show vld 2 w2 (⟨1,1⟩:Fq) ⟨2,1⟩=true from sq_vld] at he
 have he2:e=.returned (.tuple #[.int .i64 1,.int .i64 0]):=he
 subst he2
 have G5:=Lib.hid (G4.out.trans (((Below.trans Bel.go (hb5.mono (by simp<;>omega))):Below w4.heap.size w4 w5).mono G4.out.size))
 obtain ⟨hcx,hfx⟩:=bcellS hb5
 refine hK.out _ _ ?_ (fun _=>?_)
 ·((try dsimp only);repeat' apply And.intro)<;>(rw [hcx _ (by go_simp)];go_simp)
 clear hHeld hK K hcx hfx;rename_i hHeld
 clear hb5 he T4
 (refine tk (i:=4) (v:=?_) rfl rfl (Or.inl ⟨by rfl,?_⟩) ?_;rotate_left;(focus (intro w hSw;(try dsimp only at hSw);go_simp;(try with_reducible rfl)));(simp only [put_lit,List.set]))
 (refine tk (i:=5) (v:=?_) rfl rfl (Or.inl ⟨by rfl,?_⟩) ?_;rotate_left;(focus (intro w hSw;(try dsimp only at hSw);go_simp;(try with_reducible rfl)));(simp only [put_lit,List.set]))
 (refine tk (i:=6) (v:=?_) rfl rfl (Or.inl ⟨by rfl,?_⟩) ?_;rotate_left;(focus (intro w hSw;(try dsimp only at hSw);go_simp;(try with_reducible rfl)));(simp only [put_lit,List.set]))
 (refine tk (i:=7) (v:=?_) rfl rfl (Or.inl ⟨by rfl,?_⟩) ?_;rotate_left;(focus (intro w hSw;(try dsimp only at hSw);go_simp;(try with_reducible rfl)));(simp only [put_lit,List.set]))
 (refine tk (i:=8) (v:=?_) rfl rfl (Or.inl ⟨by rfl,?_⟩) ?_;rotate_left;(focus (intro w hSw;(try dsimp only at hSw);go_simp;(try with_reducible rfl)));(simp only [put_lit,List.set]))
 refine wpAnyH_done (by kernel_rfl) ?_ _
 replace Hb:=Lib.hid (Hb.out.trans (G5.out.mono Hb.out.size))
 clear hHeld x0 x1 x2 x3 x4 x5 T HP G4 G5 H4
 go_wp2
 go_ret
 exact ⟨by first | rfl | simp,Hb.out⟩
def PickE (rs:List (Fq×Fq)) (k:Nat) (e:Ending) (w:World):Prop :=
 (rs.length=0∧e=.returned (.tuple #[.agg rz6,.bool false])) ∨
 (0<rs.length∧∃ n A l c B m d n' A' l' c' B' m' d',e=.returned (.tuple #[.agg #[.bool n,.slice A l c,.slice B m d,.bool n',.slice A' l' c',.slice B' m' d'],.bool true])∧IntN w n A l c (rs.getD (k % rs.length) r00).1.z∧NatN w B m d (rs.getD (k % rs.length) r00).1.q∧IntN w n' A' l' c' (rs.getD (k % rs.length) r00).2.z∧NatN w B' m' d' (rs.getD (k % rs.length) r00).2.q)
set_option maxRecDepth 100000 in
set_option maxHeartbeats 4000000 in
theorem pick_any {I:IntPred} (hI:IK I) {w:World} {Af:Option Addr} {lf cf:Nat} {f:List Int} {k:Nat} (hf:PolyP I w Af lf cf f) (hl:f.length≤10) (h9:P9 f) (hk:k≤255) :
 Calls Tryz.prog 10 #[.slice Af lf cf,.int .u8 (k:Int)] w fun e w'=>PickE (proots f) k e w'∧Below w.heap.size w w':=by
 have hlf:lf≤10:=by have:=hf.length;omega
 have o1:=below_new w rtObj
 have K3:Blk (w.alloc rtObj) w.heap.size 34 rz6:=Blk.new _ _ _
 have HP:=Lib.hid (hf.below hI o1)
 have Hb:=Lib.hid o1
 have K4:=Lib.hid K3
 have hn9:=proots_le9 h9
 obtain ⟨RS,hRS⟩:∃ R,R=proots f:=⟨_,rfl⟩
 rw [← hRS] at hn9 ⊢
 have HRS:=Lib.hid hRS
 obtain ⟨g3,hg3⟩:∃ g,g=w.heap.size:=⟨_,rfl⟩
 have HG3:=Lib.hid hg3
 have Hg:=Lib.hid (show w.heap.size≤g3 by omega)
 rw [← hg3] at K4
 have i1:IntKind.i64.wrap (k:Int)=(k:Int):=IntWalk.i64_in _ (by omega)
 clear hf o1 K3 hRS hg3
 go_enter Tryz.func10,Tryz.ntmps10
 go_wp2_with fail
 refine (roots_any hI _ _ _ f _ HP.out h9.cp.fit.smp (fun _=>h9.q) (fun h=>SqF.of9 h9 h) (by omega)).mono ?_
 rintro e w1 ⟨⟨A1,l1,c1,rfl,h1⟩,hb1⟩
 rw [← HRS.out] at h1
 have hl1:l1=RS.length:=h1.length.symm
 have HR:=Lib.hid h1
 replace K4:=Lib.hid (K4.out.below hb1 K4.out.lt)
 replace Hb:=Lib.hid (Hb.out.trans (hb1.mono Hb.out.size))
 clear hb1 h1 HP
 by_cases h0:l1=0
 ·subst h0
  have FX:=Lib.hid hl1
  have nd:=rz6_ndb K4.out
  have hf:=pu6_frs w1 g3 (.bool false) (.slice none 0 0) (.slice none 0 0) (.bool false) (.slice none 0 0) (.slice none 0 0)
  have Hb2:=Lib.hid (hf.mono Hb.out Hg.out Hg.out Hb.out.size)
  rw [← HG3.out]
  have r0:=(K4.out.cell 0).trans rfl;have r1:=(K4.out.cell 1).trans rfl;have r2:=(K4.out.cell 2).trans rfl;have r3:=(K4.out.cell 3).trans rfl;have r4:=(K4.out.cell 4).trans rfl;have r5:=(K4.out.cell 5).trans rfl;have s0:=K4.out.frozen 0;have s1:=K4.out.frozen 1;have s2:=K4.out.frozen 2;have s3:=K4.out.frozen 3;have s4:=K4.out.frozen 4;have s5:=K4.out.frozen 5
  clear K4 Hb nd hf HR hl1
  go_wp2
  refine bodyPost_ret (v:=.tuple #[.agg rz6,.bool false]) (by simp [results,Tryz.results10,go_sem,r0,r1,r2,r3,r4,r5]) rfl ⟨.inl ⟨FX.out.symm,rfl⟩,Hb2.out⟩
 ·have g1:((l1:Int) == 0)=false:=by rw [beq_eq_false_iff_ne];omega
  have g2:(l1:Int)≠0:=by omega
  have hlt:k % RS.length<RS.length:=Nat.mod_lt _ (by omega)
  obtain ⟨j,hj⟩:∃ j,j=k % RS.length:=⟨_,rfl⟩
  have hjl:j<RS.length:=by rw [hj];exact hlt
  have em:Int.tmod (k:Int) (l1:Int)=(j:Int):=by rw [hj,hl1];exact Int.ofNat_tmod _ _
  have i2:IntKind.i64.wrap (j:Int)=(j:Int):=IntWalk.i64_in _ (by omega)
  have ja:(j:Int)<(l1:Int):=by omega
  obtain ⟨b,o,rfl,hb0,hv⟩:∃ b o,A1=some ⟨b,o,none⟩∧b<w1.heap.size∧Vals w1 b o RS:=by
   rcases HR.out.elems with ⟨h,_⟩ | h
   ·omega
   ·exact h
  obtain ⟨n,A,l,c,B,m,d,n',A',l',c',B',m',d',e0,e1,e2,e3,e4,e5,z1,z2,z3,z4⟩:=hv.getv hjl
  have hf:=pu6_frs w1 g3 (.bool n) (.slice A l c) (.slice B m d) (.bool n') (.slice A' l' c') (.slice B' m' d')
  have nd:=rz6_ndb K4.out
  have FX:=Lib.hid (show PickE RS k (.returned (.tuple #[.agg #[.bool n,.slice A l c,.slice B m d,.bool n',.slice A' l' c',.slice B' m' d'],.bool true])) (pu6 w1 g3 (.bool n) (.slice A l c) (.slice B m d) (.bool n') (.slice A' l' c') (.slice B' m' d')) from .inr ⟨by omega,_,_,_,_,_,_,_,_,_,_,_,_,_,_,rfl,by rw [← hj];exact z1.frs hf nd nd,by rw [← hj];exact z2.frs hf nd nd,by rw [← hj];exact z3.frs hf nd nd,by rw [← hj];exact z4.frs hf nd nd⟩)
  have Hb2:=Lib.hid (hf.mono Hb.out Hg.out Hg.out Hb.out.size)
  rw [← HG3.out]
  have r0:=(K4.out.cell 0).trans rfl;have r1:=(K4.out.cell 1).trans rfl;have r2:=(K4.out.cell 2).trans rfl;have r3:=(K4.out.cell 3).trans rfl;have r4:=(K4.out.cell 4).trans rfl;have r5:=(K4.out.cell 5).trans rfl;have s0:=K4.out.frozen 0;have s1:=K4.out.frozen 1;have s2:=K4.out.frozen 2;have s3:=K4.out.frozen 3;have s4:=K4.out.frozen 4;have s5:=K4.out.frozen 5
  clear K4 Hb nd hf HR hv z1 z2 z3 z4 hj hlt h0 hl1
  go_wp2_with fail
  refine bodyPost_ret (v:=.tuple #[.agg #[.bool n,.slice A l c,.slice B m d,.bool n',.slice A' l' c',.slice B' m' d'],.bool true]) (by simp [results,Tryz.results10,go_sem,r0,r1,r2,r3,r4,r5]) rfl ⟨FX.out,Hb2.out⟩
end Go.Proofs.YtbfddopopajgaabGreat
namespace Go.Proofs.YtbfddopopajgaabGreat
open Go.RowKit
def Fq.sub (a b:Fq):Fq:=⟨(a.z*(b.q:Int)-b.z*(a.q:Int)).tdiv (Nat.gcd (a.z*(b.q:Int)-b.z*(a.q:Int)).natAbs (a.q*b.q)),a.q*b.q / Nat.gcd (a.z*(b.q:Int)-b.z*(a.q:Int)).natAbs (a.q*b.q)⟩
def Fq.add (a b:Fq):Fq:=⟨(a.z*(b.q:Int)+b.z*(a.q:Int)).tdiv (Nat.gcd (a.z*(b.q:Int)+b.z*(a.q:Int)).natAbs (a.q*b.q)),a.q*b.q / Nat.gcd (a.z*(b.q:Int)+b.z*(a.q:Int)).natAbs (a.q*b.q)⟩
structure Sz (k:Nat) (a:Fq):Prop where
 p:0<a.q
 z:a.z.natAbs≤BB^k
 q:a.q≤BB^k
section
variable {a b:Fq} {j k:Nat}
theorem FqB.sz (h:FqB a):Sz ZK a:=⟨h.p,h.z,h.q⟩
theorem Sz.fz (h:Sz k a) (hk:k<FW):Fit a.z:=Nat.lt_of_le_of_lt h.z (Nat.pow_lt_pow_right (by rw [BB_eq];decide) hk)
theorem Sz.fq (h:Sz k a) (hk:k<FW):Fit (a.q:Int):=by
 unfold Fit
 rw [Int.natAbs_natCast]
 exact Nat.lt_of_le_of_lt h.q (Nat.pow_lt_pow_right (by rw [BB_eq];decide) hk)
theorem sz_le {Z D j k:Nat} (h1:Z≤BB^j) (h2:D≤BB^k):Z*D≤BB^(j+k):=by
 rw [Nat.pow_add]
 exact Nat.mul_le_mul h1 h2
theorem Sz.red (z:Int) (q:Nat) (h0:0<q) (hz:z.natAbs≤BB^k) (hq:q≤BB^k):Sz k ⟨rz z q,rq z q⟩:=by
 refine ⟨(nf_v (z:=z) h0).2.1,?_,?_⟩
 ·show (rz z q).natAbs≤_
  unfold rz
  rw [Int.natAbs_tdiv]
  exact Nat.le_trans (Nat.div_le_self _ _) hz
 ·show rq z q≤_
  unfold rq
  exact Nat.le_trans (Nat.div_le_self _ _) hq
theorem Sz.two (ha:Sz j a) (hb:Sz k b):(a.z*(b.q:Int)).natAbs+(b.z*(a.q:Int)).natAbs≤BB^(j+k+1)∧a.q*b.q≤BB^(j+k+1):=by
 have h1:=sz_le ha.z hb.q
 have h2:=sz_le hb.z ha.q
 have h3:=sz_le ha.q hb.q
 rw [Nat.add_comm k j] at h2
 have h4:2*BB^(j+k)≤BB^(j+k+1):=by
  rw [Nat.pow_succ,Nat.mul_comm]
  exact Nat.mul_le_mul_left _ (by rw [BB_eq];decide)
 rw [Int.natAbs_mul,Int.natAbs_mul,Int.natAbs_natCast,Int.natAbs_natCast]
 omega
theorem Sz.sub (ha:Sz j a) (hb:Sz k b):Sz (j+k+1) (a.sub b):=by
 obtain ⟨h1,h2⟩:=ha.two hb
 exact Sz.red _ _ (Nat.mul_pos ha.p hb.p) (by omega) h2
theorem Sz.add (ha:Sz j a) (hb:Sz k b):Sz (j+k+1) (a.add b):=by
 obtain ⟨h1,h2⟩:=ha.two hb
 exact Sz.red _ _ (Nat.mul_pos ha.p hb.p) (by omega) h2
theorem Fq.sub_v (ha:0<a.q) (hb:0<b.q):(a.sub b).v=a.v-b.v:=by
 have hq:0<a.q*b.q:=Nat.mul_pos ha hb
 have h1:=(Go.Proofs.YtbfddopopajgaabGreat.nf_v (z:=a.z*(b.q:Int)-b.z*(a.q:Int)) hq).1
 refine Eq.trans (show _=((rz (a.z*(b.q:Int)-b.z*(a.q:Int)) (a.q*b.q):Int):Rat) / ((rq (a.z*(b.q:Int)-b.z*(a.q:Int)) (a.q*b.q):Nat):Rat) from rfl) ?_
 rw [h1]
 unfold Fq.v
 have x1:(0:Rat)<((a.q:Nat):Rat):=by exact_mod_cast ha
 have x2:(0:Rat)<((b.q:Nat):Rat):=by exact_mod_cast hb
 have x3:=Rat.mul_pos x1 x2
 rw [Rat.intCast_sub,Rat.intCast_mul,Rat.intCast_mul,Rat.natCast_mul,Rat.intCast_natCast,Rat.intCast_natCast,Rat.div_def,Rat.div_def,Rat.div_def]
 generalize ((a.q:Nat):Rat)=s at *
 generalize ((b.q:Nat):Rat)=t at *
 generalize ((a.z:Int):Rat)=u at *
 generalize ((b.z:Int):Rat)=v at *
 grind
end
end Go.Proofs.YtbfddopopajgaabGreat
namespace Go.Proofs.YtbfddopopajgaabGreat
open Go.RowKit
theorem new_below (w:World) (o:Obj):Below w.heap.size w (w.alloc o):=(Below.refl _ _).alloc (Nat.le_refl _) _
theorem Fit.smnat {a:Nat} (h:Fit (a:Int)):Sm a:=by
 have:=h.sm
 unfold SmI at this
 rw [Int.natAbs_natCast] at this
 exact this
set_option maxRecDepth 100000 in
set_option maxHeartbeats 8000000 in
theorem rsub_any (n:Bool) (A:Option Addr) (l c:Nat) (B:Option Addr) (m d q:Nat) (z:Int) (n':Bool) (A':Option Addr) (l' c':Nat) (B':Option Addr) (m' d' q':Nat) (z':Int) (w:World) (hz:IntN w n A l c z) (hq:NatN w B m d q) (hz':IntN w n' A' l' c' z') (hq':NatN w B' m' d' q') (fz:Fit z) (fq:Fit (q:Int)) (h0:0<q) (fz':Fit z') (fq':Fit (q':Int)) (h0':0<q') :
 Calls Tryz.prog 53 #[.agg #[.bool n,.slice A l c,.slice B m d],.agg #[.bool n',.slice A' l' c',.slice B' m' d']] w fun e w'=>RatE ((z*(q':Int)-z'*(q:Int)).tdiv (Nat.gcd (z*(q':Int)-z'*(q:Int)).natAbs (q*q'))) (q*q' / Nat.gcd (z*(q':Int)-z'*(q:Int)).natAbs (q*q')) e w'∧Below w.heap.size w w':=by
 have sq:=fq.smnat
 have sq':=fq'.smnat
 obtain ⟨S1,hS1⟩:∃ S1,S1=z*(q':Int):=⟨_,rfl⟩
 obtain ⟨S2,hS2⟩:∃ S2,S2=z'*(q:Int):=⟨_,rfl⟩
 obtain ⟨DD,hDD⟩:∃ DD,DD=q*q':=⟨_,rfl⟩
 have ss1:SmI S1:=by rw [hS1];exact fz.sm2 fq'
 have ss2:SmI S2:=by rw [hS2];exact fz'.sm2 fq
 have ssum:Sm (S1.natAbs+S2.natAbs):=by
  have a1:=fz.mul fq'
  have a2:=fz'.mul fq
  rw [← hS1] at a1
  rw [← hS2] at a2
  refine sm_pow (k:=FW+FW+1) ?_ (by rw [FW_eq];decide)
  have a3:2*BB^(FW+FW)<BB^(FW+FW+1):=mulpow_lt (by omega)
  omega
 have sS:SmI (S1-S2):=Sm.mono ssum (by omega)
 have sqq:SmI ((q:Int)*(q':Int)):=fq.sm2 fq'
 have sD:SmI (DD:Int):=by rw [hDD,Int.natCast_mul];exact sqq
 have hD0:0<DD:=by rw [hDD];exact Nat.mul_pos h0 h0'
 rw [← hS1,← hS2,← hDD]
 have HS1:=Lib.hid hS1
 have HS2:=Lib.hid hS2
 have HDD:=Lib.hid hDD
 clear hS1 hS2 hDD
 have o1:=new_below w (rbox n A l c B m d)
 have o2:=new_below (w.alloc (rbox n A l c B m d)) (rbox n' A' l' c' B' m' d')
 have o3:=new_below ((w.alloc (rbox n A l c B m d)).alloc (rbox n' A' l' c' B' m' d')) (rbox false none 0 0 none 0 0)
 have b3:Below w.heap.size w (((w.alloc (rbox n A l c B m d)).alloc (rbox n' A' l' c' B' m' d')).alloc (rbox false none 0 0 none 0 0)):=(o1.alloc (by simp) _).alloc (by simp;omega) _
 have R1:=((RBox.make hz hq).move o2).move o3
 have R2:=(RBox.make (hz'.below o1) (hq'.below o1)).move o3
 have R4:=RBox.nil ((w.alloc (rbox n A l c B m d)).alloc (rbox n' A' l' c' B' m' d'))
 simp only [World.size_alloc] at R2 R4
 replace R1:=Lib.hid R1
 replace R2:=Lib.hid R2
 replace R4:=Lib.hid R4
 have Hb:=Lib.hid b3
 clear o1 o2 o3 b3 hz hq hz' hq'
 go_enter Tryz.func53,Tryz.ntmps53
 go_wp2_with fail
 refine (parts_any _ _ _ _ _ _ _ _ _ R1.out.hq.at_ sq (by omega)).mono ?_
 rintro e w1 ⟨rfl,hb1⟩
 replace R1:=Lib.hid (R1.out.move hb1)
 replace R2:=Lib.hid (R2.out.move hb1)
 replace R4:=Lib.hid (R4.out.move hb1)
 replace Hb:=Lib.hid (Hb.out.trans (hb1.mono Hb.out.size))
 have lt4:w.heap.size+1+1<w1.heap.size:=R4.out.lt
 have x0:=R2.out.c0
 have x1:=R2.out.c1
 have x2:=R2.out.c2
 have ltx:w.heap.size+1<w1.heap.size:=by omega
 have lty:w.heap.size+1<w1.heap.size+1:=by omega
 clear hb1
 go_wp2_with fail
 have k1:=new_below w1 (ibox n A l c)
 have k2:=new_below (w1.alloc (ibox n A l c)) (ibox false B m d)
 have kb:Below w1.heap.size w1 ((w1.alloc (ibox n A l c)).alloc (ibox false B m d)):=k1.alloc (by simp) _
 have i5:=(IBox.make R1.out.hz).move k2
 have hqP:IntN w1 false B m d (q:Int):=⟨by rw [Int.natAbs_natCast];exact R1.out.hq,by simp⟩
 have i6:=IBox.make (hqP.below k1)
 simp only [World.size_alloc] at i6
 replace R2:=Lib.hid (R2.out.move kb)
 replace R4:=Lib.hid (R4.out.move kb)
 replace Hb:=Lib.hid (Hb.out.trans (kb.mono Hb.out.size))
 have I5:=Lib.hid i5
 have I6:=Lib.hid i6
 clear k1 k2 kb i5 i6 hqP R1 x0 x1 x2
 refine (parts_any _ _ _ _ _ _ _ _ _ R2.out.hq.at_ sq' (by omega)).mono ?_
 rintro e w2 ⟨rfl,hb2⟩
 have hsz2:=hb2.size
 simp only [World.size_alloc] at hsz2
 replace I5:=Lib.hid (I5.out.move hb2)
 replace I6:=Lib.hid (I6.out.move hb2)
 replace R2:=Lib.hid (R2.out.move hb2)
 replace R4:=Lib.hid (R4.out.move hb2)
 replace Hb:=Lib.hid (Hb.out.trans (hb2.mono Hb.out.size))
 have k1:=new_below w2 (ibox n' A' l' c')
 have k2:=new_below (w2.alloc (ibox n' A' l' c')) (ibox false B' m' d')
 have kb:Below w2.heap.size w2 ((w2.alloc (ibox n' A' l' c')).alloc (ibox false B' m' d')):=k1.alloc (by simp) _
 have i7:=(IBox.make R2.out.hz).move k2
 have hqP:IntN w2 false B' m' d' (q':Int):=⟨by rw [Int.natAbs_natCast];exact R2.out.hq,by simp⟩
 have i8:=IBox.make (hqP.below k1)
 simp only [World.size_alloc] at i8
 replace I5:=Lib.hid (I5.out.move kb)
 replace I6:=Lib.hid (I6.out.move kb)
 replace R4:=Lib.hid (R4.out.move kb)
 replace Hb:=Lib.hid (Hb.out.trans (kb.mono Hb.out.size))
 have I7:=Lib.hid i7
 have I8:=Lib.hid i8
 clear k1 k2 kb i7 i8 hqP R2 hb2
 obtain ⟨wc,hwc⟩:∃ wc,wc=(w2.alloc (ibox n' A' l' c')).alloc (ibox false B' m' d'):=⟨_,rfl⟩
 have hszc:wc.heap.size=w2.heap.size+1+1:=by rw [hwc];simp
 go_wp2_with fail
 rw [← hwc] at I5 I6 I7 I8 R4 Hb ⊢
 clear hwc
 obtain ⟨g4,hg4⟩:∃ g,g=w.heap.size+1+1:=⟨_,rfl⟩
 obtain ⟨g5,hg5⟩:∃ g,g=w1.heap.size:=⟨_,rfl⟩
 obtain ⟨g6,hg6⟩:∃ g,g=w1.heap.size+1:=⟨_,rfl⟩
 obtain ⟨g7,hg7⟩:∃ g,g=w2.heap.size:=⟨_,rfl⟩
 obtain ⟨g8,hg8⟩:∃ g,g=w2.heap.size+1:=⟨_,rfl⟩
 rw [← hg4] at R4
 rw [← hg5] at I5
 rw [← hg6] at I6
 rw [← hg7] at I7
 rw [← hg8] at I8
 rw [← hg4,← hg6,← hg5,← hg8,← hg7]
 have l4:g4<wc.heap.size:=by omega
 have l4w:w.heap.size<g4:=by omega
 have l5:g5<wc.heap.size:=by omega
 have l6:g6<wc.heap.size:=by omega
 have l7:g7<wc.heap.size:=by omega
 have l8:g8<wc.heap.size:=by omega
 clear hg4 hg5 hg6 hg7 hg8 hszc hsz2 lt4 ltx lty
 have a0:=I5.out.c0
 have a1:=I5.out.c1
 have b0:=I6.out.c0
 have b1:=I6.out.c1
 have d0:=I7.out.c0
 have d1:=I7.out.c1
 have e0:=I8.out.c0
 have e1:=I8.out.c1
 refine wp_region_last (S:=fun w'=>w'.cell? ⟨g5,0,none⟩=some (.bool n)∧w'.cell? ⟨g5,1,none⟩=some (.slice A l c)∧w'.cell? ⟨g6,0,none⟩=some (.bool false)∧w'.cell? ⟨g6,1,none⟩=some (.slice B m d)∧w'.cell? ⟨g7,0,none⟩=some (.bool n')∧w'.cell? ⟨g7,1,none⟩=some (.slice A' l' c')∧w'.cell? ⟨g8,0,none⟩=some (.bool false)∧w'.cell? ⟨g8,1,none⟩=some (.slice B' m' d')) (by kernel_rfl) (by kernel_rfl) (by (try dsimp only);go_keep) (fun hHeld=>?_)
 simp only [List.pop_toArray,List.dropLast]
 (refine tk (i:=0) (v:=?_) rfl rfl (Or.inl ⟨by rfl,?_⟩) ?_;rotate_left;(focus (intro w hSw;(try dsimp only at hSw);go_simp;(try with_reducible rfl)));(simp only [put_lit,List.set]))
 (refine tk (i:=1) (v:=?_) rfl rfl (Or.inl ⟨by rfl,?_⟩) ?_;rotate_left;(focus (intro w hSw;(try dsimp only at hSw);go_simp;(try with_reducible rfl)));(simp only [put_lit,List.set]))
 (refine tk (i:=3) (v:=?_) rfl rfl (Or.inl ⟨by rfl,?_⟩) ?_;rotate_left;(focus (intro w hSw;(try dsimp only at hSw);go_simp;(try with_reducible rfl)));(simp only [put_lit,List.set]))
 (refine tk (i:=4) (v:=?_) rfl rfl (Or.inl ⟨by rfl,?_⟩) ?_;rotate_left;(focus (intro w hSw;(try dsimp only at hSw);go_simp;(try with_reducible rfl)));(simp only [put_lit,List.set]))
 (refine tk (i:=7) (v:=?_) rfl rfl (Or.inl ⟨by rfl,?_⟩) ?_;rotate_left;(focus (intro w hSw;(try dsimp only at hSw);go_simp;(try with_reducible rfl)));(simp only [put_lit,List.set]))
 (refine tk (i:=8) (v:=?_) rfl rfl (Or.inl ⟨by rfl,?_⟩) ?_;rotate_left;(focus (intro w hSw;(try dsimp only at hSw);go_simp;(try with_reducible rfl)));(simp only [put_lit,List.set]))
 refine wpAnyH_ready (rs:=[2]) (by kernel_rfl) (by simp) ?_
 refine AllReadyH.cons rfl (fun K hK=>?_) AllReadyH.nil;go_simp
 refine (imul_any _ _ _ _ _ _ _ _ _ _ _ ?_ ?_ fz.sm fq'.sm (fz.mulok _)).mono ?_
 ·exact I5.out.hz.at_.below Bel.go
 ·exact I8.out.hz.at_.below Bel.go
 rintro e w10 ⟨n10,A10,l10,c10,rfl,h10,hb10⟩
 rw [← HS1.out] at h10
 obtain ⟨hcx,hfx⟩:=bcellS hb10
 replace I6:=Lib.hid (I6.out.move (Below.trans Bel.go (hb10.mono (by simp<;>omega))))
 replace I7:=Lib.hid (I7.out.move (Below.trans Bel.go (hb10.mono (by simp<;>omega))))
 replace I8:=Lib.hid (I8.out.move (Below.trans Bel.go (hb10.mono (by simp<;>omega))))
 replace R4:=Lib.hid (R4.out.move (Below.trans Bel.go (hb10.mono (by simp<;>omega))))
 replace Hb:=Lib.hid (Hb.out.trans ((Below.trans Bel.go (hb10.mono (by simp<;>omega))).mono Hb.out.size))
 have H10:=Lib.hid h10
 refine hK.out _ _ ?_ (fun _=>?_)
 ·((try dsimp only);repeat' apply And.intro)<;>(rw [hcx _ (by go_simp)];go_simp)
 clear hHeld hK K hcx hfx;rename_i hHeld
 clear h10 hb10
 refine wpAnyH_ready (rs:=[5]) (by kernel_rfl) (by simp) ?_
 refine AllReadyH.cons rfl (fun K hK=>?_) AllReadyH.nil;go_simp
 refine (imul_any _ _ _ _ _ _ _ _ _ _ _ ?_ ?_ fz'.sm fq.sm (fz'.mulok _)).mono ?_
 ·exact I7.out.hz.at_.below Bel.go
 ·exact I6.out.hz.at_.below Bel.go
 rintro e w11 ⟨n11,A11,l11,c11,rfl,h11,hb11⟩
 rw [← HS2.out] at h11
 obtain ⟨hcx,hfx⟩:=bcellS hb11
 replace I6:=Lib.hid (I6.out.move (Below.trans Bel.go (hb11.mono (by simp<;>omega))))
 replace I8:=Lib.hid (I8.out.move (Below.trans Bel.go (hb11.mono (by simp<;>omega))))
 replace R4:=Lib.hid (R4.out.move (Below.trans Bel.go (hb11.mono (by simp<;>omega))))
 replace Hb:=Lib.hid (Hb.out.trans ((Below.trans Bel.go (hb11.mono (by simp<;>omega))).mono Hb.out.size))
 replace H10:=Lib.hid (H10.out.below (Below.trans Bel.go (hb11.mono (by simp<;>omega))))
 have H11:=Lib.hid h11
 refine hK.out _ _ ?_ (fun _=>?_)
 ·((try dsimp only);repeat' apply And.intro)<;>(rw [hcx _ (by go_simp)];go_simp)
 clear hHeld hK K hcx hfx;rename_i hHeld
 clear h11 hb11
 refine wpAnyH_ready (rs:=[6]) (by kernel_rfl) (by simp) ?_
 refine AllReadyH.cons rfl (fun K hK=>?_) AllReadyH.nil;go_simp
 refine (isub_any _ _ _ _ S1 _ _ _ _ S2 _ (H10.out.at_.below Bel.go) (H11.out.at_.below Bel.go) ss1 ss2 ssum).mono ?_
 rintro e w12 ⟨n12,A12,l12,c12,rfl,h12,hb12⟩
 obtain ⟨hcx,hfx⟩:=bcellS hb12
 replace I6:=Lib.hid (I6.out.move (Below.trans Bel.go (hb12.mono (by simp<;>omega))))
 replace I8:=Lib.hid (I8.out.move (Below.trans Bel.go (hb12.mono (by simp<;>omega))))
 replace R4:=Lib.hid (R4.out.move (Below.trans Bel.go (hb12.mono (by simp<;>omega))))
 replace Hb:=Lib.hid (Hb.out.trans ((Below.trans Bel.go (hb12.mono (by simp<;>omega))).mono Hb.out.size))
 have H12:=Lib.hid h12
 refine hK.out _ _ ?_ (fun _=>?_)
 ·((try dsimp only);repeat' apply And.intro)<;>(rw [hcx _ (by go_simp)];go_simp)
 clear hHeld hK K hcx hfx;rename_i hHeld
 clear h12 hb12 H10 H11
 refine wpAnyH_ready (rs:=[9]) (by kernel_rfl) (by simp) ?_
 refine AllReadyH.cons rfl (fun K hK=>?_) AllReadyH.nil;go_simp
 refine (imul_any _ _ _ _ _ _ _ _ _ _ _ ?_ ?_ fq.sm fq'.sm (fq.mulok _)).mono ?_
 ·exact I6.out.hz.at_.below Bel.go
 ·exact I8.out.hz.at_.below Bel.go
 rintro e w13 ⟨n13,A13,l13,c13,rfl,h13,hb13⟩
 have e13:(q:Int)*(q':Int)=(DD:Int):=by rw [HDD.out,Int.natCast_mul]
 rw [e13] at h13
 obtain ⟨hcx,hfx⟩:=bcellS hb13
 replace R4:=Lib.hid (R4.out.move (Below.trans Bel.go (hb13.mono (by simp<;>omega))))
 replace Hb:=Lib.hid (Hb.out.trans ((Below.trans Bel.go (hb13.mono (by simp<;>omega))).mono Hb.out.size))
 replace H12:=Lib.hid (H12.out.below (Below.trans Bel.go (hb13.mono (by simp<;>omega))))
 have H13:=Lib.hid h13
 refine hK.out _ _ ?_ (fun _=>?_)
 ·((try dsimp only);repeat' apply And.intro)<;>(rw [hcx _ (by go_simp)];go_simp)
 clear hHeld hK K hcx hfx;rename_i hHeld
 clear h13 hb13 e13
 refine wpAnyH_ready (rs:=[10]) (by kernel_rfl) (by simp) ?_
 refine AllReadyH.cons rfl (fun K hK=>?_) AllReadyH.nil;go_simp
 refine (reduce_all _ _ _ _ (S1-S2) _ _ _ _ DD _ (H12.out.below Bel.go) (H13.out.below Bel.go) sS sD hD0).mono ?_
 rintro e w14 ⟨⟨n14,A14,l14,c14,B14,m14,d14,rfl,h14,k14⟩,hb14⟩
 obtain ⟨hcx,hfx⟩:=bcellS hb14
 have j4:=R4.out.move (Below.trans Bel.go (hb14.mono (by simp<;>omega)))
 have Jb2:=Lib.hid (Hb.out.trans ((Below.trans Bel.go (hb14.mono (by simp<;>omega))).mono Hb.out.size))
 refine hK.out _ _ ?_ (fun _=>?_)
 ·((try dsimp only);repeat' apply And.intro)<;>(rw [hcx _ (by go_simp)];go_simp)
 clear hHeld hK K hcx hfx;rename_i hHeld
 refine wpAnyH_done (by kernel_rfl) (lastQ_list rfl ?_) _
 have HP:=Lib.hid (j4.put h14 k14)
 have r0:=j4.c0
 have r1:=j4.c1
 have r2:=j4.c2
 have r3:=j4.f0
 have r4:=j4.f1
 have r5:=j4.f2
 clear hHeld j4 h14 k14 hb14 a0 a1 b0 b1 d0 d1 e0 e1
 go_wp2
 refine bodyPost_ret (v:=.agg #[.bool n14,.slice A14 l14 c14,.slice B14 m14 d14]) (by simp [results,Tryz.results53,go_sem,r0,r1,r2]) rfl ⟨⟨_,_,_,_,_,_,_,rfl,HP.out.hz,HP.out.hq⟩,?_⟩
 exact ((Jb2.out.setCell (p:=⟨g4,0,none⟩) (by simp;omega) _).setCell (p:=⟨g4,1,none⟩) (by simp;omega) _).setCell (p:=⟨g4,2,none⟩) (by simp;omega) _
end Go.Proofs.YtbfddopopajgaabGreat
namespace Go.Proofs.YtbfddopopajgaabGreat
open Go Go.RowKit
section
variable {w:World} {r:Fq×Fq} {n:Bool} {A:Option Addr} {l c:Nat} {B:Option Addr} {m d:Nat} {n':Bool} {A':Option Addr} {l' c':Nat} {B':Option Addr} {m' d':Nat}
set_option maxRecDepth 100000 in
set_option maxHeartbeats 4000000 in
theorem width_any (hz:IntN w n A l c r.1.z) (hq:NatN w B m d r.1.q) (hz':IntN w n' A' l' c' r.2.z) (hq':NatN w B' m' d' r.2.q) (ha:FqB r.1) (hb:FqB r.2) :
 Calls Tryz.prog 13 #[.agg #[.bool n,.slice A l c,.slice B m d,.bool n',.slice A' l' c',.slice B' m' d']] w fun e w'=>RatE (r.2.sub r.1).z (r.2.sub r.1).q e w'∧Below w.heap.size w w':=by
 have o1:=below_new w (tbox n A l c B m d n' A' l' c' B' m' d')
 have o2:=below_new (w.alloc (tbox n A l c B m d n' A' l' c' B' m' d')) (rbox false none 0 0 none 0 0)
 have b2:Below w.heap.size w ((w.alloc (tbox n A l c B m d n' A' l' c' B' m' d')).alloc (rbox false none 0 0 none 0 0)):=o1.alloc (by simp) _
 have T:=Lib.hid ((TBox.make hz hq hz' hq').move o2)
 have r4:=RBox.nil (w.alloc (tbox n A l c B m d n' A' l' c' B' m' d'))
 simp only [World.size_alloc] at r4
 have R4:=Lib.hid r4
 have Hb:=Lib.hid b2
 obtain ⟨g4,hg4⟩:∃ g,g=w.heap.size+1:=⟨_,rfl⟩
 rw [← hg4] at R4
 have HG4:=Lib.hid hg4
 have Hg:=Lib.hid (show w.heap.size≤g4 by omega)
 clear hz hq hz' hq' o1 o2 b2 r4 hg4
 go_enter Tryz.func13,Tryz.ntmps13
 have x0:=T.out.r.c0;have x1:=T.out.r.c1;have x2:=T.out.r.c2;have x3:=T.out.c3;have x4:=T.out.c4;have x5:=T.out.c5
 go_wp2_with fail
 refine (rsub_any _ _ _ _ _ _ _ _ _ _ _ _ _ _ _ _ _ _ _ T.out.hz T.out.hq T.out.r.hz T.out.r.hq hb.fz hb.fq hb.p ha.fz ha.fq ha.p).mono ?_
 rintro e w1 ⟨⟨n1,A1,l1,c1,B1,m1,d1,rfl,h1,k1⟩,hb1⟩
 have j4:=R4.out.move hb1
 have HP:=Lib.hid (show IntN (put3 w1 g4 n1 A1 l1 c1 B1 m1 d1) n1 A1 l1 c1 (r.2.sub r.1).z∧NatN (put3 w1 g4 n1 A1 l1 c1 B1 m1 d1) B1 m1 d1 (r.2.sub r.1).q from ⟨(j4.put (z':=(r.2.sub r.1).z) (q':=(r.2.sub r.1).q) h1 k1).hz,(j4.put (z':=(r.2.sub r.1).z) (q':=(r.2.sub r.1).q) h1 k1).hq⟩)
 replace Hb:=Lib.hid (Hb.out.trans (hb1.mono Hb.out.size))
 have r0:=j4.c0
 have r1:=j4.c1
 have r2:=j4.c2
 have r3:=j4.f0
 have r4:=j4.f1
 have r5:=j4.f2
 rw [← HG4.out]
 clear j4 h1 k1 hb1 x0 x1 x2 x3 x4 x5 T R4
 go_wp2_with fail
 refine bodyPost_ret (v:=.agg #[.bool n1,.slice A1 l1 c1,.slice B1 m1 d1]) (by simp [results,Tryz.results13,go_sem,r0,r1,r2]) rfl ⟨⟨_,_,_,_,_,_,_,rfl,HP.out.1,HP.out.2⟩,?_⟩
 exact ((Hb.out.setCell (p:=⟨g4,0,none⟩) Hg.out _).setCell (p:=⟨g4,1,none⟩) Hg.out _).setCell (p:=⟨g4,2,none⟩) Hg.out _
variable {s:Fq×Fq} {n₂:Bool} {A₂:Option Addr} {l₂ c₂:Nat} {B₂:Option Addr} {m₂ d₂:Nat} {n₃:Bool} {A₃:Option Addr} {l₃ c₃:Nat} {B₃:Option Addr} {m₃ d₃:Nat}
end
end Go.Proofs.YtbfddopopajgaabGreat
namespace Go.Proofs.YtbfddopopajgaabGreat
open Go Go.RowKit
section
variable {f g:List Int} {a:Fq} {x:Pt} {r:Fq×Fq}
theorem fq_zero (ha:0<a.q):a.z=0↔a.v=0:=by
 have hq:(0:Rat)<((a.q:Nat):Rat):=by exact_mod_cast ha
 have hv:a.v*((a.q:Nat):Rat)=(a.z:Rat):=by
  unfold Fq.v
  rw [Rat.div_mul_cancel (by grind)]
 constructor
 ·intro e
  unfold Fq.v
  rw [e,Rat.div_def]
  show (0:Rat)*_=0
  grind
 ·intro e
  rw [e,Rat.zero_mul] at hv
  have:((0:Int):Rat)=(a.z:Rat):=hv
  exact (Rat.intCast_inj.1 this).symm
end
set_option maxRecDepth 100000 in
set_option maxHeartbeats 16000000 in
theorem law_rsigns (A0:Option Addr) (l0 c0:Nat) (p0:List Int) (A1:Option Addr) (l1 c1:Nat) (p1:List Int) (k:Nat) (w:World) (h0:I16At w A0 l0 c0 p0) (h1:I16At w A1 l1 c1 p1) (hl0:l0≤9223372036854775807) (hl1:l1≤9223372036854775807) (hk:k≤255) :
  Calls Tryz.prog 3 #[.slice A0 l0 c0,.slice A1 l1 c1,.int .u8 (k:Int)] w fun e w'=>e=.returned (.bool true)∧Below w.heap.size w w':=by
 have sF:=short_s6 h0 (show 6≤6 by omega)
 have sG:=short_s6 h1 (show 6≤6 by omega)
 obtain ⟨F,hF⟩:∃ F,F=ptrim (p0.take 6):=⟨_,rfl⟩
 obtain ⟨G,hG⟩:∃ G,G=ptrim (p1.take 6):=⟨_,rfl⟩
 rw [← hF] at sF
 rw [← hG] at sG
 have HFe:=Lib.hid hF.symm
 have HGe:=Lib.hid hG.symm
 have SF:=Lib.hid sF
 have SG:=Lib.hid sG
 have Hi:=Lib.hid h0
 have Hj:=Lib.hid h1
 have lF:=sF.len
 have lG:=sG.len
 have F9:=sF.p9
 clear h0 h1 hF sF hG sG
 go_enter Tryz.func3,Tryz.ntmps3
 go_wp2_with fail
 refine (awake18_any _).mono ?_
 rintro e w1 ⟨rfl,hb1⟩
 replace Hi:=Lib.hid (Hi.out.below hb1)
 replace Hj:=Lib.hid (Hj.out.below hb1)
 have Hb:=Lib.hid hb1
 clear hb1
 go_wp2_with fail
 refine (short_any _ _ _ 6 _ _ Hi.out (by omega) hl0).mono ?_
 rintro e w2 ⟨Af,lf,cf,rfl,h2f,hb2⟩
 rw [HFe.out] at h2f
 have hlf:lf≤6:=by have:=h2f.length;omega
 have HP:=Lib.hid h2f
 replace Hj:=Lib.hid (Hj.out.below hb2)
 replace Hb:=Lib.hid (Hb.out.trans (hb2.mono Hb.out.size))
 clear hb2 h2f Hi
 go_wp2_with fail
 refine (short_any _ _ _ 6 _ _ Hj.out (by omega) hl1).mono ?_
 rintro e w3 ⟨Ag,lg,cg,rfl,h3g,hb3⟩
 rw [HGe.out] at h3g
 have hlg:lg≤6:=by have:=h3g.length;omega
 have HG:=Lib.hid h3g
 replace HP:=Lib.hid (HP.out.below ikN hb3)
 replace Hb:=Lib.hid (Hb.out.trans (hb3.mono Hb.out.size))
 clear hb3 h3g Hj
 go_wp2_with fail
 refine (pick_any ikN HP.out (by omega) F9 hk).mono ?_
 rintro e w4 ⟨hpk,hb4⟩
 replace HP:=Lib.hid (HP.out.below ikN hb4)
 replace HG:=Lib.hid (HG.out.below ikN hb4)
 replace Hb:=Lib.hid (Hb.out.trans (hb4.mono Hb.out.size))
 clear hb4
 rcases hpk with ⟨_,rfl⟩ | ⟨hpos,n,A,l,c,B,m,d,n',A',l',c',B',m',d',rfl,z1,z2,z3,z4⟩
 ·have jb:=below_new w4 (.cells rz6 34)
  replace Hb:=Lib.hid (Hb.out.trans (jb.mono Hb.out.size))
  clear jb
  go_wp2_with fail
  go_ret
  exact ⟨rfl,Hb.out⟩
 have hj:k % (proots F).length<(proots F).length:=Nat.mod_lt _ hpos
 have hF0:plen F≠0:=fun e=>by rw [proots_nil e] at hpos;cases hpos
 obtain ⟨xs,hxs⟩:=rf_ex F9 hF0
 obtain ⟨i,hi,hst⟩:=proots_ast hxs (by rw [← hxs.len];exact hj)
 obtain ⟨x,hx⟩:∃ x,x=xs.getD (k % (proots F).length) default:=⟨_,rfl⟩
 obtain ⟨r,hr⟩:∃ r,r=(proots F).getD (k % (proots F).length) r00:=⟨_,rfl⟩
 rw [← hr] at z1 z2 z3 z4 hst
 rw [← hx] at hst
 obtain ⟨fa,fb,_⟩:=hst.fqb F9 hF0 hi
 have T9:=Lib.hid (TBox.make z1 z2 z3 z4)
 have jb:=below_new w4 (tbox n A l c B m d n' A' l' c' B' m' d')
 replace HP:=Lib.hid (HP.out.below ikN jb)
 replace HG:=Lib.hid (HG.out.below ikN jb)
 replace Hb:=Lib.hid (Hb.out.trans (jb.mono Hb.out.size))
 have HST:=Lib.hid hst
 have HI:=Lib.hid hi
 have HF0:=Lib.hid hF0
 have hFx:=hst.iso.1
 obtain ⟨S,hS⟩:∃ S,S=sgp G x:=⟨_,rfl⟩
 have HS:=Lib.hid hS
 have hSb:-1≤S∧S≤1:=by rw [hS];rcases sgp_or G x with e | e | e<;>omega
 have hSS:-1≤S*S∧S*S≤1:=by rw [hS];rcases sgp_or G x with e | e | e<;>rw [e]<;>decide
 have wSS:IntKind.i64.wrap (S*S)=S*S:=IntWalk.i64_in _ (by omega)
 have HX:=Lib.hid (show sgp (bigH F G) x=S*S by rw [bigH_x hFx,hS])
 have HZ:=Lib.hid (show ZaG F (bigH F G) x from zag_bigH SF.out hF0 SG.out)
 have HO:=Lib.hid (show sgp (bigH F G) x≠0→AwO F (bigH F G) x from fun e=>awo_bigH SF.out hF0 SG.out hFx e)
 have sb:∀ j,(G.getD j 0).natAbs≤BB^2:=fun j=>Nat.le_trans (s6_one SG.out j) (bbk_le (by decide))
 have HZG:=Lib.hid (show ZaG F G x from zag_big SF.out hF0 (by omega) sb)
 have HOG:=Lib.hid (show sgp G x≠0→AwO F G x from fun e=>awo_big SF.out hF0 (by omega) sb e fun y hy=>⟨G,SG.out.t,by have:=SG.out.pl;omega,fun j=>Nat.le_trans (sb j) (bbk_le (by decide)),e,hy,fun z hz=>hz⟩)
 have hq:=sgA_eq (f:=F) (Q:=F) (g:=G) (r:=r) F9 SF.out.pl SG.out.g6 hF0 (fun _=>Iff.rfl) fa fb hst.iso
 rw [← hS] at hq
 have HML:=Lib.hid (show (polymul G G).length≤100∧(polymul F G).length≤100 from ⟨by have:=polymul_le G G;omega,by have:=polymul_le F G;omega⟩)
 have hm1:∀ j,((polymul G G).getD j 0).natAbs≤BB^2:=fun j=>Nat.le_trans (mul_s6 SG.out SG.out j) (by rw [BB_eq];decide)
 have hm2:∀ j,((polymul F G).getD j 0).natAbs≤BB^2:=fun j=>Nat.le_trans (mul_s6 SF.out SG.out j) (by rw [BB_eq];decide)
 have HSM:=Lib.hid (show SmP (polymul G G)∧SmP (polymul F G)∧∀ k,Sm (((polymul G G).getD k 0).natAbs+((polymul F G).getD k 0).natAbs) from ⟨(big_fit (by decide) hm1).smp,(big_fit (by decide) hm2).smp,fun j=>by
  have h3:dlen (((polymul G G).getD j 0).natAbs+((polymul F G).getD j 0).natAbs)≤3:=dlen_le_of_lt (by
   have h1:=hm1 j
   have h2:=hm2 j
   have h3:2*BB^2<BB^3:=by rw [BB_eq];decide
   omega)
  exact Nat.le_trans h3 (by omega)⟩)
 have hw:=fa.sz
 have wsz:=fb.sz.sub fa.sz
 have wv:=Fq.sub_v fb.p fa.p
 have wz:=fq_zero wsz.p
 rw [wv] at wz
 obtain ⟨W,hW⟩:∃ W,W=r.2.sub r.1:=⟨_,rfl⟩
 rw [← hW] at wsz wz
 have HW:=Lib.hid hW
 have wfz:=wsz.fz (by rw [ZK_eq,FW_eq];decide)
 have wfq:=wsz.fq (by rw [ZK_eq,FW_eq];decide)
 have wq0:W.q≠0:=by have:=wsz.p;omega
 have wsq:Sm W.q:=by have:=wfq.sm;unfold SmI at this;rwa [Int.natAbs_natCast] at this
 have fz:=fcmp_zero fa.p fb.p
 unfold sgA at hq
 obtain ⟨U,hU⟩:∃ U,U=nquery F G r.1.z r.1.q r.2.z r.2.q:=⟨_,rfl⟩
 obtain ⟨V,hV⟩:∃ V,V=r.1.sgn G:=⟨_,rfl⟩
 rw [← hU,← hV] at hq
 have HU:=Lib.hid hU
 have HV:=Lib.hid hV
 have HQ1:=Lib.hid (show r.1.v=r.2.v→V=S from fun e=>by rw [if_pos (fz.2 e)] at hq;exact hq)
 have HQ2:=Lib.hid (show r.1.v≠r.2.v→U=S from fun e=>by rw [if_neg (fun h=>e (fz.1 h))] at hq;exact hq)
 have WZ:=Lib.hid wz
 have pg:=(g6_cp SG.out.g6).at (z:=r.1.z) (q:=r.1.q) (by omega) fa.z fa.q
 clear z1 z2 z3 z4 jb hst hi hF0 hpos hj hxs hx hr hFx hS hq hm1 hm2 hw sb wsz wv wz hW fz hU hV
 obtain ⟨g9,hg9⟩:∃ g,g=w4.heap.size:=⟨_,rfl⟩
 obtain ⟨wb,hwb⟩:∃ wb,wb=w4.alloc (tbox n A l c B m d n' A' l' c' B' m' d'):=⟨_,rfl⟩
 have x0:=T9.out.r.c0;have x1:=T9.out.r.c1;have x2:=T9.out.r.c2;have x3:=T9.out.c3;have x4:=T9.out.c4;have x5:=T9.out.c5
 go_wp2_with fail
 rw [← hwb,← hg9] at T9 x0 x1 x2 x3 x4 x5
 rw [← hwb] at HP HG Hb ⊢
 rw [← hg9]
 clear hwb hg9
 refine (query_any ikN ikN _ _ _ F _ _ _ G _ _ _ _ _ _ _ r.1.q r.1.z _ _ _ _ _ _ _ r.2.q r.2.z _ HP.out HG.out (by omega) F9 SF.out.pl SG.out.g6 T9.out.r.hz T9.out.r.hq T9.out.hz T9.out.hq fa.at fb.at fa.z fa.q fb.z fb.q).mono ?_
 rintro e w6 ⟨he,hb6⟩
 rw [← HU.out] at he
 subst he
 clear x0 x1 x2 x3 x4 x5
 replace HP:=Lib.hid (HP.out.below ikN hb6);replace HG:=Lib.hid (HG.out.below ikN hb6);replace T9:=Lib.hid (T9.out.move hb6);replace Hb:=Lib.hid (Hb.out.trans ((hb6).mono Hb.out.size))
 clear hb6
 have x0:=T9.out.r.c0;have x1:=T9.out.r.c1;have x2:=T9.out.r.c2;have x3:=T9.out.c3;have x4:=T9.out.c4;have x5:=T9.out.c5
 go_wp2_with fail
 refine (width_any (r:=r) T9.out.r.hz T9.out.r.hq T9.out.hz T9.out.hq fa fb).mono ?_
 rintro e w7 ⟨⟨n7,A7,l7,c7,B7,m7,d7,rfl,y1,y2⟩,hb7⟩
 rw [← HW.out] at y1 y2
 clear x0 x1 x2 x3 x4 x5
 replace HP:=Lib.hid (HP.out.below ikN hb7);replace HG:=Lib.hid (HG.out.below ikN hb7);replace T9:=Lib.hid (T9.out.move hb7);replace Hb:=Lib.hid (Hb.out.trans ((hb7).mono Hb.out.size))
 clear hb7
 go_wp2_with fail
 refine (rsign_any _ _ _ _ _ _ _ W.q W.z _ y1.at_ y2.at_ wsq wfz.sm wq0).mono ?_
 rintro e w8 ⟨rfl,hb8⟩
 replace HP:=Lib.hid (HP.out.below ikN hb8);replace HG:=Lib.hid (HG.out.below ikN hb8);replace T9:=Lib.hid (T9.out.move hb8);replace Hb:=Lib.hid (Hb.out.trans ((hb8).mono Hb.out.size))
 clear hb8 y1 y2
 obtain ⟨Y,hY⟩:∃ Y,Y=sg W.z:=⟨_,rfl⟩
 have HY:=Lib.hid hY
 rw [← hY]
 clear hY
 obtain ⟨wk,hwk⟩:∃ wk,wk=w8:=⟨_,rfl⟩
 rw [← hwk] at T9 HP HG Hb ⊢
 clear hwk
 go_upto_if 41 with (fail)
 go_cut [11] (fun s11 wx=>s11=.int .i64 S∧Below wk.heap.size wk wx)
 case first =>
  by_cases ez:W.z=0
  ·have ev:V=S:=HQ1.out (by have:=WZ.out.1 ez;grind)
   have sz:Y=0:=by rw [HY.out,ez];rfl
   have sz1:(Y == 0)=true:=by rw [sz];rfl
   clear ez
   have x0:=T9.out.r.c0;have x1:=T9.out.r.c1;have x2:=T9.out.r.c2;have x3:=T9.out.c3;have x4:=T9.out.c4;have x5:=T9.out.c5
   go_wp2_with fail
   refine (signat_any ikN _ _ _ G _ _ _ _ _ _ _ _ _ _ HG.out pg.fit (by omega) T9.out.r.hz T9.out.r.hq fa.at.u fa.at.v fa.at.pos pg.ok fa.at.fz fa.at.fq).mono ?_
   rintro e w9 ⟨he,hb9⟩
   have he2:e=.returned (.int .i64 S):=by rw [← ev,HV.out];exact he
   subst he2
   clear x0 x1 x2 x3 x4 x5
   have Hk:=Lib.hid hb9
   clear he hb9 ev
   go_wp2_with fail
   go_meet
   exact ⟨rfl,Hk.out⟩
  ·have eu:U=S:=HQ2.out (fun e=>ez (WZ.out.2 (by grind)))
   subst eu
   have sz:(Y == 0)=false:=by
    rw [beq_eq_false_iff_ne,HY.out]
    rcases sg_cases W.z with ⟨h,e⟩ | ⟨h,e⟩ | ⟨h,e⟩<;>omega
   have sz2:Y≠0:=by rw [HY.out];rcases sg_cases W.z with ⟨h,e⟩ | ⟨h,e⟩ | ⟨h,e⟩<;>omega
   clear ez
   go_wp2_with fail
   go_meet
   exact ⟨rfl,Bel.go⟩
 case rest =>
  obtain ⟨rfl,hbc⟩:=hcut
  replace HP:=Lib.hid (HP.out.below ikN hbc);replace HG:=Lib.hid (HG.out.below ikN hbc);replace T9:=Lib.hid (T9.out.move hbc);replace Hb:=Lib.hid (Hb.out.trans ((hbc).mono Hb.out.size))
  clear hbc
  have x0:=T9.out.r.c0;have x1:=T9.out.r.c1;have x2:=T9.out.r.c2;have x3:=T9.out.c3;have x4:=T9.out.c4;have x5:=T9.out.c5;go_wp2_with fail;refine (signr_g (r:=r) HP.out SF.out HF0.out HG.out HZG.out HOG.out T9.out.r.hz T9.out.r.hq T9.out.hz T9.out.hq HI.out HST.out).mono ?_;rintro e w10 ⟨he,hb10⟩;rw [← HS.out] at he;subst he;clear x0 x1 x2 x3 x4 x5;replace HP:=Lib.hid (HP.out.below ikN hb10);replace HG:=Lib.hid (HG.out.below ikN hb10);replace T9:=Lib.hid (T9.out.move hb10);replace Hb:=Lib.hid (Hb.out.trans ((hb10).mono Hb.out.size));clear hb10;go_wp2_with fail;refine (polymul_any ikN ikN _ _ _ G _ _ _ G _ HG.out HG.out SG.out.g6.fit SG.out.g6.fit (by omega) (by omega)).mono ?_;rintro e w11 ⟨A11,l11,c11,rfl,h11,hb11⟩;rw [SG.out.t] at h11;have HA:=Lib.hid h11;replace HP:=Lib.hid (HP.out.below ikN hb11);replace HG:=Lib.hid (HG.out.below ikN hb11);replace T9:=Lib.hid (T9.out.move hb11);replace Hb:=Lib.hid (Hb.out.trans ((hb11).mono Hb.out.size));clear h11 hb11;go_wp2_with fail;refine (polymul_any ikN ikN _ _ _ F _ _ _ G _ HP.out HG.out SF.out.g6.fit SG.out.g6.fit (by omega) (by omega)).mono ?_;rintro e w12 ⟨A12,l12,c12,rfl,h12,hb12⟩;rw [SF.out.t,SG.out.t] at h12;have HB:=Lib.hid h12;replace HA:=Lib.hid (HA.out.below ikN hb12);replace HP:=Lib.hid (HP.out.below ikN hb12);replace HG:=Lib.hid (HG.out.below ikN hb12);replace T9:=Lib.hid (T9.out.move hb12);replace Hb:=Lib.hid (Hb.out.trans ((hb12).mono Hb.out.size));clear h12 hb12;have hl11:l11≤100:=(by have:=HA.out.length;have:=HML.out.1;omega);have hl12:l12≤100:=(by have:=HB.out.length;have:=HML.out.2;omega);go_wp2_with fail;refine (polyadd_any ikN ikN _ _ _ (polymul G G) _ _ _ (polymul F G) _ HA.out HB.out HSM.out.1 HSM.out.2.1 HSM.out.2.2 (by omega) (by omega)).mono ?_;rintro e w13 ⟨A13,l13,c13,rfl,h13,hb13⟩;have HH:=Lib.hid (show PolyN w13 A13 l13 c13 (bigH F G) from h13);replace HP:=Lib.hid (HP.out.below ikN hb13);replace HG:=Lib.hid (HG.out.below ikN hb13);replace T9:=Lib.hid (T9.out.move hb13);replace Hb:=Lib.hid (Hb.out.trans ((hb13).mono Hb.out.size));clear h13 hb13 HA HB;have x0:=T9.out.r.c0;have x1:=T9.out.r.c1;have x2:=T9.out.r.c2;have x3:=T9.out.c3;have x4:=T9.out.c4;have x5:=T9.out.c5;go_wp2_with fail;refine (signr_g (r:=r) HP.out SF.out HF0.out HH.out HZ.out HO.out T9.out.r.hz T9.out.r.hq T9.out.hz T9.out.hq HI.out HST.out).mono ?_;rintro e w14 ⟨he,hb14⟩;rw [HX.out] at he;subst he;replace Hb:=Lib.hid (Hb.out.trans (hb14.mono Hb.out.size));clear x0 x1 x2 x3 x4 x5;clear hb14 HH T9 HP HG;go_wp2_with fail;go_ret;exact ⟨by first | rfl | simp,Hb.out⟩
end Go.Proofs.YtbfddopopajgaabGreat
namespace Go.Proofs.YtbfddopopajgaabGreat
open Go.ChangeShapes Go.WideShapes Go.ChangeAt Go.RowKit
set_option maxRecDepth 100000 in
theorem rsigns_lifted (os:Os) (started:os.Started) (H:Type) (enc:TypeId×Value→H) :
 ReturnsInHanded {} Tryz.checked os 3 .any (Rows.refineSignsSpec.pre6 enc Tryz.prog Tryz.f3 Rows.refineSignsRow.domain false) (Rows.refineSignsSpec.post enc Tryz.prog Tryz.f3 false true false false):=by
 refine returnsInHanded_of_change (C:=Tryz.checked) Tryz.own started (by kernel_rfl) Tryz.func3
  (ChangeSpec.witness6 (enc:=enc) (C:=Tryz.checked) false ⟨#[],#[.slice none 0 0,.slice none 0 0,.int .u8 0],[]⟩ 8 (by kernel_rfl) (by kernel_rfl) (by kernel_rfl) (by kernel_rfl)) ?_
 intro W base args ds gs before hval0 hW hcnd _
 exact lifted_two16u8 _ Tryz.f3 Tryz.params3 rfl enc _ rfl (fun _ _ _=>rfl) (fun A la ca p B lb cb q n w h h' hla hlb hn=>by obtain ⟨k,rfl⟩:=Int.eq_ofNat_of_zero_le hn.1;exact law_rsigns A la ca p B lb cb q k w h h' hla hlb (by omega)) W args ds gs before hval0 hW
theorem refineSigns_holds:Rows.RefineSignsSaid :=
 OpenClaim.holds_of_wide 3 Tryz.f3 rfl rfl rfl rfl rfl rfl rfl ⟨rfl,rfl,rfl,rfl,rfl⟩ rfl rfl rfl rfl rfl (by kernel_rfl) Tryz.func3 (by kernel_rfl)
  (of_decide_eq_true (by kernel_rfl)) (by unfold Func.isWrapper;first | (rw [if_pos (by decide +kernel)];kernel_rfl) | (rw [if_neg (by decide +kernel)];exact ⟨rfl,rfl⟩))
  (fun os started H enc _=>rsigns_lifted os started H enc)
#print axioms refineSigns_holds
end Go.Proofs.YtbfddopopajgaabGreat
