/- For any two slices of int16s and any uint8 the law RefineApart returns true and its arguments read as before: refine.Apart isolates a root away from the roots of another polynomial, or says that it is one of them. No condition. -/
import Derived.Test.YtbfddopopajgaaaGreatRowP
import Derived.OpenShut
import Derived.Test.YtbfddopopajgaaaGreatHfp
import Derived.Test.YtbfddopopajgaaaGreatIvp
import Derived.Test.YtbfddopopajgaaaGreatTkr
import Derived.Test.YtbfddopopajgaaaGreatAdp
import Derived.Test.YtbfddopopajgaaaGreatExq
import Derived.Test.YtbfddopopajgaaaGreatApg
import Derived.Test.YtbfddopopajgaaaGreatStd
import Derived.Test.YtbfddopopajgaaaGreatRed
import Derived.Test.YtbfddopopajgaaaGreatIdP
import Derived.Test.YtbfddopopajgaaaGreatLin
namespace Go.Proofs.YtbfddopopajgaaaGreat
open Go.ChangeShapes Go.WideShapes Go.ChangeAt Go.RowKit
theorem u8_wf {n:Int} (h:(Lit.int .u8 n).wf=true):0≤n∧n≤255:=by
 have h1:IntKind.u8.min=0:=rfl
 have h2:IntKind.u8.max=255:=rfl
 simp only [Lit.wf,Bool.and_eq_true,decide_eq_true_eq] at h
 omega
end Go.Proofs.YtbfddopopajgaaaGreat
namespace Go.Proofs.YtbfddopopajgaaaGreat
open Go.ChangeShapes Go.WideShapes Go.ChangeAt Go.RowKit
set_option maxRecDepth 100000 in
theorem lifted_two16u8 (f:Nat) (fn:Func) (hp:fn.params=#[22,22,5]) (hr:fn.resultTypes=#[4]) {H:Type} (enc:TypeId×Value→H) (spec:ChangeSpec) (hsv:spec.vars=[]) (hsf:∀ d d' d'',spec.fn H [d,d',d'']={ results:=[.lit (.bool true)],args:=[d,d',d''] })
 (walk:∀ A la ca p B lb cb q n w,I16At w A la ca p→I16At w B lb cb q→la≤9223372036854775807→lb≤9223372036854775807→(0≤n∧n≤255)→Calls Tryz.prog f #[.slice A la ca,.slice B lb cb,.int .u8 n] w fun e w'=>e=.returned (.bool true)∧Below w.heap.size w w')
 (W:World) (args:Array Value) (ds gs:List (DataW H)) (before:List MemPlace)
 (hval:∀ (j:Nat) t v,fn.params[j]?=some t→args[j]?=some v→Value.okWide Tryz.prog W .any 0 t v)
 (hW:DataW.Whole enc Tryz.prog fn.params.toList spec.vars false W args.toList ds gs before) :
 Calls Tryz.prog f args W fun e W'=>∃ v,e=Ending.returned v∧spec.post enc Tryz.prog fn false true false false W args v W':=by
 have hW':=hW
 obtain ⟨p,q,hA0,hV,rfl,_,_⟩:=hW
 have hA:DataW.TrodAll enc Tryz.prog W 0 (fun _=>true) true fn.params.toList args.toList ds p:=hA0
 rw [hp] at hA hval
 obtain ⟨v0,v1,v2,d0,d1,d2,p0,p1,p2,rfl,rfl,rfl,h0,h1,h2⟩:=trodAll_three hA
 rw [hsv] at hV
 obtain ⟨rfl,rfl⟩:=trodVars_none hV
 obtain ⟨a0,la,ca,rfl⟩:=okWide_slice Tryz.underlying22 (hval 0 22 v0 rfl rfl)
 obtain ⟨a1,lb,cb,rfl⟩:=okWide_slice Tryz.underlying22 (hval 1 22 v1 rfl rfl)
 obtain ⟨n,rfl,rfl,rfl,wn⟩:=open_int Tryz.underlying5 (hval 2 5 v2 rfl rfl) h2
 simp only [List.append_nil] at hW'
 have hlt:∀ x∈p0 ++ p1,x.block<W.heap.size:=fun x hx=>by simpa using hW'.lt x hx
 have hlt0:∀ x∈p0,x.block<W.heap.size:=fun x hx=>hlt x (List.mem_append.2 (.inl hx))
 have hlt1:∀ x∈p1,x.block<W.heap.size:=fun x hx=>hlt x (List.mem_append.2 (.inr hx))
 obtain ⟨hla,zs,hz⟩:=open_i16 h0 hlt0
 obtain ⟨hlb,ys,hy⟩:=open_i16 h1 hlt1
 refine (walk a0 la ca zs a1 lb cb ys n W hz hy hla hlb (u8_wf wn)).mono fun e W' ⟨he,hb⟩=>?_
 subst he
 refine ⟨_,rfl,post_below (pa:=p0 ++ p1) (pv:=[]) hW' (fun _ _ _=>?_) (fun sp hs=>?_) (fun _ _=>?_) (by simp) hb ?_⟩
 ·rw [List.append_nil,hsf,hr]
  exact trodAll_mk1 (shut_bool Tryz.underlying4 _)
 ·rw [List.append_nil,hsf,hp]
  have h3:=trodAll_mk3 (Go.WideElems.Trod_stays Tryz.laidOut (by kernel_rfl) (of_decide_eq_true (by kernel_rfl)) h0 (fun x hx=>hb.same (hlt0 x hx)) (fun x hx=>hs x (List.mem_append.2 (.inl hx)))) (Go.WideElems.Trod_stays Tryz.laidOut (by kernel_rfl) (of_decide_eq_true (by kernel_rfl)) h1 (fun x hx=>hb.same (hlt1 x hx)) (fun x hx=>hs x (List.mem_append.2 (.inr hx)))) (shut_int (enc:=enc) (w:=W') (base:=0) (spare:=sp) (held:=true) Tryz.underlying5 wn)
  simpa using h3
 ·rw [hsv,List.append_nil,hsf]
  rfl
 ·exact ok_one hr rfl (okWide_bool_mk Tryz.underlying4 _)
end Go.Proofs.YtbfddopopajgaaaGreat
namespace Go.Proofs.YtbfddopopajgaaaGreat
open Go.RowKit
section
variable {K i j:Nat} {a b:Fq} {r:Fq×Fq} {Q f:List Int}
theorem Dy.le (h:Dy K i a) (hij:i≤j):Dy K j a:=⟨h.p,Nat.dvd_trans h.d (Nat.pow_dvd_pow 2 hij),h.z⟩
theorem Dy.nf (h:Dy K i a):Dy K i a.nf:=by
 have hp:=(Go.Proofs.YtbfddopopajgaaaGreat.nf_v (z:=a.z) h.p).2.1
 obtain ⟨g,hg⟩:∃ g,g=Nat.gcd a.z.natAbs a.q:=⟨_,rfl⟩
 have hg0:0<g:=by rw [hg];exact Nat.gcd_pos_of_pos_right _ h.p
 have d2:g∣a.q:=by rw [hg];exact Nat.gcd_dvd_right _ _
 have d1:g∣a.z.natAbs:=by rw [hg];exact Nat.gcd_dvd_left _ _
 have eq:a.nf.q=a.q / g:=by rw [hg];rfl
 have ez:a.nf.z.natAbs=a.z.natAbs / g:=by
  show (rz a.z a.q).natAbs=_
  unfold rz
  rw [Int.natAbs_tdiv,hg,Int.natAbs_natCast];rfl
 refine ⟨hp,?_,?_⟩
 ·rw [eq];exact Nat.dvd_trans (Nat.div_dvd_of_dvd d2) h.d
 ·rw [ez,eq,← Nat.mul_div_assoc _ d2]
  exact Nat.div_le_div_right h.z
def DyR (K i:Nat) (r:Fq×Fq):Prop:=Dy K i r.1∧Dy K i r.2
theorem DyR.le (h:DyR K i r) (hij:i≤j):DyR K j r:=⟨h.1.le hij,h.2.le hij⟩
theorem hlf_dy (h:DyR K i r):DyR K (i+1) (hlf Q r):=by
 have hm:=h.1.mid h.2
 unfold hlf
 split
 ·exact h.le (Nat.le_succ _)
 ·split
  ·exact ⟨hm.nf,hm.nf⟩
  ·split
   ·exact ⟨hm,h.2.up⟩
   ·exact ⟨h.1.up,hm⟩
structure DyW (K:Nat) (W:Rat) (i:Nat) (r:Fq×Fq):Prop where
 d:DyR K i r
 w:r.1.v=r.2.v∨(r.2.v-r.1.v)*2^i=W
theorem pow2_succ (i:Nat):(2:Rat)^(i+1)=2^i*2:=by rw [Rat.pow_succ]
theorem hlf_dw {W:Rat} (h:DyW K W i r):DyW K W (i+1) (hlf Q r):=by
 refine ⟨hlf_dy h.d,?_⟩
 have hv:=Fq.mid_v h.d.1.p h.d.2.p
 have h0:=fcmp_zero h.d.1.p h.d.2.p
 unfold hlf
 split
 ·rename_i c
  exact .inl (h0.1 c)
 ·rename_i c
  have hw:=h.w.resolve_left fun e=>c (h0.2 e)
  split
  ·exact .inl rfl
  ·split
   ·refine .inr ?_
    show (r.2.v-(r.1.mid r.2).v)*2^(i+1)=W
    rw [hv.1,pow2_succ]
    grind
   ·refine .inr ?_
    show ((r.1.mid r.2).v-r.1.v)*2^(i+1)=W
    rw [hv.1,pow2_succ]
    grind
theorem isl_dw {PS:List (List Int)} {W:Rat}:∀ (n i:Nat) (a b:Fq),Dy K i a→Dy K i b→(b.v-a.v)*2^i=W→∀ r∈isl Q PS n a b,∃ j,i≤j∧j≤i+n∧DyW K W j r
 | 0,_,_,_,_,_,_,r,hr=>by simp [isl] at hr
 | n+1,i,a,b,ha,hb,hw,r,hr=>by
   have e:isl Q PS (n+1) a b=if icnt Q PS a b<1 then [] else if icnt Q PS a b=1∧a.sgn Q≠0∧b.sgn Q≠0 then [(a.nf,b.nf)] else isl Q PS n a (a.mid b) ++ (if (a.mid b).sgn Q=0 then [((a.mid b).nf,(a.mid b).nf)] else []) ++ isl Q PS n (a.mid b) b:=rfl
   rw [e] at hr
   have hm:=ha.mid hb
   have hv:=Fq.mid_v ha.p hb.p
   by_cases c1:icnt Q PS a b<1
   ·rw [if_pos c1] at hr;simp at hr
   rw [if_neg c1] at hr
   by_cases c2:icnt Q PS a b=1∧a.sgn Q≠0∧b.sgn Q≠0
   ·rw [if_pos c2,List.mem_singleton] at hr
    rw [hr]
    refine ⟨i,Nat.le_refl _,by omega,⟨ha.nf,hb.nf⟩,.inr ?_⟩
    show (b.nf.v-a.nf.v)*2^i=W
    rw [(Fq.nf_v ha.p).1,(Fq.nf_v hb.p).1]
    exact hw
   rw [if_neg c2] at hr
   rcases List.mem_append.1 hr with hr | hr
   ·rcases List.mem_append.1 hr with hr | hr
    ·obtain ⟨j,j1,j2,j3⟩:=isl_dw (W:=W) n (i+1) a (a.mid b) ha.up hm (by rw [hv.1,pow2_succ];grind) r hr
     exact ⟨j,by omega,by omega,j3⟩
    ·split at hr
     ·rw [List.mem_singleton] at hr
      rw [hr]
      exact ⟨i+1,by omega,by omega,⟨hm.nf,hm.nf⟩,.inl rfl⟩
     ·simp at hr
   ·obtain ⟨j,j1,j2,j3⟩:=isl_dw (W:=W) n (i+1) (a.mid b) b hm hb.up (by rw [hv.1,pow2_succ];grind) r hr
    exact ⟨j,by omega,by omega,j3⟩
theorem nn_zb2 (h:SqF Q 16):(cbn Q+1)*2^(NN+2500)≤ZB:=by
 have h1:=cbn_le h
 have h2:BB^17+1≤BB^18:=by
  have h3:BB^17<BB^18:=Nat.pow_lt_pow_right (by rw [BB_eq];decide) (by decide)
  omega
 obtain ⟨k,hk⟩:∃ k:Nat,k=18:=⟨_,rfl⟩
 have h4:cbn Q+1≤2^(32*k):=by rw [← bb_two,hk];omega
 have e:ZB=2^(32*ZK):=by unfold ZB;rw [bb_two]
 refine Nat.le_trans (Nat.mul_le_mul_right _ h4) ?_
 rw [e,← Nat.pow_add]
 exact Nat.pow_le_pow_right (by decide) (by rw [hk,NN_eq,ZK_eq];decide)
theorem DyR.fqb {N:Nat} (h:DyR K i r) (hi:i≤N) (hN:(K+1)*2^N≤ZB):FqB r.1∧FqB r.2∧(i+1≤N→FqB (r.1.mid r.2)):=⟨h.1.fqb hi hN,h.2.fqb hi hN,fun h2=>(h.1.mid h.2).fqb h2 hN⟩
theorem proots_dw (f:List Int):∀ r∈proots f,∃ j,j≤NN+1∧DyW (cbn (qpart f)) (2*(cbn (qpart f):Nat)) j r:=by
 unfold proots
 by_cases h:plen (qpart f)<2
 ·rw [if_pos h];intro r hr;simp at hr
 ·rw [if_neg h]
  have hv:=end_v (cbn (qpart f))
  intro r hr
  obtain ⟨j,_,j2,j3⟩:=isl_dw (K:=cbn (qpart f)) (W:=2*((cbn (qpart f):Nat):Rat)) (NN+1) 0 ⟨-((cbn (qpart f):Nat):Int),1⟩ ⟨((cbn (qpart f):Nat):Int),1⟩ ⟨Nat.one_pos,by simp,by simp⟩ ⟨Nat.one_pos,by simp,by simp⟩ (by rw [hv.1,hv.2,Rat.pow_zero];grind) r hr
  exact ⟨j,by omega,j3⟩
end
end Go.Proofs.YtbfddopopajgaaaGreat
namespace Go.Proofs.YtbfddopopajgaaaGreat
open Go.RowKit
theorem bez2o {S T:List Int} {k:Nat} (tS:ptrim S=S) (tT:ptrim T=T) (l2:2≤plen T) (lT:plen T≤plen S) (l10:plen S≤10) (hb:∀ j,(S.getD j 0).natAbs≤BB^k) (hd:∀ j,(T.getD j 0).natAbs≤BB^k) (hk:k≤60) (hc:∀ p,Dvq p S→Dvq p T→plen p≤1) :
 ∃ (U V:List Int) (c:Int),c≠0∧U.length≤10∧V.length≤10∧(∀ j,(U.getD j 0).natAbs≤BB^(20*(k+3)))∧(∀ j,(V.getD j 0).natAbs≤BB^(20*(k+3)))∧∀ x,ev U x*ev S x+ev V x*ev T x=c:=by
 have lS:S.length=plen S:=by rw [← ptrim_length,tS]
 have lT2:T.length=plen T:=by rw [← ptrim_length,tT]
 obtain ⟨m,hm⟩:∃ m,plen S=m+1:=⟨plen S-1,by omega⟩
 obtain ⟨n,hn⟩:∃ n,plen T=n+1:=⟨plen T-1,by omega⟩
 have hG:1≤BB^(k+2):=Nat.pow_pos BB_pos
 have ok:GOK (BB^(k+2)) m n 0 1100:=gok_big (by omega) hG (Nat.pow_lt_pow_right (by rw [BB_eq];decide) (by omega))
 have hb':∀ j,(S.getD j 0).natAbs≤BB^(k+1):=fun j=>Nat.le_trans (hb j) (bbk_le (by omega))
 have hd':∀ j,(T.getD j 0).natAbs≤BB^(k+1):=fun j=>Nat.le_trans (hd j) (bbk_le (by omega))
 have up:∀ {x:Nat},x≤BB^(k+1)→x*(m+n)≤BB^(k+2):=fun hx=>by
  rw [Nat.pow_succ]
  exact Nat.mul_le_mul hx (by rw [BB_eq];omega)
 have hs:=sinv_start (f:=S) (g:=T) (m:=m) (n:=n) (G:=BB^(k+2)) (e:=0) (by omega) (by omega) (by omega) (by omega) (by omega) (by omega) hG (fun j=>Nat.le_trans (hb' j) (bbk_le (by omega))) (fun j=>Nat.le_trans (hd' j) (bbk_le (by omega)))
 have hlow:∀ p,Comb S T p→1≤plen p→0+1≤plen p:=fun p _ h=>by omega
 obtain ⟨_,d1,d2⟩:=SInv.spec ok hlow (fun j=>up (hb' j)) (fun j=>up (hd' j)) 20 _ _ hs (by show T.length≤20;omega)
 obtain ⟨L,hL⟩:∃ L,L=lst T (rsq 20 ⟨S,T,-1,(-1)^(S.length-T.length+1)⟩):=⟨_,rfl⟩
 have hl1:plen L≤1:=by rw [hL];exact hc _ d1 d2
 have hl0:plen L≠0:=by
  rw [hL]
  intro e0
  obtain ⟨c,q,hc0,e⟩:=d2
  have:plen T=0:=by
   refine Classical.byContradiction fun hn=>?_
   refine (plen_cmul (p:=T) (r:=psc c T) hc0 (fun t=>ev_psc _ _ _)).2 hn ?_
   rw [plen_ev (r:=polymul q (lst T (rsq 20 ⟨S,T,-1,(-1)^(S.length-T.length+1)⟩))) fun t=>by rw [ev_psc,ev_mul,e]]
   exact rmul_zero (.inr e0)
  omega
 obtain ⟨U,V,c,c0,u1,u2,u3,u4,u5⟩:=SInv.uv ok hlow (fun j=>up (hb' j)) (fun j=>up (hd' j)) hb' hd' 20 _ _ hs (by show T.length≤20;omega) (by show 2≤T.length;omega) (by show plen (lst T _)=1;rw [← hL];omega)
 have hbd:((n+m)*BB^(k+1)+1)^(n+m)≤BB^(20*(k+3)):=by
  have x1:(n+m)*BB^(k+1)+1≤BB^(k+2):=by
   have:BB^(k+1)*20≤BB^(k+1)*BB:=Nat.mul_le_mul_left _ (by rw [BB_eq];decide)
   have h1:1≤BB^(k+1):=Nat.pow_pos BB_pos
   have h2:(n+m)*BB^(k+1)≤19*BB^(k+1):=Nat.mul_le_mul_right _ (by omega)
   have e9:BB^(k+2)=BB^(k+1)*BB:=Nat.pow_succ ..
   rw [e9]
   omega
  calc ((n+m)*BB^(k+1)+1)^(n+m)≤(BB^(k+2))^(n+m):=Nat.pow_le_pow_left x1 _
   _=BB^((k+2)*(n+m)):=by rw [← Nat.pow_mul]
   _≤BB^(20*(k+3)):=bbk_le (by
    have:(k+2)*(n+m)≤(k+2)*20:=Nat.mul_le_mul_left _ (by omega)
    omega)
 exact ⟨U,V,c,c0,by omega,by omega,fun j=>Nat.le_trans (u3 j) hbd,fun j=>Nat.le_trans (u4 j) hbd,u5⟩
theorem bez2 {S T:List Int} {k:Nat} (tS:ptrim S=S) (tT:ptrim T=T) (lS:2≤plen S) (lT:2≤plen T) (l10:plen S≤10) (t10:plen T≤10) (hb:∀ j,(S.getD j 0).natAbs≤BB^k) (hd:∀ j,(T.getD j 0).natAbs≤BB^k) (hk:k≤60) (hc:∀ p,Dvq p S→Dvq p T→plen p≤1) :
 ∃ (U V:List Int) (c:Int),c≠0∧U.length≤10∧V.length≤10∧(∀ j,(U.getD j 0).natAbs≤BB^(20*(k+3)))∧(∀ j,(V.getD j 0).natAbs≤BB^(20*(k+3)))∧∀ x,ev U x*ev S x+ev V x*ev T x=c:=by
 rcases Nat.le_total (plen T) (plen S) with h | h
 ·exact bez2o tS tT lT h l10 hb hd hk hc
 ·obtain ⟨U,V,c,c0,u1,u2,u3,u4,u5⟩:=bez2o tT tS lS h t10 hd hb hk (fun p p1 p2=>hc p p2 p1)
  exact ⟨V,U,c,c0,u2,u1,u4,u3,fun x=>by rw [← u5 x,Int.add_comm]⟩
theorem sep2o {S T:List Int} {k:Nat} (tS:ptrim S=S) (tT:ptrim T=T) (lS:2≤plen S) (lT:2≤plen T) (l10:plen S≤10) (t10:plen T≤10) (hbS:∀ j,(S.getD j 0).natAbs≤BB^(k+6)) (hbT:∀ j,(T.getD j 0).natAbs≤BB^(k+6)) (hk:k≤50) (hc:∀ p,Dvq p S→Dvq p T→plen p≤1) {M a b:Rat} (hM:1≤M) (ha:-M≤a) (hb:b≤M) {x y:Pt} (hx:sgp S x=0) (hy:sgp T y=0) (hxy:x<y) (hax:¬ x<Pt.of a) (hyb:¬ Pt.of b<y):1≤sepD k M*(b-a):=by
 obtain ⟨U,V,c,c0,u1,u2,u3,u4,u5⟩:=bez2 tS tT lS lT l10 t10 hbS hbT (by omega) hc
 refine Classical.byContradiction fun hcon=>?_
 have hid:∀ q,pv U q*pv S q+pv V q*pv T q=(c:Rat):=fun q=>by
  have e1:=pv_congr (padd (polymul U S) (polymul V T)) [c] (ev_inj (fun x=>by rw [ev_padd,ev_mul,ev_mul,ev_const,u5])) q
  rw [pv_padd,pv_polymul,pv_polymul] at e1
  rw [e1]
  show (c:Rat)+q*0=c
  grind
 obtain ⟨BU,hBU⟩:∃ B,B=10*((BB^(20*(k+9)):Nat):Rat)*M^10:=⟨_,rfl⟩
 obtain ⟨K,hK⟩:∃ K,K=100*((BB^(k+6):Nat):Rat)*M^10:=⟨_,rfl⟩
 have hp10:=pow_one_le hM 10
 have hBU0:1≤BU:=by
  have:(1:Rat)≤((BB^(20*(k+9)):Nat):Rat):=by
   have:1≤BB^(20*(k+9)):=Nat.pow_pos BB_pos
   exact_mod_cast this
  rw [hBU]
  have:=Rat.mul_le_mul_of_nonneg_left hp10 (show 0≤10*((BB^(20*(k+9)):Nat):Rat) by grind)
  grind
 have hK0:0≤K:=by
  rw [hK]
  have:(0:Rat)≤((BB^(k+6):Nat):Rat):=by exact_mod_cast Nat.zero_le _
  exact Rat.mul_nonneg (by grind) (by grind)
 have hD:sepD k M=2*BU*K+1:=by unfold sepD;rw [← hBU,← hK]
 rw [hD] at hcon
 obtain ⟨e,he⟩:∃ e:Rat,e=1 / (8*BU):=⟨_,rfl⟩
 have he0:0<e:=by rw [he,Rat.div_def,Rat.one_mul];exact Rat.inv_pos.2 (by grind)
 have heB:BU*e=1 / 8:=by rw [he,Rat.div_def,Rat.div_def];grind
 obtain ⟨l1,v1,n1,f1⟩:=sgf_sml (lp_pv S) hx e he0
 obtain ⟨l3,v3,n3,f3⟩:=sgf_sml (lp_pv T) hy e he0
 obtain ⟨y1,w1,w2,w3⟩:=Pt.two_up (x:=x) (a:=Pt.of v1) (b:=y) (Pt.lt_of.2 n1.2) hxy
 obtain ⟨r,r1,r2⟩:=Pt.mid w1
 obtain ⟨y2,w4,w5,w6⟩:=Pt.two_lo (x:=y) (a:=Pt.of l3) (b:=x) (Pt.of_lt.2 n3.1) hxy
 obtain ⟨q,q1,q2⟩:=Pt.mid w4
 have hlr:l1<r:=Pt.of_lt_of.1 (Pt.lt_trans (Pt.of_lt.2 n1.1) r1)
 have hrv:r<v1:=Pt.of_lt_of.1 (Pt.lt_trans r2 w2)
 have hlq:l3<q:=Pt.of_lt_of.1 (Pt.lt_trans w5 q1)
 have hqv:q<v3:=Pt.of_lt_of.1 (Pt.lt_trans q2 (Pt.lt_of.2 n3.2))
 have hle:∀ {s t:Pt},¬ s<t→∀ {r:Pt},s<r→t<r:=fun {s t} h {r} h1=>by
  rcases Pt.tri s t with c | c | c
  ·exact absurd c h
  ·rw [← c];exact h1
  ·exact Pt.lt_trans c h1
 have hge:∀ {s t:Pt},¬ s<t→∀ {r:Pt},r<t→r<s:=fun {s t} h {r} h1=>by
  rcases Pt.tri s t with c | c | c
  ·exact absurd c h
  ·rw [c];exact h1
  ·exact Pt.lt_trans h1 c
 have har:a<r:=Pt.of_lt_of.1 (hle hax r1)
 have hrb:r<b:=Pt.of_lt_of.1 (hge hyb (Pt.lt_trans r2 w3))
 have haq:a<q:=Pt.of_lt_of.1 (hle hax (Pt.lt_trans w6 q1))
 have hqb:q<b:=Pt.of_lt_of.1 (hge hyb q2)
 obtain ⟨s1,s2⟩:=f1 r hlr hrv
 obtain ⟨s3,s4⟩:=f3 q hlq hqv
 have hlS':S.length≤10:=by rw [← tS,ptrim_length];exact l10
 obtain ⟨p1,p2⟩:=pv_lip10 (w:=b-a) hM hlS' hbS (q:=q) (r:=r) (by grind) (by grind) (by grind) (by grind) (by grind) (by grind)
 rw [← hK] at p1 p2
 obtain ⟨b1,b2⟩:=pv_bd10 hM u1 u3 q (by grind) (by grind)
 obtain ⟨b3,b4⟩:=pv_bd10 hM u2 u4 q (by grind) (by grind)
 rw [show k+6+3=k+9 by omega,← hBU] at b1 b2 b3 b4
 have hs:=hid q
 obtain ⟨w,hw⟩:∃ w,w=b-a:=⟨_,rfl⟩
 rw [← hw] at p1 p2 hcon
 have hw0:0<w:=by rw [hw];grind
 have m1:=rmul_bd (a:=pv U q) (b:=pv S q) (e:=BU) (k:=e+K*w) b1 b2 (by grind) (by grind)
 have m2:=rmul_bd (a:=pv V q) (b:=pv T q) (e:=BU) (k:=e) b3 b4 s3 s4
 have hKw:0≤BU*(K*w):=Rat.mul_nonneg (by grind) (Rat.mul_nonneg hK0 (by grind))
 have ec:BU*(e+K*w)=1 / 8+BU*(K*w):=by rw [Rat.mul_add,heB]
 have hcc:(1:Rat)≤(c:Rat)∨(c:Rat)≤-1:=by
  rcases Int.lt_or_lt_of_ne c0 with h1 | h1
  ·right
   have:((c:Int):Rat)≤((-1:Int):Rat):=Rat.intCast_le_intCast.2 (by omega)
   exact this
  ·left
   have:((1:Int):Rat)≤((c:Int):Rat):=Rat.intCast_le_intCast.2 (by omega)
   exact this
 have hcon2:2*(BU*(K*w))+w<1:=by
  have:(2*BU*K+1)*w<1:=by grind
  grind
 rcases hcc with h1 | h1<;>grind
structure Cop (G T:List Int) (y:Pt):Prop where
 t:ptrim T=T
 n:plen T≠0
 d:∃ W:List Int,∀ x,ev G x=ev T x*ev W x
 r:sgp T y=0
theorem cop_ex {P G:List Int} {y:Pt} (h0:plen P≠0) (hP:sgp P y≠0):∀ (n:Nat) (T:List Int),plen T≤n→Cop G T y→∃ T',Cop G T' y∧∀ p,Dvq p P→Dvq p T'→plen p≤1:=by
 intro n
 induction n with
 | zero=>intro T hn hT;exact absurd hT.n (by omega)
 | succ n ih =>
   intro S hn hS
   by_cases hc:∀ p,Dvq p P→Dvq p S→plen p≤1
   ·exact ⟨S,hS,hc⟩
   ·obtain ⟨p,hp⟩:=Classical.not_forall.1 hc
    obtain ⟨p2,hp⟩:=Classical.not_imp.1 hp
    obtain ⟨p1,hp⟩:=Classical.not_imp.1 hp
    have p0:plen p≠0:=by omega
    obtain ⟨c,q,hc0,e⟩:=p1
    have hk:=gp_ne p0
    have e2:∀ x,ev p x=(sg (plead p)*(pcont p:Int))*ev (pprim p) x:=fun x=>by
     rw [← ev_psc]
     exact ev_congr (fun k=>by rw [psc_get];exact gp_get p0 k) x
    obtain ⟨s,hs⟩:=gauss_div (l:=pprim p) (f:=S) (r:=psc (sg (plead p)*(pcont p:Int)) q) (gp_cont p0) hc0 (fun x=>by rw [e,e2,ev_psc];grind)
    obtain ⟨T,hT⟩:∃ T,T=ptrim s:=⟨_,rfl⟩
    have hST:∀ x,ev S x=ev (pprim p) x*ev T x:=fun x=>by rw [hT,ev_ptrim];exact hs x
    have T0:plen T≠0:=fun e0=>hS.n (by rw [plen_ev (r:=polymul (pprim p) T) fun x=>by rw [ev_mul,hST]];exact rmul_zero (.inr e0))
    have q0:plen (pprim p)≠0:=by rw [gp_plen];exact p0
    have hl:plen S=plen (pprim p)+plen T-1:=by
     rw [plen_ev (r:=polymul (pprim p) T) fun x=>by rw [ev_mul,hST]]
     exact (plen_mul (by omega) (by omega)).1
    rw [gp_plen] at hl
    obtain ⟨W,hW⟩:=hS.d
    have hm:mult y S=mult y (pprim p)+mult y T:=mult_ev_mul hST q0 T0 y
    have hpm:mult y p=mult y (pprim p):=mult_cmul hk e2 q0 y
    refine ih T (by omega) ⟨by rw [hT,ptrim_ptrim],T0,⟨polymul (pprim p) W,fun x=>by rw [hW,hST,ev_mul];grind⟩,?_⟩
    have h5:=dvq_mult p2 h0 y
    have h6:mult y P=0:=(mult_zero h0).2 hP
    have h7:mult y S≠0:=fun e=>(mult_zero hS.n).1 e hS.r
    refine Classical.byContradiction fun hn=>?_
    have h8:=(mult_zero T0).2 hn
    omega
theorem sep_two {P G:List Int} {k:Nat} (h:SqF P k) (hk:k≤50) (tG:ptrim G=G) (lG:plen G≤10) (bG:∀ j,(G.getD j 0).natAbs≤BB^k) {M a b:Rat} (hM:1≤M) (ha:-M≤a) (hb:b≤M) {x y:Pt} (hx:sgp P x=0) (gx:sgp G x≠0) (hy:sgp G y=0) (x1:¬ x<Pt.of a) (x2:¬ Pt.of b<x) (y1:¬ y<Pt.of a) (y2:¬ Pt.of b<y):1≤sepD k M*(b-a):=by
 by_cases c:sgp P y=0
 ·rcases Pt.tri x y with t | t | t
  ·exact sep h hk hM ha hb hx c t x1 y2
  ·rw [t] at gx;exact absurd hy gx
  ·exact sep h hk hM ha hb c hx t y1 x2
 ·have g0:plen G≠0:=fun e=>gx (sgp_zero e x)
  obtain ⟨T,hT,hc⟩:=cop_ex (G:=G) h.q0 c (plen G) G (Nat.le_refl _) ⟨tG,g0,⟨[1],fun x=>by rw [ev_const,Int.mul_one]⟩,hy⟩
  obtain ⟨W,hW⟩:=hT.d
  have hbT:∀ j,(T.getD j 0).natAbs≤BB^(k+6):=factor_le (by omega) g0 bG (g:=W) (fun x=>by rw [hW,Int.mul_comm])
  have hbP:∀ j,(P.getD j 0).natAbs≤BB^(k+6):=fun j=>Nat.le_trans (h.b j) (bbk_le (by omega))
  have hlT:plen T≤10:=Nat.le_trans (dvq_plen ⟨1,W,by decide,fun x=>by rw [Int.one_mul,hW,Int.mul_comm]⟩ g0) lG
  have two:∀ {S:List Int},plen S≠0→∀ {x:Pt},sgp S x=0→2≤plen S:=fun {S} h1 {x} hx=>by
   refine Classical.byContradiction fun hn=>?_
   have h2:=sgp_one (p:=S) (by omega) x
   rw [hx] at h2
   exact sg_ne (plead_ne h1) h2.symm
  have lP:=two h.q0 hx
  have lT:=two hT.n hT.r
  rcases Pt.tri x y with t | t | t
  ·exact sep2o h.t hT.t lP lT h.len hlT hbP hbT hk hc hM ha hb hx hT.r t x1 y2
  ·rw [t] at gx;exact absurd hy gx
  ·exact sep2o hT.t h.t lT lP hlT h.len hbT hbP hk (fun p p1 p2=>hc p p2 p1) hM ha hb hT.r hx t y1 x2
end Go.Proofs.YtbfddopopajgaaaGreat
namespace Go.Proofs.YtbfddopopajgaaaGreat
open Go Go.RowKit
structure S6 (f:List Int):Prop where
 len:f.length≤6
 t:ptrim f=f
 b:∀ j,(f.getD j 0).natAbs≤32768
section
variable {f:List Int}
theorem S6.p9 (h:S6 f):P9 f:=⟨by have:=plen_le f;have:=h.len;omega,fun j=>Nat.le_trans (h.b j) (Nat.le_trans (by rw [Nat.pow_one,BB_eq];decide) (bbk_le (show 1≤10 by decide)))⟩
theorem S6.pl (h:S6 f):plen f≤6:=by have:=plen_le f;have:=h.len;omega
theorem S6.q9 (h:S6 f):P9 (qpart f):=by
 by_cases h0:plen f=0
 ·rw [qpart_nil h0]
  exact ⟨by decide,fun j=>by simp⟩
 ·have hq:=q_facts h.p9.q h0
  refine ⟨by have:=hq.l;have:=h.pl;omega,fun j=>Nat.le_trans (hq.b 1 (fun j=>Nat.le_trans (pprim_abs f j) (Nat.le_trans (h.b j) (by rw [Nat.pow_one,BB_eq];decide))) j) (bbk_le (by decide))⟩
theorem S6.ql (h:S6 f):plen (qpart f)≤6:=by have:=h.p9.part_l;have:=h.pl;omega
theorem S6.qlen (h:S6 f):(qpart f).length≤6:=by rw [← h.p9.part_t,ptrim_length];exact h.ql
theorem S6.g6 (h:S6 f):G6 f:=⟨h.len,fun j=>Nat.le_trans (h.b j) (by rw [BB_eq];decide)⟩
end
theorem short_s6 {w:World} {A:Option Addr} {l c:Nat} {p:List Int} (h:I16At w A l c p) {n:Nat} (hn:n≤6):S6 (ptrim (p.take n)):=by
 have h1:=plen_le (p.take n)
 rw [List.length_take] at h1
 refine ⟨by rw [ptrim_length];omega,ptrim_ptrim _,fun j=>?_⟩
 rw [ptrim_getD]
 rcases Nat.lt_or_ge j (p.take n).length with hj | hj
 ·have hmem:(p.take n).getD j 0∈p:=by
   rw [List.getD_eq_getElem?_getD,List.getElem?_eq_getElem hj]
   exact List.mem_of_mem_take (List.getElem_mem _)
  have:=h.range _ hmem
  omega
 ·rw [getD_out _ hj];omega
theorem Vals.getv {w:World} {g o:Nat} {rs:List (Fq×Fq)} (h:Vals w g o rs) {k:Nat} (hk:k<rs.length) :
 ∃ n A l c B m d n' A' l' c' B' m' d',w.cell? ⟨g,o+k*6,none⟩=some (.bool n)∧w.cell? ⟨g,o+k*6+1,none⟩=some (.slice A l c)∧w.cell? ⟨g,o+k*6+2,none⟩=some (.slice B m d)∧w.cell? ⟨g,o+k*6+3,none⟩=some (.bool n')∧w.cell? ⟨g,o+k*6+4,none⟩=some (.slice A' l' c')∧w.cell? ⟨g,o+k*6+5,none⟩=some (.slice B' m' d') ∧
   IntN w n A l c (rs.getD k r00).1.z∧NatN w B m d (rs.getD k r00).1.q∧IntN w n' A' l' c' (rs.getD k r00).2.z∧NatN w B' m' d' (rs.getD k r00).2.q:=by
 have e:rs[k]?=some (rs.getD k r00):=by rw [List.getD_eq_getElem?_getD,List.getElem?_eq_getElem hk];rfl
 obtain ⟨vs,⟨n,A,l,c,B,m,d,n',A',l',c',B',m',d',hv,h1,h2,h3,h4⟩,hc⟩:=h k _ e
 subst hv
 exact ⟨n,A,l,c,B,m,d,n',A',l',c',B',m',d',hc 0 _ rfl,hc 1 _ rfl,hc 2 _ rfl,hc 3 _ rfl,hc 4 _ rfl,hc 5 _ rfl,h1,h2,h3,h4⟩
end Go.Proofs.YtbfddopopajgaaaGreat
namespace Go.Proofs.YtbfddopopajgaaaGreat
open Go.RowKit
section
variable {f g G Q:List Int} {x:Pt} {a b:Fq} {s r:Fq×Fq} {i:Nat}
def Free (G:List Int) (s:Fq×Fq):Prop:=∀ y,sgp G y=0→y<s.1.p∨s.2.p<y
theorem Free.congr (h:Free Q s) (e:∀ y,sgp G y=0↔sgp Q y=0):Free G s:=fun y hy=>h y ((e y).1 hy)
theorem IsoV.free_pt (h:IsoV f x s.1 s.2) (e:s.1.v=s.2.v) (gx:sgp G x≠0):Free G s:=fun y hy=>by
 have e2:s.1.p=s.2.p:=by unfold Fq.p;rw [e]
 have ex:x=s.1.p:=by
  rcases h.2 with h | h
  ·exact h.2
  ·grind
 rcases Pt.tri y s.1.p with c | c | c
 ·exact .inl c
 ·rw [c,← ex] at hy;exact absurd hy gx
 ·exact .inr (by rw [← e2];exact c)
theorem chg_free {k:Nat} (h:SqF Q k) (hk:k≤31) (ha:0<s.1.q) (hb:0<s.2.q) (hab:s.1.v<s.2.v) (na:sgp Q s.1.p≠0) (nb:sgp Q s.2.p≠0):(s.1.chg (pchain 12 Q (pder Q)):Int)=(s.2.chg (pchain 12 Q (pder Q)):Int)↔Free Q s:=by
 obtain ⟨xs,hx⟩:=roots_lst h.q0 (fun x=>s.1.p<x∧x<s.2.p)
 have hc:=op_count h hk ha hb hab hx
 rw [sgn_pt hb,if_neg nb] at hc
 constructor
 ·intro e y hy
  have hl:xs.length=0:=by omega
  have hn:=List.eq_nil_of_length_eq_zero hl
  rcases Pt.tri y s.1.p with c | c | c
  ·exact .inl c
  ·rw [c] at hy;exact absurd hy na
  ·rcases Pt.tri y s.2.p with d | d | d
   ·have:=(hx.2 y).2 ⟨hy,c,d⟩
    rw [hn] at this;cases this
   ·rw [d] at hy;exact absurd hy nb
   ·exact .inr d
 ·intro hf
  have hn:xs.length=0:=by
   match xs,hx with
   | [],_=>rfl
   | y :: ys,hx =>
     obtain ⟨h1,h2,h3⟩:=(hx.2 y).1 (List.mem_cons_self ..)
     rcases hf y h1 with c | c
     ·exact absurd c (Pt.asym h2)
     ·exact absurd c (Pt.asym h3)
  omega
structure ASt (f:List Int) (x:Pt) (i:Nat) (s:Fq×Fq):Prop where
 iso:IsoV f x s.1 s.2
 d:DyW (cbn (qpart f)) (2*((cbn (qpart f):Nat):Rat)) i s
theorem ASt.half (h9:P9 f) (h0:plen f≠0) (h:ASt f x i s):ASt f x (i+1) (hlf (qpart f) s)∧Half s (hlf (qpart f) s):=by
 have hq:=q_facts h9.q h0
 have hs:=hlf_spec hq.q0 hq.simple (fun y=>(hq.root y).symm) h.d.d.1.p h.d.d.2.p h.iso
 exact ⟨⟨hs.1,hlf_dw h.d⟩,hs.2⟩
theorem ASt.fqb (h9:P9 f) (h0:plen f≠0) (h:ASt f x i s) (hi:i≤NN+1):FqB s.1∧FqB s.2∧FqB (s.1.mid s.2):=by
 have h1:i≤NN+2500:=Nat.le_trans hi (Nat.add_le_add_left (by decide) NN)
 have h2:i+1≤NN+2500:=Nat.le_trans (Nat.succ_le_succ hi) (Nat.add_le_add_left (show 2≤2500 by decide) NN)
 have:=h.d.d.fqb h1 (nn_zb2 (SqF.of9 h9 h0))
 exact ⟨this.1,this.2.1,this.2.2 h2⟩
theorem proots_ast {xs:List Pt} {k:Nat} (hx:RF f xs (proots f)) (hk:k<xs.length):∃ i,i≤NN+1∧ASt f (xs.getD k default) i ((proots f).getD k r00):=by
 obtain ⟨i,i1,i2⟩:=proots_dw f _ (getD_mem (by rw [hx.len];exact hk) r00)
 exact ⟨i,i1,hx.iso k hk,i2⟩
theorem Dy.abs_v {K:Nat} (h:Dy K i a):-((K:Nat):Rat)≤a.v∧a.v≤((K:Nat):Rat):=by
 obtain ⟨h1,h2⟩:=int_abs_rat h.z
 have hq:(0:Rat)<((a.q:Nat):Rat):=by exact_mod_cast h.p
 rw [Rat.natCast_mul] at h1 h2
 have hv:a.v*((a.q:Nat):Rat)=(a.z:Rat):=by
  unfold Fq.v
  rw [Rat.div_mul_cancel (by grind)]
 constructor
 ·refine Rat.not_lt.1 fun c=>?_
  have:=Rat.mul_lt_mul_of_pos_right c hq
  grind
 ·refine Rat.not_lt.1 fun c=>?_
  have:=Rat.mul_lt_mul_of_pos_right c hq
  grind
theorem ASt.more (h9:P9 f) (h0:plen f≠0) (h:ASt f x i s) (tG:ptrim G=G) (lG:plen G≤10) (bG:∀ j,(G.getD j 0).natAbs≤BB^16) (gx:sgp G x≠0) (hne:s.1.v≠s.2.v) (hf:¬ Free G s):i<NN:=by
 obtain ⟨y,hy⟩:=Classical.not_forall.1 hf
 obtain ⟨hy,hn⟩:=Classical.not_imp.1 hy
 have hs:=SqF.of9 h9 h0
 have hq:=q_facts h9.q h0
 have hc1:(1:Rat)≤((cbn (qpart f):Nat):Rat):=by exact_mod_cast cbn_pos _
 have h1:=sep_two hs (by decide) tG lG bG hc1 (h.d.d.1.abs_v).1 (h.d.d.2.abs_v).2 (x:=x) (y:=y) ((hq.root x).2 h.iso.1) gx hy h.iso.lo h.iso.hi (fun c=>hn (.inl c)) (fun c=>hn (.inr c))
 refine Nat.lt_of_not_le fun hc=>?_
 have hw:=h.d.w.resolve_left hne
 have h2:=nn_sep hs
 have hp:(2:Rat)^NN≤2^i:=pow_up (by grind) hc
 have hp1:(1:Rat)≤2^i:=pow_one_le (by grind) i
 generalize sepD 16 ((cbn (qpart f):Nat):Rat)=D at *
 generalize ((cbn (qpart f):Nat):Rat)=K at *
 generalize (2:Rat)^i=P at *
 generalize (2:Rat)^NN=N at *
 generalize s.2.v-s.1.v=w at *
 have h5:=Rat.mul_le_mul_of_nonneg_right h1 (show 0≤P by grind)
 have h6:D*w*P=D*(2*K):=by rw [Rat.mul_assoc,hw]
 have h7:D*(K - -K)=D*(2*K):=by grind
 grind
theorem ppos_abs (p:List Int) (j:Nat):((ppos p).getD j 0).natAbs=(p.getD j 0).natAbs:=by
 unfold ppos
 split
 ·rw [pmn_getD,ptrim_getD,Int.natAbs_neg]
 ·rw [ptrim_getD]
theorem gcd_p9q (h9:P9 Q) (l6:plen Q≤6) (q0:plen Q≠0) (hg:G6 g):P9 (gres Q g):=by
 have hd:=gd_facts h9 l6 hg q0
 refine ⟨by have:=hd.len;omega,fun j=>?_⟩
 by_cases g0:plen g=0
 ·unfold gres
  rw [if_neg q0,if_pos g0,ppos_abs]
  exact h9.b j
 ·have hi:IsGcd Q g (gres Q g):=(gres_is hd.ga).resolve_left (fun h=>q0 h.1) |>.2
  have hk:=gp_ne hi.ne
  have e2:∀ x,ev (gres Q g) x=(sg (plead (gres Q g))*(pcont (gres Q g):Int))*ev (pprim (gres Q g)) x:=fun x=>by
   rw [← ev_psc]
   exact ev_congr (fun k=>by rw [psc_get];exact gp_get hi.ne k) x
  obtain ⟨c,q,hc,e⟩:=hi.r
  obtain ⟨t,ht⟩:=gauss_div (l:=pprim (gres Q g)) (f:=g) (r:=psc (sg (plead (gres Q g))*(pcont (gres Q g):Int)) q) (gp_cont hi.ne) hc (fun x=>by rw [e,e2,ev_psc];grind)
  have hb1:∀ j,(g.getD j 0).natAbs≤BB^1:=fun j=>by rw [Nat.pow_one];exact hg.b j
  have h1:=factor_le (g:=t) (k:=1) (by have:=hg.plen;omega) g0 hb1 (fun x=>(ht x).trans (Int.mul_comm _ _)) j
  have hc1:pcont (gres Q g)≤BB:=by
   rw [hi.cont]
   exact Nat.le_trans (Nat.le_of_dvd (Nat.pos_of_ne_zero (pcont_ne g0)) (Nat.gcd_dvd_right _ _)) (pcont_le g0 hg.b)
  rw [gp_get hi.ne j,Int.natAbs_mul,Int.natAbs_mul,Int.natAbs_natCast]
  have hs:(sg (plead (gres Q g))).natAbs≤1:=by rcases sg_cases (plead (gres Q g)) with ⟨_,e⟩ | ⟨_,e⟩ | ⟨_,e⟩<;>omega
  have h3:(sg (plead (gres Q g))).natAbs*pcont (gres Q g)≤1*BB:=Nat.mul_le_mul hs hc1
  rw [Nat.one_mul] at h3
  refine Nat.le_trans (Nat.mul_le_mul h3 h1) ?_
  rw [show BB*BB^(1+6)=BB^8 by rw [Nat.mul_comm,← Nat.pow_succ]]
  exact bbk_le (by decide)
theorem gcd_p9 (h:S6 f) (h0:plen f≠0) (hg:G6 g):P9 (gres (qpart f) g):=gcd_p9q h.q9 h.ql (q_facts h.p9.q h0).q0 hg
theorem zero_count (h:S6 f) (h0:plen f≠0) (hg:G6 g) (ha:0<a.q) (hb:0<b.q) (hi:IsoV f x a b) (hlt:a.v<b.v):0<ncount (gres (qpart f) g) a.z a.q b.z b.q↔sgp g x=0:=by
 have hq:=q_facts h.p9.q h0
 have hd:=gd_facts h.q9 h.ql hg hq.q0
 obtain ⟨xs,hx⟩:=roots_lst hd.g0 (fun y=>a.p<y∧(y<b.p∨y=b.p))
 rw [ncount_half (gcd_p9 h h0 hg) hd.g0 ha hb ((vld_lt ha hb).2 hlt) hx]
 rcases hi.2 with h2 | ⟨_,n1,n2,l1,l2,hu⟩
 ·grind
 constructor
 ·intro hl
  match xs,hx,hl with
  | y :: ys,hx,_ =>
    obtain ⟨h1,h2,h3⟩:=(hx.2 y).1 (List.mem_cons_self ..)
    obtain ⟨k1,k2⟩:=(hd.r y).1 h1
    have k3:=(hq.root y).1 k1
    rcases h3 with h3 | h3
    ·rw [← hu y k3 h2 h3];exact k2
    ·rw [h3] at k3;exact absurd k3 n2
 ·intro hg0
  have:=(hx.2 x).2 ⟨(hd.r x).2 ⟨(hq.root x).2 hi.1,hg0⟩,l1,.inl l2⟩
  have:=List.length_pos_of_mem this
  omega
end
end Go.Proofs.YtbfddopopajgaaaGreat
namespace Go.Proofs.YtbfddopopajgaaaGreat
open Go.RowKit
theorem g6_cp {g:List Int} (h:G6 g):CP g:=⟨by have:=h.plen;omega,fun j=>Nat.le_trans (h.b j) (by have:=bbk_le (show 1≤32 by decide);rw [Nat.pow_one] at this;exact this)⟩
theorem g6_p9 {g:List Int} (h:G6 g):P9 g:=⟨by have:=h.plen;omega,fun j=>Nat.le_trans (h.b j) (by have:=bbk_le (show 1≤10 by decide);rw [Nat.pow_one] at this;exact this)⟩
structure ZaG (f g:List Int) (x:Pt):Prop where
 fit:FitP g
 len:g.length≤16
 at_:∀ a:Fq,FqB a→PoOK a.z a.q g
 ga:GAny (qpart f) g
 g9:P9 (gres (qpart f) g)
 gl:(gres (qpart f) g).length≤6
 zc:∀ a b:Fq,0<a.q→0<b.q→IsoV f x a b→a.v<b.v→(0<ncount (gres (qpart f) g) a.z a.q b.z b.q↔sgp g x=0)
structure AwO (f g:List Int) (x:Pt):Prop where
 q:QOK g
 t:ptrim (qpart g)=qpart g
 q0:plen (qpart g)≠0
 gr:∀ y,sgp g y=0↔sgp (qpart g) y=0
 ol:(qpart g).length≤11
 fO:FitP (qpart g)
 fD:FitP (pder (qpart g))
 k1:chOK 12 (pred (qpart g)) (pred (pder (qpart g)))
 k3:(chn 12 (pred (qpart g)) (pred (pder (qpart g)))).length≤12
 k4:(pchain 12 (qpart g) (pder (qpart g))).length≤13
 at_:∀ a:Fq,FqB a→PoOK a.z a.q (qpart g)
 el:∀ a:Fq,FqB a→∀ p∈pchain 12 (qpart g) (pder (qpart g)),PoOK a.z a.q p
 free:∀ s:Fq×Fq,0<s.1.q→0<s.2.q→s.1.v<s.2.v→sgp (qpart g) s.1.p≠0→sgp (qpart g) s.2.p≠0→((s.1.chg (pchain 12 (qpart g) (pder (qpart g))):Int)=(s.2.chg (pchain 12 (qpart g) (pder (qpart g))):Int)↔Free (qpart g) s)
 more:∀ i s,ASt f x i s→s.1.v≠s.2.v→¬ Free (qpart g) s→i<NN
section
variable {f g:List Int} {x:Pt}
theorem zag_g6 (h:S6 f) (h0:plen f≠0) (hg:G6 g):ZaG f g x:=by
 have hq:=q_facts h.p9.q h0
 have hd:=gd_facts h.q9 h.ql hg hq.q0
 exact ⟨hg.fit,by have:=hg.len;omega,fun a ha=>(g6_cp hg).at (by have:=hg.len;omega) ha.z ha.q,hd.ga,gcd_p9 h h0 hg,hd.t,fun a b ha hb hi hlt=>zero_count h h0 hg ha hb hi hlt⟩
theorem awo_g6 (h:S6 f) (h0:plen f≠0) (hg:G6 g) (gx:sgp g x≠0):AwO f g x:=by
 have g9:=g6_p9 hg
 have g0:plen g≠0:=fun e=>gx (sgp_zero e x)
 have hqg:=q_facts g9.q g0
 have hsq:=SqF.of9 g9 g0
 have hOl:(qpart g).length≤6:=by rw [← hqg.t,ptrim_length];have:=hqg.l;have:=hg.plen;omega
 have hgr:∀ y,sgp g y=0↔sgp (qpart g) y=0:=fun y=>(hqg.root y).symm
 have hOx:sgp (qpart g) x≠0:=fun e=>gx ((hgr x).2 e)
 have c1:=g9.part
 have c2:=g9.pder
 obtain ⟨k1,k2,k3,k4⟩:=chain_all c1 c2
 have hall:∀ p∈pchain 12 (qpart g) (pder (qpart g)),Elm p:=k2
 exact ⟨g9.q,hqg.t,hqg.q0,hgr,by omega,c1.fit,c2.fit,k1,k3,k4,fun a ha=>c1.at (by omega) ha.z ha.q,fun a ha p hp=>(hall p hp).at ha.z ha.q,fun s ha hb hab na nb=>chg_free hsq (by decide) ha hb hab na nb,fun i s hs hne hn=>hs.more h.p9 h0 hsq.t hsq.len hsq.b hOx hne hn⟩
end
end Go.Proofs.YtbfddopopajgaaaGreat
namespace Go.Proofs.YtbfddopopajgaaaGreat
open Go Go.RowKit
def RootE (r:Fq×Fq) (e:Ending) (w:World):Prop :=
 ∃ n A l c B m d n' A' l' c' B' m' d',e=.returned (.agg #[.bool n,.slice A l c,.slice B m d,.bool n',.slice A' l' c',.slice B' m' d'])∧IntN w n A l c r.1.z∧NatN w B m d r.1.q∧IntN w n' A' l' c' r.2.z∧NatN w B' m' d' r.2.q
def pu6 (w:World) (g:Nat) (v0 v1 v2 v3 v4 v5:Value):World:=(((((w.setCell ⟨g,0,none⟩ v0).setCell ⟨g,1,none⟩ v1).setCell ⟨g,2,none⟩ v2).setCell ⟨g,3,none⟩ v3).setCell ⟨g,4,none⟩ v4).setCell ⟨g,5,none⟩ v5
theorem pu6_frs (w:World) (g:Nat) (v0 v1 v2 v3 v4 v5:Value):FrS g g w (pu6 w g v0 v1 v2 v3 v4 v5):=frs_set (frs_set (frs_set (frs_set (frs_set (frs_set (FrS.refl g g w) 0 v0) 1 v1) 2 v2) 3 v3) 4 v4) 5 v5
abbrev rtObj:Obj:=.cells #[.bool false,.slice none 0 0,.slice none 0 0,.bool false,.slice none 0 0,.slice none 0 0] 44
abbrev rz6:Array Value:=#[.bool false,.slice none 0 0,.slice none 0 0,.bool false,.slice none 0 0,.slice none 0 0]
theorem rz6_ndb {w:World} {g t:Nat} (h:Blk w g t rz6):NdB w g:=blk_ndb h fun j v hv=>by
 match j,hv with
 | 0,hv=>simp at hv;subst hv;exact noDigit_bool _
 | 1,hv=>simp at hv;subst hv;exact noDigit_slice _ _ _
 | 2,hv=>simp at hv;subst hv;exact noDigit_slice _ _ _
 | 3,hv=>simp at hv;subst hv;exact noDigit_bool _
 | 4,hv=>simp at hv;subst hv;exact noDigit_slice _ _ _
 | 5,hv=>simp at hv;subst hv;exact noDigit_slice _ _ _
 | j+6,hv=>simp at hv
section
variable {I:IntPred} {w w9:World} {g t:Nat} {a b:Fq} {r:Fq×Fq} {n:Bool} {A:Option Addr} {l c:Nat} {B:Option Addr} {m d:Nat} {n':Bool} {A':Option Addr} {l' c':Nat} {B':Option Addr} {m' d':Nat}
theorem root_fin (hw:Below w.heap.size w w9) (hk:Blk w9 g t rz6) (hg:w.heap.size≤g) (hz:IntN w9 n A l c r.1.z) (hq:NatN w9 B m d r.1.q) (hz':IntN w9 n' A' l' c' r.2.z) (hq':NatN w9 B' m' d' r.2.q) :
 RootE r (.returned (.agg #[.bool n,.slice A l c,.slice B m d,.bool n',.slice A' l' c',.slice B' m' d'])) (pu6 w9 g (.bool n) (.slice A l c) (.slice B m d) (.bool n') (.slice A' l' c') (.slice B' m' d'))∧Below w.heap.size w (pu6 w9 g (.bool n) (.slice A l c) (.slice B m d) (.bool n') (.slice A' l' c') (.slice B' m' d')):=by
 have hf:=pu6_frs w9 g (.bool n) (.slice A l c) (.slice B m d) (.bool n') (.slice A' l' c') (.slice B' m' d')
 have nd:=rz6_ndb hk
 exact ⟨⟨n,A,l,c,B,m,d,n',A',l',c',B',m',d',rfl,hz.frs hf nd nd,hq.frs hf nd nd,hz'.frs hf nd nd,hq'.frs hf nd nd⟩,hf.mono hw hg hg hw.size⟩
theorem isexact_any (hz:IntN w n A l c r.1.z) (hq:NatN w B m d r.1.q) (hz':IntN w n' A' l' c' r.2.z) (hq':NatN w B' m' d' r.2.q) (ha:FqB r.1) (hb:FqB r.2) :
 Calls Tryz.prog 80 #[.agg #[.bool n,.slice A l c,.slice B m d,.bool n',.slice A' l' c',.slice B' m' d']] w fun e w'=>e=.returned (.bool (fcmp r.1 r.2 == 0))∧Below w.heap.size w w':=by
 have o1:=below_new w (tbox n A l c B m d n' A' l' c' B' m' d')
 have T:=Lib.hid (TBox.make hz hq hz' hq')
 have Hb:=Lib.hid o1
 have p1:=ha.p
 have p2:=hb.p
 clear hz hq hz' hq' o1
 go_enter Tryz.func80,Tryz.ntmps80
 have x0:=T.out.r.c0;have x1:=T.out.r.c1;have x2:=T.out.r.c2;have x3:=T.out.c3;have x4:=T.out.c4;have x5:=T.out.c5
 go_wp2_with fail
 refine (rcmp_any _ _ _ _ _ _ _ _ _ _ _ _ _ _ _ _ _ _ _ T.out.r.hz.at_ T.out.r.hq.at_ T.out.hz.at_ T.out.hq.at_ (by omega) (by omega) ha.fz ha.fq hb.fz hb.fq).mono ?_
 rintro e w3 ⟨rfl,hb3⟩
 replace Hb:=Lib.hid (Hb.out.trans (hb3.mono Hb.out.size))
 obtain ⟨C,hC⟩:∃ C,C=fcmp r.1 r.2:=⟨_,rfl⟩
 rw [show cmpz (r.1.z*(r.2.q:Int)) (r.2.z*(r.1.q:Int))=C from hC.symm]
 have HC:=Lib.hid hC
 clear hb3 hC T
 clear x0 x1 x2 x3 x4 x5
 go_wp2
 go_ret
 exact ⟨by first | (rw [HC.out];done) | (rw [HC.out];rfl),Hb.out⟩
set_option maxRecDepth 100000 in
set_option maxHeartbeats 4000000 in
theorem exact_rt (hz:IntN w n A l c a.z) (hq:NatN w B m d a.q) (ha:FqB a) :
 Calls Tryz.prog 111 #[.agg #[.bool n,.slice A l c,.slice B m d]] w fun e w'=>RootE (a.nf,a.nf) e w'∧Below w.heap.size w w':=by
 have o1:=below_new w (rbox n A l c B m d)
 have o2:=below_new (w.alloc (rbox n A l c B m d)) rtObj
 have b2:Below w.heap.size w ((w.alloc (rbox n A l c B m d)).alloc rtObj):=o1.alloc (by simp) _
 have R1:=(RBox.make hz hq).move o2
 have K3:Blk ((w.alloc (rbox n A l c B m d)).alloc rtObj) (w.alloc (rbox n A l c B m d)).heap.size 44 rz6:=Blk.new _ _ _
 simp only [World.size_alloc] at K3
 have a0:=R1.c0
 have a1:=R1.c1
 have a2:=R1.c2
 replace R1:=Lib.hid R1
 have K4:=Lib.hid K3
 have Hb:=Lib.hid b2
 have hl3:=K3.lt
 obtain ⟨wb,hwb⟩:∃ wb,wb=(w.alloc (rbox n A l c B m d)).alloc rtObj:=⟨_,rfl⟩
 clear o1 o2 b2 hz hq K3
 go_enter Tryz.func111,Tryz.ntmps111
 go_wp2_with fail
 rw [← hwb] at R1 K4 Hb a0 a1 a2 hl3 ⊢
 clear hwb
 obtain ⟨g1,hg1⟩:∃ g,g=w.heap.size:=⟨_,rfl⟩
 obtain ⟨g3,hg3⟩:∃ g,g=w.heap.size+1:=⟨_,rfl⟩
 rw [← hg1] at R1 a0 a1 a2
 rw [← hg3] at K4 hl3
 rw [← hg3,← hg1]
 have l1:g1<wb.heap.size:=by omega
 have Hg:=Lib.hid (show w.heap.size≤g3 by omega)
 clear hg1 hg3
 refine wp_region_lastT (S:=fun w'=>w'.cell? ⟨g1,0,none⟩=some (.bool n)∧w'.cell? ⟨g1,1,none⟩=some (.slice A l c)∧w'.cell? ⟨g1,2,none⟩=some (.slice B m d)) (by kernel_rfl) (by kernel_rfl) (by (try dsimp only);go_keep) (fun hHeld=>?_)
 simp only [List.pop_toArray,List.dropLast]
 (refine tk (i:=0) (v:=?_) rfl rfl (Or.inl ⟨by rfl,?_⟩) ?_;rotate_left;(focus (intro w hSw;(try dsimp only at hSw);go_simp;(try with_reducible rfl)));(simp only [put_lit,List.set]))
 (refine tk (i:=2) (v:=?_) rfl rfl (Or.inl ⟨by rfl,?_⟩) ?_;rotate_left;(focus (intro w hSw;(try dsimp only at hSw);go_simp;(try with_reducible rfl)));(simp only [put_lit,List.set]))
 refine wpAnyH_ready (rs:=[1]) (by kernel_rfl) (by simp) ?_
 refine AllReadyH.cons rfl (fun K hK=>?_) AllReadyH.nil;go_simp
 refine (rnormal_any _ _ _ _ _ _ _ _ _ _ (R1.out.hz.below Bel.go) (R1.out.hq.below Bel.go) ha.fz ha.fq ha.p).mono ?_
 rintro e w7 ⟨⟨n7,A7,l7,c7,B7,m7,d7,rfl,h7,k7⟩,hb7⟩
 obtain ⟨hcx,hfx⟩:=bcellS hb7
 have hbz:Below wb.heap.size wb w7:=(Below.trans Bel.go (hb7.mono (by simp<;>omega)))
 replace R1:=Lib.hid (R1.out.move hbz)
 replace K4:=Lib.hid (K4.out.below hbz K4.out.lt)
 replace Hb:=Lib.hid (Hb.out.trans (hbz.mono Hb.out.size))
 refine hK.out _ _ ?_ (fun _=>?_)
 ·((try dsimp only);repeat' apply And.intro)<;>(rw [hcx _ (by go_simp)];go_simp)
 clear hHeld hK K hcx hfx;rename_i hHeld
 have hs7:=hbz.size
 have H7:=Lib.hid (And.intro h7 k7)
 clear h7 k7 hb7 hbz
 refine wpAnyH_ready (rs:=[3]) (by kernel_rfl) (by simp) ?_
 refine AllReadyH.cons rfl (fun K hK=>?_) AllReadyH.nil;go_simp
 refine (rnormal_any _ _ _ _ _ _ _ _ _ _ (R1.out.hz.below Bel.go) (R1.out.hq.below Bel.go) ha.fz ha.fq ha.p).mono ?_
 rintro e w9 ⟨⟨n9,A9,l9,c9,B9,m9,d9,rfl,h9,k9⟩,hb9⟩
 obtain ⟨hcx,hfx⟩:=bcellS hb9
 have hbz:Below w7.heap.size w7 w9:=(Below.trans Bel.go (hb9.mono (by simp<;>omega)))
 replace K4:=Lib.hid (K4.out.below hbz K4.out.lt)
 replace Hb:=Lib.hid (Hb.out.trans (hbz.mono Hb.out.size))
 replace H7:=Lib.hid (And.intro (H7.out.1.below hbz) (H7.out.2.below hbz))
 refine hK.out _ _ ?_ (fun _=>?_)
 ·((try dsimp only);repeat' apply And.intro)<;>(rw [hcx _ (by go_simp)];go_simp)
 clear hHeld hK K hcx hfx;rename_i hHeld
 have H9:=Lib.hid (And.intro h9 k9)
 clear h9 k9 hb9 hbz R1
 (refine tk (i:=4) (v:=?_) rfl rfl (Or.inl ⟨by rfl,?_⟩) ?_;rotate_left;(focus (intro w hSw;(try dsimp only at hSw);go_simp;(try with_reducible rfl)));(simp only [put_lit,List.set]))
 refine wpAnyH_done (by kernel_rfl) (lastQ_list rfl ?_) _
 clear hHeld a0 a1 a2
 have FX:=Lib.hid (root_fin (r:=(a.nf,a.nf)) Hb.out K4.out Hg.out H7.out.1 H7.out.2 H9.out.1 H9.out.2);have r0:=(K4.out.cell 0).trans rfl;have r1:=(K4.out.cell 1).trans rfl;have r2:=(K4.out.cell 2).trans rfl;have r3:=(K4.out.cell 3).trans rfl;have r4:=(K4.out.cell 4).trans rfl;have r5:=(K4.out.cell 5).trans rfl;have s0:=K4.out.frozen 0;have s1:=K4.out.frozen 1;have s2:=K4.out.frozen 2;have s3:=K4.out.frozen 3;have s4:=K4.out.frozen 4;have s5:=K4.out.frozen 5;clear K4 Hb;go_wp2;(try clear T);refine bodyPost_ret (v:=.agg #[.bool n7,.slice A7 l7 c7,.slice B7 m7 d7,.bool n9,.slice A9 l9 c9,.slice B9 m9 d9]) (by simp [results,Tryz.results111,go_sem,r0,r1,r2,r3,r4,r5]) rfl FX.out
set_option maxRecDepth 100000 in
set_option maxHeartbeats 4000000 in
theorem rcopy_any (hz:IntN w n A l c r.1.z) (hq:NatN w B m d r.1.q) (hz':IntN w n' A' l' c' r.2.z) (hq':NatN w B' m' d' r.2.q) (ha:FqB r.1) (hb:FqB r.2) :
 Calls Tryz.prog 70 #[.agg #[.bool n,.slice A l c,.slice B m d,.bool n',.slice A' l' c',.slice B' m' d']] w fun e w'=>RootE (r.1.nf,r.2.nf) e w'∧Below w.heap.size w w':=by
 have o1:=below_new w (tbox n A l c B m d n' A' l' c' B' m' d')
 have o2:=below_new (w.alloc (tbox n A l c B m d n' A' l' c' B' m' d')) rtObj
 have b2:Below w.heap.size w ((w.alloc (tbox n A l c B m d n' A' l' c' B' m' d')).alloc rtObj):=o1.alloc (by simp) _
 have T:=Lib.hid ((TBox.make hz hq hz' hq').move o2)
 have K3:Blk ((w.alloc (tbox n A l c B m d n' A' l' c' B' m' d')).alloc rtObj) (w.alloc (tbox n A l c B m d n' A' l' c' B' m' d')).heap.size 44 rz6:=Blk.new _ _ _
 simp only [World.size_alloc] at K3
 have x0:=T.out.r.c0;have x1:=T.out.r.c1;have x2:=T.out.r.c2;have x3:=T.out.c3;have x4:=T.out.c4;have x5:=T.out.c5
 have K4:=Lib.hid K3
 have Hb:=Lib.hid b2
 have hl3:=K3.lt
 obtain ⟨wb,hwb⟩:∃ wb,wb=(w.alloc (tbox n A l c B m d n' A' l' c' B' m' d')).alloc rtObj:=⟨_,rfl⟩
 clear o1 o2 b2 hz hq hz' hq' K3
 go_enter Tryz.func70,Tryz.ntmps70
 go_wp2_with fail
 rw [← hwb] at T K4 Hb x0 x1 x2 x3 x4 x5 hl3 ⊢
 clear hwb
 obtain ⟨g1,hg1⟩:∃ g,g=w.heap.size:=⟨_,rfl⟩
 obtain ⟨g3,hg3⟩:∃ g,g=w.heap.size+1:=⟨_,rfl⟩
 rw [← hg1] at T x0 x1 x2 x3 x4 x5
 rw [← hg3] at K4 hl3
 rw [← hg3,← hg1]
 have l1:g1<wb.heap.size:=by omega
 have Hg:=Lib.hid (show w.heap.size≤g3 by omega)
 clear hg1 hg3
 refine wp_region_lastT (S:=fun w'=>w'.cell? ⟨g1,0,none⟩=some (.bool n)∧w'.cell? ⟨g1,1,none⟩=some (.slice A l c)∧w'.cell? ⟨g1,2,none⟩=some (.slice B m d)∧w'.cell? ⟨g1,3,none⟩=some (.bool n')∧w'.cell? ⟨g1,4,none⟩=some (.slice A' l' c')∧w'.cell? ⟨g1,5,none⟩=some (.slice B' m' d')) (by kernel_rfl) (by kernel_rfl) (by (try dsimp only);go_keep) (fun hHeld=>?_)
 simp only [List.pop_toArray,List.dropLast]
 (refine tk (i:=0) (v:=?_) rfl rfl (Or.inl ⟨by rfl,?_⟩) ?_;rotate_left;(focus (intro w hSw;(try dsimp only at hSw);go_simp;(try with_reducible rfl)));(simp only [put_lit,List.set]))
 (refine tk (i:=1) (v:=?_) rfl rfl (Or.inl ⟨by rfl,?_⟩) ?_;rotate_left;(focus (intro w hSw;(try dsimp only at hSw);go_simp;(try with_reducible rfl)));(simp only [put_lit,List.set]))
 (refine tk (i:=3) (v:=?_) rfl rfl (Or.inl ⟨by rfl,?_⟩) ?_;rotate_left;(focus (intro w hSw;(try dsimp only at hSw);go_simp;(try with_reducible rfl)));(simp only [put_lit,List.set]))
 (refine tk (i:=4) (v:=?_) rfl rfl (Or.inl ⟨by rfl,?_⟩) ?_;rotate_left;(focus (intro w hSw;(try dsimp only at hSw);go_simp;(try with_reducible rfl)));(simp only [put_lit,List.set]))
 refine wpAnyH_ready (rs:=[2]) (by kernel_rfl) (by simp) ?_
 refine AllReadyH.cons rfl (fun K hK=>?_) AllReadyH.nil;go_simp
 refine (rnormal_any _ _ _ _ _ _ _ _ _ _ (T.out.r.hz.below Bel.go) (T.out.r.hq.below Bel.go) ha.fz ha.fq ha.p).mono ?_
 rintro e w7 ⟨⟨n7,A7,l7,c7,B7,m7,d7,rfl,h7,k7⟩,hb7⟩
 obtain ⟨hcx,hfx⟩:=bcellS hb7
 have hbz:Below wb.heap.size wb w7:=(Below.trans Bel.go (hb7.mono (by simp<;>omega)))
 replace T:=Lib.hid (T.out.move hbz)
 replace K4:=Lib.hid (K4.out.below hbz K4.out.lt)
 replace Hb:=Lib.hid (Hb.out.trans (hbz.mono Hb.out.size))
 refine hK.out _ _ ?_ (fun _=>?_)
 ·((try dsimp only);repeat' apply And.intro)<;>(rw [hcx _ (by go_simp)];go_simp)
 clear hHeld hK K hcx hfx;rename_i hHeld
 have hs7:=hbz.size
 have H7:=Lib.hid (And.intro h7 k7)
 clear h7 k7 hb7 hbz
 refine wpAnyH_ready (rs:=[5]) (by kernel_rfl) (by simp) ?_
 refine AllReadyH.cons rfl (fun K hK=>?_) AllReadyH.nil;go_simp
 refine (rnormal_any _ _ _ _ _ _ _ _ _ _ (T.out.hz.below Bel.go) (T.out.hq.below Bel.go) hb.fz hb.fq hb.p).mono ?_
 rintro e w9 ⟨⟨n9,A9,l9,c9,B9,m9,d9,rfl,h9,k9⟩,hb9⟩
 obtain ⟨hcx,hfx⟩:=bcellS hb9
 have hbz:Below w7.heap.size w7 w9:=(Below.trans Bel.go (hb9.mono (by simp<;>omega)))
 replace K4:=Lib.hid (K4.out.below hbz K4.out.lt)
 replace Hb:=Lib.hid (Hb.out.trans (hbz.mono Hb.out.size))
 replace H7:=Lib.hid (And.intro (H7.out.1.below hbz) (H7.out.2.below hbz))
 refine hK.out _ _ ?_ (fun _=>?_)
 ·((try dsimp only);repeat' apply And.intro)<;>(rw [hcx _ (by go_simp)];go_simp)
 clear hHeld hK K hcx hfx;rename_i hHeld
 have H9:=Lib.hid (And.intro h9 k9)
 clear h9 k9 hb9 hbz T
 (refine tk (i:=6) (v:=?_) rfl rfl (Or.inl ⟨by rfl,?_⟩) ?_;rotate_left;(focus (intro w hSw;(try dsimp only at hSw);go_simp;(try with_reducible rfl)));(simp only [put_lit,List.set]))
 refine wpAnyH_done (by kernel_rfl) (lastQ_list rfl ?_) _
 clear hHeld x0 x1 x2 x3 x4 x5
 have FX:=Lib.hid (root_fin (r:=(r.1.nf,r.2.nf)) Hb.out K4.out Hg.out H7.out.1 H7.out.2 H9.out.1 H9.out.2);have r0:=(K4.out.cell 0).trans rfl;have r1:=(K4.out.cell 1).trans rfl;have r2:=(K4.out.cell 2).trans rfl;have r3:=(K4.out.cell 3).trans rfl;have r4:=(K4.out.cell 4).trans rfl;have r5:=(K4.out.cell 5).trans rfl;have s0:=K4.out.frozen 0;have s1:=K4.out.frozen 1;have s2:=K4.out.frozen 2;have s3:=K4.out.frozen 3;have s4:=K4.out.frozen 4;have s5:=K4.out.frozen 5;clear K4 Hb;go_wp2;(try clear T);refine bodyPost_ret (v:=.agg #[.bool n7,.slice A7 l7 c7,.slice B7 m7 d7,.bool n9,.slice A9 l9 c9,.slice B9 m9 d9]) (by simp [results,Tryz.results70,go_sem,r0,r1,r2,r3,r4,r5]) rfl FX.out
end
end Go.Proofs.YtbfddopopajgaaaGreat
namespace Go.Proofs.YtbfddopopajgaaaGreat
open Go Go.RowKit
set_option maxRecDepth 100000 in
set_option maxHeartbeats 4000000 in
theorem zeroat_g {w:World} {Ap:Option Addr} {lp cp:Nat} {f:List Int} {Ag:Option Addr} {lg cg:Nat} {g:List Int} {x:Pt} {r:Fq×Fq} {n:Bool} {A:Option Addr} {l c:Nat} {B:Option Addr} {m d:Nat} {n':Bool} {A':Option Addr} {l' c':Nat} {B':Option Addr} {m' d':Nat}
 (hp:PolyN w Ap lp cp (qpart f)) (s6:S6 f) (hg:PolyN w Ag lg cg g) (zg:ZaG f g x) (hz:IntN w n A l c r.1.z) (hq:NatN w B m d r.1.q) (hz':IntN w n' A' l' c' r.2.z) (hq':NatN w B' m' d' r.2.q) (ha:FqB r.1) (hb:FqB r.2) (hi:IsoV f x r.1 r.2) :
 Calls Tryz.prog 88 #[.slice Ap lp cp,.agg #[.bool n,.slice A l c,.slice B m d,.bool n',.slice A' l' c',.slice B' m' d'],.slice Ag lg cg] w fun e w'=>e=.returned (.bool (decide (sgp g x=0)))∧Below w.heap.size w w':=by
 have o1:=below_new w (tbox n A l c B m d n' A' l' c' B' m' d')
 have T:=Lib.hid (TBox.make hz hq hz' hq')
 have HP:=Lib.hid (hp.below ikN o1)
 have HG:=Lib.hid (hg.below ikN o1)
 have Hb:=Lib.hid o1
 have hlg:lg≤16:=by have:=hg.length;have:=zg.len;omega
 have hlp:lp≤6:=by have:=hp.length;have:=s6.qlen;omega
 have p1:=ha.p
 have p2:=hb.p
 have pg:=zg.at_ r.1 ha
 have hd:=zg.ga
 have hd9:=zg.g9
 have hdt:=zg.gl
 have gfit:=zg.fit
 have hle:=hi.le
 have ez:r.1.v=r.2.v→(r.1.sgn g=0↔sgp g x=0):=fun e=>by
  rw [sgn_pt ha.p]
  rcases hi.2 with h | h
  ·rw [h.2]
  ·grind
 have en:r.1.v≠r.2.v→(0<ncount (gres (qpart f) g) r.1.z r.1.q r.2.z r.2.q↔sgp g x=0):=fun e=>zg.zc r.1 r.2 ha.p hb.p hi (by grind)
 have fz:=fcmp_zero ha.p hb.p
 have fitQ:FitP (qpart f):=s6.q9.cp.fit
 obtain ⟨Q,hQ⟩:∃ Q,Q=qpart f:=⟨_,rfl⟩
 rw [← hQ] at hd hd9 hdt en HP fitQ
 obtain ⟨V,hV⟩:∃ V,V=decide (sgp g x=0):=⟨_,rfl⟩
 rw [← hV]
 have HV:=Lib.hid hV
 have EZ:=Lib.hid ez
 have EN:=Lib.hid en
 have FZ:=Lib.hid fz
 have HD:=Lib.hid hd
 have HD9:=Lib.hid hd9
 clear hz hq hz' hq' o1 hp hg hV ez en fz hd hd9 hle hQ hi zg
 obtain ⟨wb,hwb⟩:∃ wb,wb=w.alloc (tbox n A l c B m d n' A' l' c' B' m' d'):=⟨_,rfl⟩
 obtain ⟨g1,hg1⟩:∃ g,g=w.heap.size:=⟨_,rfl⟩
 go_enter Tryz.func88,Tryz.ntmps88
 have x0:=T.out.r.c0;have x1:=T.out.r.c1;have x2:=T.out.r.c2;have x3:=T.out.c3;have x4:=T.out.c4;have x5:=T.out.c5
 go_wp2_with fail
 rw [← hwb,← hg1] at T x0 x1 x2 x3 x4 x5
 rw [← hwb] at HP HG Hb ⊢
 rw [← hg1]
 clear hwb hg1
 refine (isexact_any (r:=r) T.out.r.hz T.out.r.hq T.out.hz T.out.hq ha hb).mono ?_
 rintro e w1 ⟨rfl,hb1⟩
 replace T:=Lib.hid (T.out.move hb1)
 replace HP:=Lib.hid (HP.out.below ikN hb1)
 replace HG:=Lib.hid (HG.out.below ikN hb1)
 replace Hb:=Lib.hid (Hb.out.trans (hb1.mono Hb.out.size))
 clear hb1 x0 x1 x2 x3 x4 x5
 have x0:=T.out.r.c0;have x1:=T.out.r.c1;have x2:=T.out.r.c2;have x3:=T.out.c3;have x4:=T.out.c4;have x5:=T.out.c5
 have l1:=T.out.r.lt
 by_cases c0:fcmp r.1 r.2=0
 ·have b1:(fcmp r.1 r.2 == 0)=true:=by rw [c0];rfl
  obtain ⟨S,hS⟩:∃ S,S=r.1.sgn g:=⟨_,rfl⟩
  have EV:=Lib.hid (show V=(S == 0) by
   have h1:=EZ.out (FZ.out.1 c0)
   rw [← hS] at h1
   rw [HV.out]
   by_cases c:S=0
   ·rw [decide_eq_true (h1.1 c),c];rfl
   ·rw [decide_eq_false fun e=>c (h1.2 e)];exact (beq_eq_false_iff_ne.2 c).symm)
  have HS:=Lib.hid hS
  clear c0 hS
  go_wp2_with fail
  refine (signat_any ikN _ _ _ g _ _ _ _ _ _ _ _ _ _ HG.out pg.fit (by omega) T.out.r.hz T.out.r.hq ha.at.u ha.at.v ha.at.pos pg.ok ha.at.fz ha.at.fq).mono ?_
  rintro e w4 ⟨he,hb4⟩
  have he2:e=.returned (.int .i64 S):=by rw [HS.out];exact he
  subst he2
  replace Hb:=Lib.hid (Hb.out.trans (hb4.mono Hb.out.size))
  clear he hb4 T HP HG x0 x1 x2 x3 x4 x5
  go_wp2
  go_ret
  exact ⟨by first | (rw [EV.out];done) | (rw [EV.out];rfl),Hb.out⟩
 ·have b1:(fcmp r.1 r.2 == 0)=false:=by rw [beq_eq_false_iff_ne];exact c0
  obtain ⟨U,hU⟩:∃ U,U=ncount (gres Q g) r.1.z r.1.q r.2.z r.2.q:=⟨_,rfl⟩
  have EV:=Lib.hid (show V=decide (0<U) by
   have h1:=EN.out (fun e=>c0 (FZ.out.2 e))
   rw [← hU] at h1
   rw [HV.out]
   exact decide_eq_decide.2 h1.symm)
  have HU:=Lib.hid hU
  clear c0 hU
  obtain ⟨wk,hwk⟩:∃ wk,wk=w1:=⟨_,rfl⟩
  rw [← hwk] at T HP HG Hb x0 x1 x2 x3 x4 x5 l1 ⊢
  clear hwk
  go_wp2_with fail
  refine wp_region_held_drew (S:=(fun w'=>w'.cell? ⟨g1,0,none⟩=some (.bool n)∧w'.cell? ⟨g1,1,none⟩=some (.slice A l c)∧w'.cell? ⟨g1,2,none⟩=some (.slice B m d)∧w'.cell? ⟨g1,3,none⟩=some (.bool n')∧w'.cell? ⟨g1,4,none⟩=some (.slice A' l' c')∧w'.cell? ⟨g1,5,none⟩=some (.slice B' m' d'))) (by kernel_rfl) (by (try dsimp only);go_keep) (fun hHeld=>?_)
  (refine tk (i:=0) (v:=?_) rfl rfl (Or.inl ⟨by rfl,?_⟩) ?_;rotate_left;(focus (intro w hSw;(try dsimp only at hSw);go_simp;(try with_reducible rfl)));(simp only [put_lit,List.set]))
  (refine tk (i:=1) (v:=?_) rfl rfl (Or.inl ⟨by rfl,?_⟩) ?_;rotate_left;(focus (intro w hSw;(try dsimp only at hSw);go_simp;(try with_reducible rfl)));(simp only [put_lit,List.set]))
  (refine tk (i:=3) (v:=?_) rfl rfl (Or.inl ⟨by rfl,?_⟩) ?_;rotate_left;(focus (intro w hSw;(try dsimp only at hSw);go_simp;(try with_reducible rfl)));(simp only [put_lit,List.set]))
  (refine tk (i:=4) (v:=?_) rfl rfl (Or.inl ⟨by rfl,?_⟩) ?_;rotate_left;(focus (intro w hSw;(try dsimp only at hSw);go_simp;(try with_reducible rfl)));(simp only [put_lit,List.set]))
  (refine tk (i:=5) (v:=?_) rfl rfl (Or.inl ⟨by rfl,?_⟩) ?_;rotate_left;(focus (intro w hSw;(try dsimp only at hSw);go_simp;(try with_reducible rfl)));(simp only [put_lit,List.set]))
  (refine tk (i:=6) (v:=?_) rfl rfl (Or.inl ⟨by rfl,?_⟩) ?_;rotate_left;(focus (intro w hSw;(try dsimp only at hSw);go_simp;(try with_reducible rfl)));(simp only [put_lit,List.set]))
  (refine wpAnyH_ready (rs:=[2]) (by kernel_rfl) (by simp) ?_;refine AllReadyH.cons rfl (fun K hK=>?_) AllReadyH.nil;go_simp)
  refine (gcd_any ikN ikN _ _ _ Q _ _ _ g _ (HP.out.below ikN Bel.go) (HG.out.below ikN Bel.go) fitQ.smp gfit.smp (by omega) (by omega) HD.out).mono ?_
  rintro e w4 ⟨A4,l4,c4,rfl,h4,hb4⟩
  have G4:=Lib.hid ((Below.trans Bel.go (hb4.mono (by simp<;>omega))):Below wk.heap.size wk w4)
  have hl4:l4≤6:=by have:=h4.length;omega
  have H4:=Lib.hid h4
  clear h4
  obtain ⟨hcx,hfx⟩:=bcellS hb4;refine hK.out _ _ ?_ (fun _=>?_);(focus (((try dsimp only);repeat' apply And.intro)<;>(rw [hcx _ (by go_simp)];go_simp)));clear hHeld hK K hcx hfx;rename_i hHeld;clear hb4
  (refine wpAnyH_ready (rs:=[7]) (by kernel_rfl) (by simp) ?_;refine AllReadyH.cons rfl (fun K hK=>?_) AllReadyH.nil;go_simp)
  have T4:=T.out.move G4.out
  refine (count_q ikN _ _ _ (gres Q g) _ _ _ _ _ _ _ r.1.q r.1.z _ _ _ _ _ _ _ r.2.q r.2.z _ (H4.out.below ikN Bel.go) (by omega) HD9.out (T4.r.hz.below Bel.go) (T4.r.hq.below Bel.go) (T4.hz.below Bel.go) (T4.hq.below Bel.go) ha.at hb.at ha.z ha.q hb.z hb.q).mono ?_
  rintro e w5 ⟨he,hb5⟩
  have he2:e=.returned (.int .i64 U):=by rw [HU.out];exact he
  subst he2
  have G5:=Lib.hid (G4.out.trans (((Below.trans Bel.go (hb5.mono (by simp<;>omega))):Below w4.heap.size w4 w5).mono G4.out.size))
  clear he T4
  obtain ⟨hcx,hfx⟩:=bcellS hb5;refine hK.out _ _ ?_ (fun _=>?_);(focus (((try dsimp only);repeat' apply And.intro)<;>(rw [hcx _ (by go_simp)];go_simp)));clear hHeld hK K hcx hfx;rename_i hHeld;clear hb5
  (refine tk (i:=8) (v:=?_) rfl rfl (Or.inl ⟨by rfl,?_⟩) ?_;rotate_left;(focus (intro w hSw;(try dsimp only at hSw);go_simp;(try with_reducible rfl)));(simp only [put_lit,List.set]))
  (refine tk (i:=9) (v:=?_) rfl rfl (Or.inl ⟨by rfl,?_⟩) ?_;rotate_left;(focus (intro w hSw;(try dsimp only at hSw);go_simp;(try with_reducible rfl)));(simp only [put_lit,List.set]))
  refine wpAnyH_done (by kernel_rfl) ?_ _
  replace Hb:=Lib.hid (Hb.out.trans (G5.out.mono Hb.out.size))
  clear hHeld x0 x1 x2 x3 x4 x5 T HP HG G4 G5 H4
  go_wp2
  go_ret
  exact ⟨by first | (rw [EV.out];done) | (rw [EV.out];rfl),Hb.out⟩
theorem zeroat_any {w:World} {Ap:Option Addr} {lp cp:Nat} {f:List Int} {Ag:Option Addr} {lg cg:Nat} {g:List Int} {x:Pt} {r:Fq×Fq} {n:Bool} {A:Option Addr} {l c:Nat} {B:Option Addr} {m d:Nat} {n':Bool} {A':Option Addr} {l' c':Nat} {B':Option Addr} {m' d':Nat}
 (hp:PolyN w Ap lp cp (qpart f)) (s6:S6 f) (h0:plen f≠0) (hg:PolyN w Ag lg cg g) (g6:G6 g) (hz:IntN w n A l c r.1.z) (hq:NatN w B m d r.1.q) (hz':IntN w n' A' l' c' r.2.z) (hq':NatN w B' m' d' r.2.q) (ha:FqB r.1) (hb:FqB r.2) (hi:IsoV f x r.1 r.2) :
 Calls Tryz.prog 88 #[.slice Ap lp cp,.agg #[.bool n,.slice A l c,.slice B m d,.bool n',.slice A' l' c',.slice B' m' d'],.slice Ag lg cg] w fun e w'=>e=.returned (.bool (decide (sgp g x=0)))∧Below w.heap.size w w' :=
 zeroat_g hp s6 hg (zag_g6 s6 h0 g6) hz hq hz' hq' ha hb hi
end Go.Proofs.YtbfddopopajgaaaGreat
namespace Go.Proofs.YtbfddopopajgaaaGreat
open Go Go.RowKit
def SlC (u:Value):Prop:=∃ A l c,u=.slice A l c
theorem slC_nd (u:Value) (h:SlC u):Nd u:=by obtain ⟨A,l,c,rfl⟩:=h;exact nd_slice _ _ _
def PolR (w:World) (p:List Int) (vs:List Value):Prop:=∃ A l c,vs=[.slice A l c]∧PolyN w A l c p
def CodR (w:World) (xs:List Int) (vs:List Value):Prop:=∃ A l c,vs=[.slice A l c]∧I64At w A l c xs
section
variable {w w':World} {p xs:List Int} {vs:List Value} {g:Nat}
theorem PolR.below (h:PolR w p vs) (hb:Below w.heap.size w w'):PolR w' p vs:=by
 obtain ⟨A,l,c,e,h1⟩:=h
 exact ⟨A,l,c,e,h1.below ikN hb⟩
theorem PolR.len (h:PolR w p vs):vs.length=1:=by obtain ⟨A,l,c,e,h1⟩:=h;rw [e];rfl
theorem PolR.sl (h:PolR w p vs):∀ v∈vs,SlC v:=by
 obtain ⟨A,l,c,e,h1⟩:=h
 intro v hv
 rw [e,List.mem_singleton] at hv
 exact ⟨A,l,c,hv⟩
theorem PolR.frs (h:PolR w p vs) (hf:FrS g g w w') (hc:∀ o u,w.cell? ⟨g,o,none⟩=some u→SlC u):PolR w' p vs:=by
 obtain ⟨A,l,c,e,h1⟩:=h
 have hnd:NdB w g:=fun o u hu=>(slC_nd u (hc o u hu)).1
 refine ⟨A,l,c,e,PolyG.frs (g:=g) (g':=g) ⟨h1,?_⟩ hf hnd hnd⟩
 rcases h1.elems with h0 | ⟨b,o,hA,hlt,he⟩
 ·exact .inl h0
 ·rcases Nat.eq_zero_or_pos l with h0 | h0
  ·exact .inl h0
  ·have hne:b≠g:=fun e=>by
    subst e
    obtain ⟨neg,_,_,_,f1,_,_⟩:=he 0 h0
    obtain ⟨_,_,_,e2⟩:=hc _ _ f1
    cases e2
   exact .inr ⟨b,o,hA,hne,hne⟩
theorem CodR.below (h:CodR w xs vs) (hb:Below w.heap.size w w'):CodR w' xs vs:=by
 obtain ⟨A,l,c,e,h1⟩:=h
 exact ⟨A,l,c,e,h1.below hb⟩
theorem CodR.len (h:CodR w xs vs):vs.length=1:=by obtain ⟨A,l,c,e,h1⟩:=h;rw [e];rfl
theorem CodR.sl (h:CodR w xs vs):∀ v∈vs,SlC v:=by
 obtain ⟨A,l,c,e,h1⟩:=h
 intro v hv
 rw [e,List.mem_singleton] at hv
 exact ⟨A,l,c,hv⟩
theorem CodR.frs (h:CodR w xs vs) (hf:FrS g g w w') (hc:∀ o u,w.cell? ⟨g,o,none⟩=some u→SlC u):CodR w' xs vs:=by
 obtain ⟨A,l,c,e,h1⟩:=h
 refine ⟨A,l,c,e,h1.length,h1.cap,?_⟩
 rcases h1.cells with h0 | ⟨b,o,hA,hlt,he⟩
 ·exact .inl h0
 ·rcases Nat.eq_zero_or_pos l with h0 | h0
  ·exact .inl h0
  ·have hne:b≠g:=fun e=>by
    subst e
    obtain ⟨_,_,_,e2⟩:=hc _ _ (he 0 h0)
    cases e2
   exact .inr ⟨b,o,hA,Nat.lt_of_lt_of_le hlt hf.size,fun j hj=>(hf.cell hlt hne hne _).trans (he j hj)⟩
end
theorem wpList_app_own {w:World} {ops:Array Oper} {rest:List Oper} {o:Oper} {a:Act} {Q:Exit→Act→World→Prop} (hgd:o.guard=none) (s x:Operand) (t e:TypeId)
 (ho:o.op=.call { callee:=.builtin .append,args:=#[s,x],argTypes:=#[t,t] }) (E:Nat) (i0:TypeInfo) (z:Value) (ht:Tryz.prog.underlying t=some (.slice e)) (hi:Tryz.prog.info? e=some i0) (hz0:i0.zero=some z) (hz1:i0.size=E) (hz2:i0.bytes≤200) (hzs:z.cells.size=E) (C:Value→Prop) (hC:∀ u,C u→Nd u) (hzn:∀ j,j<E→C (z.cells[j]!)) (hE:0<E)
 (base:Nat) (v:Value) (us vs:List Value) (hs:a.eval s=v) (hown:OwnE C E e base w v us) (hB:base≤w.heap.size)
 (ax:Addr) (m c:Nat) (hx:a.eval x=.slice (some ax) m c) (hvl:vs.length=m*E) (hxc:∀ (j:Nat) (u:Value),vs[j]?=some u→w.cell? (ax.add j)=some u) (hvn:∀ u∈vs,C u) (hm:0<m∨v≠.slice none 0 0) (hn:us.length+vs.length≤100000000)
 (dd:Nat) (hdd:o.dst=some dd) (h:∀ v' w',GrE C E e base w v us vs v' w'→wpList Tryz.prog ops Q rest (a.put (some dd) v') w') :
 wpList Tryz.prog ops Q (o :: rest) a w :=
 wpList_plain hgd fun _ hK'=>oper_append_own s x t e ho E i0 z ht hi hz0 hz1 hz2 hzs C hC hzn hE base v us vs hs hown hB ax m c hx hvl hxc hvn hm hn dd hdd fun v' w' hg=>hK' _ _ (h v' w' hg)
theorem one_cell {w:World} {u:Value} (t:TypeId):∀ (j:Nat) (v:Value),[u][j]?=some v→(w.alloc (.cells #[u] t)).cell? ((⟨w.heap.size,0,none⟩:Addr).add j)=some v:=fun j v hv=>by
 match j,hv with
 | 0,hv=>simp at hv;subst hv;simp [Addr.add]
end Go.Proofs.YtbfddopopajgaaaGreat
namespace Go.Proofs.YtbfddopopajgaaaGreat
open Go Go.RowKit
section
variable {α:Type} {C:Value→Prop} {E t base:Nat} {R:World→α→List Value→Prop} {w w':World} {v v':Value} {us vs:List Value}
theorem GrE.mv (h:GrE C E t base w v us vs v' w') (hb:∀ x vs,Below w.heap.size w w'→R w x vs→R w' x vs) (hf:∀ g x vs,FrS g g w w'→(∀ o u,w.cell? ⟨g,o,none⟩=some u→C u)→R w x vs→R w' x vs) (x:α) (ys:List Value) (hx:R w x ys):R w' x ys:=by
 rcases h.2 with ⟨g,n,n',cap,_,_,_,_,k,f⟩ | ⟨k,_⟩
 ·exact hf g x ys f k hx
 ·exact hb x ys k hx
end
theorem polr_mv {B:Nat} {t:TypeId} {w w':World} {v v':Value} {us vs:List Value} (h:GrE SlC 1 t B w v us vs v' w') (p:List Int) (ys:List Value):PolR w p ys→PolR w' p ys:=h.mv (fun _ _ hb hx=>hx.below hb) (fun _ _ _ hf hc hx=>hx.frs hf hc) p ys
theorem slz:∀ j,j<1→SlC ((Value.slice none 0 0).cells[j]!):=fun j hj=>by
 match j,hj with
 | 0,_=>exact ⟨none,0,0,rfl⟩
end Go.Proofs.YtbfddopopajgaaaGreat
namespace Go.Proofs.YtbfddopopajgaaaGreat
open Go Go.RowKit
def New (B:Nat) (A:Option Addr) (l:Nat):Prop:=l=0∨∃ r,A=some ⟨r,0,none⟩∧B≤r
section
variable {B B' g:Nat} {A:Option Addr} {l c:Nat} {w w':World} {p:List Int} {ps:List (List Int)} {vs us:List Value} {v v':Value}
theorem New.mono (h:New B A l) (hb:B'≤B):New B' A l:=h.imp id fun ⟨r,e,hr⟩=>⟨r,e,Nat.le_trans hb hr⟩
def PolRF (B:Nat) (w:World) (p:List Int) (vs:List Value):Prop:=∃ A l c,vs=[.slice A l c]∧PolyN w A l c p∧New B A l
theorem PolRF.polr (h:PolRF B w p vs):PolR w p vs:=by
 obtain ⟨A,l,c,e,h1,_⟩:=h
 exact ⟨A,l,c,e,h1⟩
theorem PolRF.mono (h:PolRF B w p vs) (hb:B'≤B):PolRF B' w p vs:=by
 obtain ⟨A,l,c,e,h1,h2⟩:=h
 exact ⟨A,l,c,e,h1,h2.mono hb⟩
theorem PolRF.below (h:PolRF B w p vs) (hb:Below w.heap.size w w'):PolRF B w' p vs:=by
 obtain ⟨A,l,c,e,h1,h2⟩:=h
 exact ⟨A,l,c,e,h1.below ikN hb,h2⟩
theorem PolRF.len (h:PolRF B w p vs):vs.length=1:=h.polr.len
theorem PolRF.sl (h:PolRF B w p vs):∀ v∈vs,SlC v:=h.polr.sl
theorem PolRF.frs (h:PolRF B w p vs) (hf:FrS g g w w') (hc:∀ o u,w.cell? ⟨g,o,none⟩=some u→SlC u):PolRF B w' p vs:=by
 obtain ⟨A',l',c',e',h'⟩:=h.polr.frs hf hc
 obtain ⟨A,l,c,e,_,h2⟩:=h
 have e2:=e.symm.trans e'
 cases e2
 exact ⟨_,_,_,e',h',h2⟩
theorem PolRF.off (h:PolRF B w p vs) (hf:FrS g g w w') (hn:NdB w g) (hg:g<B):PolRF B w' p vs:=by
 obtain ⟨A,l,c,e,h1,h2⟩:=h
 refine ⟨A,l,c,e,PolyG.frs (g:=g) (g':=g) ⟨h1,?_⟩ hf hn hn,h2⟩
 rcases h2 with h0 | ⟨r,hA,hr⟩
 ·exact .inl h0
 ·exact .inr ⟨r,0,hA,by omega,by omega⟩
theorem polrf_mv {B0:Nat} {t:TypeId} (h:GrE SlC 1 t B0 w v us vs v' w') (p:List Int) (ys:List Value):PolRF B w p ys→PolRF B w' p ys:=h.mv (fun _ _ hb hx=>hx.below hb) (fun _ _ _ hf hc hx=>hx.frs hf hc) p ys
def ChF (B:Nat) (w:World) (A:Option Addr) (l c:Nat) (ps:List (List Int)):Prop:=SlE 1 (PolRF B) w A l c ps∧New B A l
theorem ChF.nil (B:Nat) (w:World):ChF B w none 0 0 []:=⟨⟨rfl,Nat.le_refl _,.inl ⟨rfl,rfl,rfl⟩⟩,.inl rfl⟩
theorem ChF.own {t:TypeId} (h:OwnE SlC 1 t B w (.slice A l c) us) (hl:Lay (PolRF B w) ps us):ChF B w A l c ps:=by
 obtain ⟨A9,l9,c9,e9,h9⟩:=h.sle (by decide) hl fun x vs hx=>hx.len
 cases e9
 refine ⟨h9,?_⟩
 rcases h with ⟨_,e⟩ | ⟨g,n,cap,cs,e,hb,_⟩
 ·cases e;exact .inl rfl
 ·cases e;exact .inr ⟨g,rfl,hb⟩
theorem ChF.mono (h:ChF B w A l c ps) (hb:B'≤B):ChF B' w A l c ps:=by
 refine ⟨⟨h.1.length,h.1.cap,?_⟩,h.2.mono hb⟩
 rcases h.1.elems with h0 | ⟨b,o,e,hlt,hv⟩
 ·exact .inl h0
 ·refine .inr ⟨b,o,e,hlt,fun i x hx=>?_⟩
  obtain ⟨vs,h1,h2⟩:=hv i x hx
  exact ⟨vs,h1.mono hb,h2⟩
theorem ChF.below (h:ChF B w A l c ps) (hb:Below w.heap.size w w'):ChF B w' A l c ps:=⟨h.1.below hb fun _ _ hx=>hx.below hb,h.2⟩
theorem ChF.off (h:ChF B w A l c ps) (hf:FrS g g w w') (hn:NdB w g) (hg:g<B):ChF B w' A l c ps:=by
 refine ⟨⟨h.1.length,h.1.cap,?_⟩,h.2⟩
 rcases h.1.elems with h0 | ⟨b,o,e,hlt,hv⟩
 ·exact .inl h0
 ·rcases h.2 with h0 | ⟨r,hA,hr⟩
  ·subst h0
   refine .inr ⟨b,o,e,Nat.lt_of_lt_of_le hlt hf.size,fun i x hx=>?_⟩
   have:=h.1.length
   have hi:i<ps.length:=by
    refine Nat.lt_of_not_le fun hc=>?_
    rw [List.getElem?_eq_none hc] at hx;cases hx
   omega
  ·have hbr:b=r:=congrArg Addr.block (Option.some.inj (e.symm.trans hA))
   refine .inr ⟨b,o,e,Nat.lt_of_lt_of_le hlt hf.size,fun i x hx=>?_⟩
   obtain ⟨vs,h1,h2⟩:=hv i x hx
   exact ⟨vs,h1.off hf hn hg,fun j v hj=>(hf.cell hlt (by omega) (by omega) _).trans (h2 j v hj)⟩
theorem ChF.plst (h:ChF B w A l c ps):PLst w A l c ps:=by
 refine ⟨h.1.length,?_⟩
 rcases h.1.elems with ⟨h0,_⟩ | ⟨b,o,e,hlt,hv⟩
 ·exact .inl h0
 ·refine .inr ⟨b,o,e,hlt,fun j hj=>?_⟩
  have hjl:j<ps.length:=by rw [h.1.length];exact hj
  obtain ⟨vs,⟨A1,l1,c1,e1,h1,_⟩,hc⟩:=hv j (ps.getD j []) (by rw [List.getD_eq_getElem?_getD,List.getElem?_eq_getElem hjl];rfl)
  subst e1
  have:=hc 0 _ rfl
  rw [Nat.mul_one,Nat.add_zero] at this
  exact ⟨A1,l1,c1,this,h1.at_ ikN⟩
theorem own_lit {t:TypeId} {base:Nat} (w:World) (A:Option Addr) (l c:Nat) (hb:base≤w.heap.size):OwnE SlC 1 t base (w.alloc (.cells #[.slice A l c] t)) (.slice (some ⟨w.heap.size,0,none⟩) 1 1) [.slice A l c]:=by
 refine .inr ⟨w.heap.size,1,1,_,rfl,hb,rfl,Nat.le_refl _,fun j u hu=>?_,Blk.new w t _,rfl,fun j hj=>?_⟩
 ·match j,hu with
  | 0,hu=>simp at hu;subst hu;simp
 ·match j,hj with
  | 0,_=>exact ⟨_,rfl,A,l,c,rfl⟩
end
set_option maxRecDepth 100000 in
set_option maxHeartbeats 4000000 in
theorem primitive_fr {I:IntPred} (hI:IK I) (A:Option Addr) (len cap:Nat) (p:List Int) (w:World) (h:PolyP I w A len cap p) (hs:SmP p) (hm:len≤1000000000) :
 Calls Tryz.prog 92 #[.slice A len cap] w fun e w'=>∃ A' l' c',e=.returned (.slice A' l' c')∧PolyN w' A' l' c' (pprim p)∧New w.heap.size A' l'∧Below w.heap.size w w':=by
 have hsc:=pcont_sm hs
 have Hp:=Lib.hid h
 go_enter Tryz.func92,Tryz.ntmps92
 go_wp2_with fail
 refine (content_any hI _ _ _ _ _ h hs hm).mono ?_
 rintro e w1 ⟨n1,A1,l1,c1,rfl,h1,hb1⟩
 have hba:Below w1.heap.size w1 (w1.alloc (ibox n1 A1 l1 c1)):=(Below.refl _ _).alloc (Nat.le_refl _) _
 have HC:=Lib.hid (IBox.make h1)
 have Hb1:=Lib.hid (hb1.trans (hba.mono hb1.size))
 have h2:=(h.below hI hb1).below hI hba
 have Hsz:=Lib.hid hb1.size
 clear h h1 hb1 hba
 go_wp2_with fail
 refine (lead_any _ _ _ _ _ (h2.at_ hI) hs (by omega)).mono ?_
 rintro e w2 ⟨n2,A2,l2,c2,rfl,hL,hb2⟩
 have h3:=h2.below hI hb2
 have HC2:=Lib.hid (HC.out.move hb2)
 have Hb2:=Lib.hid (Hb1.out.trans (hb2.mono Hb1.out.size))
 clear h2 hb2 HC Hb1
 have hsl:SmI (plead p):=hs.getD _
 go_wp2_with fail
 refine (isign_any _ _ _ _ _ _ hL.at_ hsl).mono ?_
 rintro e w3 ⟨rfl,rfl⟩
 have hba:Below w2.heap.size w2 (w2.alloc (Obj.cells #[Value.bool n2,Value.slice A2 l2 c2] 40)):=(Below.refl _ _).alloc (Nat.le_refl _) _
 have h4:=h3.below hI hba
 have HC3:=Lib.hid (HC2.out.move hba)
 have Hb3:=Lib.hid (Hb2.out.trans (hba.mono Hb2.out.size))
 clear h3 hba HC2 Hb2 hL
 generalize w2.alloc (Obj.cells #[Value.bool n2,Value.slice A2 l2 c2] 40)=W at *
 obtain ⟨gb,hgb⟩:∃ g,g=w1.heap.size:=⟨_,rfl⟩
 rw [← hgb] at HC3 ⊢
 have Hgb:=Lib.hid (show w.heap.size≤gb by have:=Hsz.out;omega)
 have Hl0:=Lib.hid (plead_zero (f:=p))
 have Hcn:=Lib.hid (fun h=>pcont_ne (p:=p) h)
 have hcs:SmI (pcont p:Int):=by show Sm _;rw [Int.natAbs_natCast];exact hsc
 clear hgb
 rcases sg_cases (plead p) with ⟨hp,hsg⟩ | ⟨hp,hsg⟩ | ⟨hp,hsg⟩
 ·rw [hsg]
  have hpl:plen p≠0:=fun h=>by have:=Hl0.out.2 h;omega
  have hne:-(pcont p:Int)≠0:=by have:=Hcn.out hpl;omega
  have hsn:SmI (-(pcont p:Int)):=by show Sm _;rw [Int.natAbs_neg,Int.natAbs_natCast];exact hsc
  have b0:=HC3.out.c0
  have b1:=HC3.out.c1
  have H4:=Lib.hid h4
  have Hpp:=Lib.hid (show pprim p=(ptrim p).map (·.tdiv (-(pcont p:Int))) by unfold pprim;rw [if_neg hpl,hsg,Int.neg_one_mul])
  clear h4 hp hsg hpl hsl
  go_wp2_with fail
  refine (ineg_any _ _ _ _ _ _ HC3.out.hz.at_ hcs).mono ?_
  rintro e w5 ⟨n5,A5,l5,c5,rfl,h5,hb5⟩
  have hC5:=HC3.out.move hb5
  have H5:=Lib.hid (H4.out.below hI hb5)
  have Hb5:=Lib.hid (Hb3.out.trans (hb5.mono Hb3.out.size))
  have HP:=Lib.hid (hC5.put h5)
  have hbp:Below w.heap.size w (put2 w5 gb n5 A5 l5 c5):=(Hb5.out.setCell (p:=⟨gb,0,none⟩) Hgb.out _).setCell (p:=⟨gb,1,none⟩) Hgb.out _
  have c50:=hC5.c0
  have c51:=hC5.c1
  have f50:=hC5.f0
  have f51:=hC5.f1
  have H6:=Lib.hid (Hp.out.below hI hbp)
  have Hbp:=Lib.hid hbp
  clear h5 hb5 hC5 b0 b1 HC3 H4 hbp H5 Hb5
  go_wp2_with fail
  refine (over_any hI _ _ _ _ _ _ _ _ _ _ H6.out HP.out.hz hs hsn hne hm).mono ?_
  rintro e w7 ⟨g7,rfl,h7,hg7,hb7⟩
  have Hn7:=Lib.hid (Nat.le_trans Hbp.out.size hg7)
  clear hg7
  have hq7:=h7.poly (cap:=plen p) (by rw [List.length_map,ptrim_length];exact Nat.le_refl _)
  rw [List.length_map,ptrim_length] at hq7
  have Hq7:=Lib.hid hq7
  have Hb7:=Lib.hid (Hbp.out.trans (hb7.mono Hbp.out.size))
  clear h7 hb7 hq7 HP H6 Hbp c50 c51 f50 f51
  go_wp2
  go_ret
  exact ⟨_,_,_,rfl,by rw [Hpp.out];exact Hq7.out,.inr ⟨g7,rfl,Hn7.out⟩,Hb7.out⟩
 ·rw [hsg]
  have hpl:plen p=0:=Hl0.out.1 hp
  have Hpp:=Lib.hid (show pprim p=[] by unfold pprim;rw [if_pos hpl])
  clear h4 hp hsg hpl hsl
  go_wp2
  go_ret
  exact ⟨_,_,_,rfl,by rw [Hpp.out];exact PolyP.nil _ _ _ _,.inl rfl,Hb3.out⟩
 ·rw [hsg]
  have hpl:plen p≠0:=fun h=>by have:=Hl0.out.2 h;omega
  have hne:(pcont p:Int)≠0:=by have:=Hcn.out hpl;omega
  have b0:=HC3.out.c0
  have b1:=HC3.out.c1
  have H4:=Lib.hid h4
  have Hpp:=Lib.hid (show pprim p=(ptrim p).map (·.tdiv (pcont p:Int)) by unfold pprim;rw [if_neg hpl,hsg,Int.one_mul])
  clear h4 hp hsg hpl hsl
  go_wp2_with fail
  refine (over_any hI _ _ _ _ _ _ _ _ _ _ H4.out HC3.out.hz hs hcs hne hm).mono ?_
  rintro e w7 ⟨g7,rfl,h7,hg7,hb7⟩
  have Hn7:=Lib.hid (Nat.le_trans Hb3.out.size hg7)
  clear hg7
  have hq7:=h7.poly (cap:=plen p) (by rw [List.length_map,ptrim_length];exact Nat.le_refl _)
  rw [List.length_map,ptrim_length] at hq7
  have Hq7:=Lib.hid hq7
  have Hb7:=Lib.hid (Hb3.out.trans (hb7.mono Hb3.out.size))
  clear h7 hb7 hq7 HC3 H4 Hb3
  go_wp2
  go_ret
  exact ⟨_,_,_,rfl,by rw [Hpp.out];exact Hq7.out,.inr ⟨g7,rfl,Hn7.out⟩,Hb7.out⟩
set_option maxHeartbeats 400000 in
theorem polyneg_fr {I:IntPred} (hI:IK I) (A:Option Addr) (len cap:Nat) (p:List Int) (w:World) (h:PolyP I w A len cap p) (hs:SmP p) (hm:len≤1000000000) :
 Calls Tryz.prog 126 #[.slice A len cap] w fun e w'=>∃ A' l' c',e=.returned (.slice A' l' c')∧PolyN w' A' l' c' (pmn (ptrim p))∧New w.heap.size A' l'∧Below w.heap.size w w':=by
 have hpl:plen p≤1000000000:=by have:=plen_le p;have:=h.length;omega
 go_enter Tryz.func126,Tryz.ntmps126
 go_wp2_with fail
 refine (ptrim_any hI _ _ _ _ _ h hs (by omega)).mono ?_
 rintro e w1 ⟨l1,rfl,h1,rfl,hb1⟩
 have Hb1:=Lib.hid hb1
 have hs2:=hs.ptrim
 clear h hs hb1
 go_wp2_with fail
 refine (tneg_any hI _ _ _ _ _ h1 hs2 (by omega)).mono ?_
 rintro e w2 ⟨g,rfl,h2,hg,hb2⟩
 have hp:=h2.poly (cap:=plen p) (by rw [pmn_length,ptrim_length];exact Nat.le_refl _)
 rw [pmn_length,ptrim_length] at hp
 have HG:=Lib.hid (Nat.le_trans Hb1.out.size hg)
 have H2:=Lib.hid hp
 have Hb2:=Lib.hid (Hb1.out.trans (hb2.mono Hb1.out.size))
 clear h1 h2 hb2 hp hg
 go_wp2
 go_ret
 exact ⟨_,_,_,rfl,H2.out,.inr ⟨g,rfl,HG.out⟩,Hb2.out⟩
set_option maxHeartbeats 400000 in
theorem reduced_fr {I:IntPred} (hI:IK I) (A:Option Addr) (len cap:Nat) (f:List Int) (w:World) (h:PolyP I w A len cap f) (hs:SmP f) (hm:len≤1000000000) :
 Calls Tryz.prog 138 #[.slice A len cap] w fun e w'=>∃ A' l' c',e=.returned (.slice A' l' c')∧PolyN w' A' l' c' (pred f)∧New w.heap.size A' l'∧Below w.heap.size w w':=by
 have hfl:=h.length
 go_enter Tryz.func138,Tryz.ntmps138
 go_wp2_with fail
 refine (lead_any _ _ _ _ _ (h.at_ hI) hs (by omega)).mono ?_
 rintro e w1 ⟨n1,A1,l1,c1,rfl,h1,hb1⟩
 have h01:=h.below hI hb1
 have Hb1:=Lib.hid hb1
 have sl:SmI (plead f):=hs.getD _
 clear h hb1
 go_wp2_with fail
 refine (isign_any _ _ _ _ _ _ h1.at_ sl).mono ?_
 rintro e w2 ⟨rfl,hw⟩
 have hb2:Below w1.heap.size w1 w2:=by first | exact hw | (rw [hw];exact Below.refl _ _) | (rw [hw];exact (Below.refl _ _).alloc (Nat.le_refl _) _)
 have h02:=h01.below hI hb2
 have Hb2:=Lib.hid (Hb1.out.trans (hb2.mono Hb1.out.size))
 clear h01 h1 hb2 hw Hb1
 by_cases hn:plead f<0
 ·have hsg:sg (plead f)=-1:=by rcases sg_cases (plead f) with ⟨_,e⟩ | ⟨_,e⟩ | ⟨_,e⟩<;>omega
  have hsl:sg (plead f)<0:=by omega
  have Hn:=Lib.hid hn
  clear hn hsg
  go_wp2_with fail
  refine (primitive_fr hI _ _ _ _ _ h02 hs hm).mono ?_
  rintro e w3 ⟨A3,l3,c3,rfl,h3,hn3,hb3⟩
  have HN:=Lib.hid (hn3.mono Hb2.out.size)
  clear hn3
  have hl3:=h3.length
  have hpl:=pprim_le' f
  have Hb3:=Lib.hid (Hb2.out.trans (hb3.mono Hb2.out.size))
  clear h02 hb3 Hb2
  go_wp2_with fail
  refine (polyneg_fr ikN _ _ _ _ _ h3 (pprim_smp hs) (by omega)).mono ?_
  rintro e w4 ⟨A4,l4,c4,rfl,h4,hn4,hb4⟩
  replace HN:=Lib.hid (hn4.mono Hb3.out.size)
  clear hn4
  have H4:=Lib.hid h4
  have Hb4:=Lib.hid (Hb3.out.trans (hb4.mono Hb3.out.size))
  clear h3 h4 hb4 Hb3
  go_wp2
  go_ret
  exact ⟨_,_,_,rfl,by unfold pred;rw [if_pos (by have:=Hn.out;omega)];exact H4.out,HN.out,Hb4.out⟩
 ·have hsl:¬ sg (plead f)<0:=by rcases sg_cases (plead f) with ⟨_,e⟩ | ⟨_,e⟩ | ⟨_,e⟩<;>omega
  have Hn:=Lib.hid hn
  clear hn
  go_wp2_with fail
  refine (primitive_fr hI _ _ _ _ _ h02 hs hm).mono ?_
  rintro e w3 ⟨A3,l3,c3,rfl,h3,hn3,hb3⟩
  have HN:=Lib.hid (hn3.mono Hb2.out.size)
  clear hn3
  have H3:=Lib.hid h3
  have Hb3:=Lib.hid (Hb2.out.trans (hb3.mono Hb2.out.size))
  clear h02 h3 hb3 Hb2
  go_wp2
  go_ret
  exact ⟨_,_,_,rfl,by unfold pred;rw [if_neg (by have:=Hn.out;omega)];exact H3.out,HN.out,Hb3.out⟩
set_option maxRecDepth 100000 in
set_option maxHeartbeats 1000000 in
theorem negrem_fr (A:Option Addr) (la ca:Nat) (a:List Int) (B:Option Addr) (lb cb:Nat) (b:List Int) (w:World) (ha:PolyN w A la ca a) (hb:PolyN w B lb cb b) (hf:ChFits a b) :
 Calls Tryz.prog 139 #[.slice A la ca,.slice B lb cb] w fun e w'=>∃ A' l' c',e=.returned (.slice A' l' c')∧PolyN w' A' l' c' (nrem a b)∧New w.heap.size A' l'∧Below w.heap.size w w':=by
 have hla:la≤1000000:=by have:=hf.la;have:=ha.length;omega
 have hlb:lb≤1000000:=by have:=hf.lb;have:=hb.length;omega
 have hal:=ha.length
 have hbl:=hb.length
 have sr:=hf.r
 have srl:=hf.rl
 have sb:SmP b:=hf.fb.smp
 have HF:=Lib.hid hf
 obtain ⟨m,hm⟩:∃ m:Nat,m=la+1-lb:=⟨_,rfl⟩
 go_enter Tryz.func139,Tryz.ntmps139
 go_wp2_with fail
 refine (pseudo_any ikN ikN _ _ _ _ _ _ _ _ 1000000000 _ ha hb hf.da hf.fb hf.b1 (by omega) (by omega) (by omega)).mono ?_
 rintro e w1 ⟨A1,l1,c1,A2,l2,c2,rfl,h1,h2,hb1⟩
 have hB1:=Lib.hid (hb.below ikN hb1)
 have H2:=Lib.hid h2
 have hl2:=h2.length
 have Hb1:=Lib.hid hb1
 have Hal:=Lib.hid hal
 have Hbl:=Lib.hid hbl
 have hmx:max ((la:Int)-(lb:Int)+1) 0=(m:Int):=by omega
 have Hm:=Lib.hid hm
 clear ha hb h1 h2 hb1 hf hal hbl hm
 by_cases hm2:m % 2=1
 ·have ht:Int.tmod (m:Int) 2=1:=by rw [show (2:Int)=((2:Nat):Int) from rfl,← Int.ofNat_tmod,hm2];rfl
  have hb2:((m:Int).tmod 2 == 1)=true:=by rw [ht];rfl
  have Hm2:=Lib.hid hm2
  have hlb2:b.length=lb:=Hbl.out
  clear hm2
  go_wp2_with fail
  refine (lead_any _ _ _ _ _ (hB1.out.at_ ikN) sb (by omega)).mono ?_
  rintro e w3 ⟨n3,A3,l3,c3,rfl,h3,hb3⟩
  have H23:=Lib.hid (H2.out.below ikN hb3)
  have Hb3:=Lib.hid (Hb1.out.trans (hb3.mono Hb1.out.size))
  have sl:SmI (plead b):=sb.getD _
  clear hb3
  go_wp2_with fail
  refine (isign_any _ _ _ _ _ _ h3.at_ sl).mono ?_
  rintro e w4 ⟨rfl,rfl⟩
  have hb4:Below w3.heap.size w3 (w3.alloc (ibox n3 A3 l3 c3)):=(Below.refl _ _).alloc (Nat.le_refl _) _
  have H24:=Lib.hid (H23.out.below ikN hb4)
  have Hb4:=Lib.hid (Hb3.out.trans (hb4.mono Hb3.out.size))
  clear hb4 h3
  by_cases hn:plead b<0
  ·have hsl:sg (plead b)<0:=by rcases sg_cases (plead b) with ⟨_,e⟩ | ⟨_,e⟩ | ⟨_,e⟩<;>omega
   have Hn:=Lib.hid hn
   clear hn
   go_wp2_with fail
   refine (reduced_fr ikN _ _ _ _ _ H24.out sr (by omega)).mono ?_
   rintro e w5 ⟨A5,l5,c5,rfl,h5,hn5,hb5⟩
   have HN:=Lib.hid (hn5.mono Hb4.out.size)
   clear hn5
   have H5:=Lib.hid h5
   have Hb5:=Lib.hid (Hb4.out.trans (hb5.mono Hb4.out.size))
   clear h5 hb5
   go_wp2
   go_ret
   exact ⟨_,_,_,rfl,by unfold nrem;rw [if_pos ⟨by rw [Hal.out,Hbl.out,← Hm.out];exact Hm2.out,by have:=Hn.out;omega⟩];exact H5.out,HN.out,Hb5.out⟩
  ·have hsl:¬ sg (plead b)<0:=by rcases sg_cases (plead b) with ⟨_,e⟩ | ⟨_,e⟩ | ⟨_,e⟩<;>omega
   have Hn:=Lib.hid hn
   clear hn
   go_wp2_with fail
   refine (reduced_fr ikN _ _ _ _ _ H24.out sr (by omega)).mono ?_
   rintro e w5 ⟨A5,l5,c5,rfl,h5,hn5,hb5⟩
   have HN:=Lib.hid (hn5.mono Hb4.out.size)
   clear hn5
   have hl5:=h5.length
   have hpl:=pred_le (psr a b)
   have Hb5:=Lib.hid (Hb4.out.trans (hb5.mono Hb4.out.size))
   clear hb5
   go_wp2_with fail
   refine (polyneg_fr ikN _ _ _ _ _ h5 (pred_smp sr) (by omega)).mono ?_
   rintro e w6 ⟨A6,l6,c6,rfl,h6,hn6,hb6⟩
   replace HN:=Lib.hid (hn6.mono Hb5.out.size)
   clear hn6
   have H6:=Lib.hid h6
   have Hb6:=Lib.hid (Hb5.out.trans (hb6.mono Hb5.out.size))
   clear h5 h6 hb6
   go_wp2
   go_ret
   exact ⟨_,_,_,rfl,by unfold nrem;rw [if_neg (fun hh=>by have h1:=Hn.out;have h2:=hh.2;omega)];exact H6.out,HN.out,Hb6.out⟩
 ·have ht:Int.tmod (m:Int) 2=0:=by rw [show (2:Int)=((2:Nat):Int) from rfl,← Int.ofNat_tmod,show m % 2=0 by omega];rfl
  have hb2:((m:Int).tmod 2 == 1)=false:=by rw [ht];rfl
  have Hm2:=Lib.hid hm2
  clear hm2
  go_wp2_with fail
  refine (reduced_fr ikN _ _ _ _ _ H2.out sr (by omega)).mono ?_
  rintro e w5 ⟨A5,l5,c5,rfl,h5,hn5,hb5⟩
  have HN:=Lib.hid (hn5.mono Hb1.out.size)
  clear hn5
  have hl5:=h5.length
  have hpl:=pred_le (psr a b)
  have Hb5:=Lib.hid (Hb1.out.trans (hb5.mono Hb1.out.size))
  clear hb5
  go_wp2_with fail
  refine (polyneg_fr ikN _ _ _ _ _ h5 (pred_smp sr) (by omega)).mono ?_
  rintro e w6 ⟨A6,l6,c6,rfl,h6,hn6,hb6⟩
  replace HN:=Lib.hid (hn6.mono Hb5.out.size)
  clear hn6
  have H6:=Lib.hid h6
  have Hb6:=Lib.hid (Hb5.out.trans (hb6.mono Hb5.out.size))
  clear h5 h6 hb6
  go_wp2
  go_ret
  exact ⟨_,_,_,rfl,by unfold nrem;rw [if_neg (fun hh=>Hm2.out (by rw [Hm.out,← Hal.out,← Hbl.out];exact hh.1))];exact H6.out,HN.out,Hb6.out⟩
set_option maxRecDepth 100000 in
set_option maxHeartbeats 4000000 in
theorem chain_fr (A:Option Addr) (la ca:Nat) (f:List Int) (B:Option Addr) (lb cb:Nat) (g:List Int) (w:World) (hf:PolyN w A la ca f) (hg:PolyN w B lb cb g) (sf:SmP f) (sg:SmP g) (hla:la≤1000000) (hlb:lb≤1000000) (k:Nat) (hok:chOK k (pred f) (pred g)) (hlen:(chn k (pred f) (pred g)).length≤1000000) :
 Calls Tryz.prog 99 #[.slice A la ca,.slice B lb cb] w fun e w'=>(∃ A' l' c',e=.returned (.slice A' l' c')∧ChF w.heap.size w' A' l' c' (pchain k f g))∧Below w.heap.size w w':=by
 obtain ⟨i0,hi,hz0,hz1,hz2⟩:=info_parts info_poly
 have hfl:=hf.length
 have hpf:=plen_le f
 obtain ⟨LL,hLL⟩:∃ LL,LL=pchain k f g:=⟨_,rfl⟩
 rw [← hLL]
 have HLL:=Lib.hid hLL
 clear hLL
 go_enter Tryz.func99,Tryz.ntmps99
 go_wp2_with fail
 refine (degree_any _ _ _ _ _ (hf.at_ ikN) sf (by omega)).mono ?_
 rintro e w1 ⟨rfl,hb1⟩
 have hf1:=hf.below ikN hb1
 have hg1:=hg.below ikN hb1
 have Hb1:=Lib.hid hb1
 clear hf hg hb1
 by_cases h0:plen f=0
 ·have hd:((plen f:Nat):Int)-1<0:=by omega
  have H0:=Lib.hid h0
  clear hf1 hg1 h0
  go_wp2
  go_ret
  exact ⟨⟨_,_,_,rfl,by rw [HLL.out];unfold pchain;rw [if_pos H0.out];exact ChF.nil _ _⟩,Hb1.out⟩
 ·have hd:¬ ((plen f:Nat):Int)-1<0:=by omega
  have H0:=Lib.hid h0
  clear h0
  go_wp2_with fail
  refine (reduced_fr ikN _ _ _ _ _ hf1 sf (by omega)).mono ?_
  rintro e w2 ⟨A2,l2,c2,rfl,h2,hn2,hb2⟩
  have HN2:=Lib.hid (hn2.mono Hb1.out.size)
  have hg2:=hg1.below ikN hb2
  have hba:Below w2.heap.size w2 (w2.alloc (.cells #[.slice A2 l2 c2] 26)):=(Below.refl _ _).alloc (Nat.le_refl _) _
  have Hg3:=Lib.hid (hg2.below ikN hba)
  have HO:=Lib.hid (own_lit (t:=26) (base:=w.heap.size) w2 A2 l2 c2 (Nat.le_trans Hb1.out.size hb2.size))
  have H3:=Lib.hid (h2.below ikN hba)
  have hg0:w.heap.size≤w2.heap.size:=Nat.le_trans Hb1.out.size hb2.size
  have Hb3:=Lib.hid ((Hb1.out.trans (hb2.mono Hb1.out.size)).trans (hba.mono (Hb1.out.trans (hb2.mono Hb1.out.size)).size))
  clear hf1 hg1 h2 hb2 hg2 hba Hb1
  go_wp2_with fail
  go_region_held3 (fun w'=>w'.cell? ⟨w2.heap.size,0,none⟩=some (.slice A2 l2 c2)) (go_keep) (first
   | (go_at_call 138;go_must (refine (reduced_fr ikN _ _ _ _ _ ?_ sg (by omega)).mono ?_;(exact Hg3.out.below ikN Bel.go);rintro e w4 ⟨A4,l4,c4,rfl,h4,hn4,hb4⟩;have H4:=Lib.hid h4;have HN4:=Lib.hid (hn4.mono (Nat.le_trans Hb3.out.size (by simp)));have Hb4:=Lib.hid (Hb3.out.trans ((Below.trans Bel.go (hb4.mono (by simp<;>omega))).mono Hb3.out.size));have H34:=Lib.hid (H3.out.below ikN (Below.trans Bel.go (hb4.mono (by simp<;>omega))));have HO4:=Lib.hid (HO.out.below (Below.trans Bel.go (hb4.mono (by simp<;>omega))));obtain ⟨hcx,hfx⟩:=bcellS hb4;have v0:w4.cell? ⟨w2.heap.size,0,none⟩=some (.slice A2 l2 c2):=(hcx _ (by go_simp)).trans (by go_simp);clear h4 hn4 hcx hfx hb4)))
  have HL:=Lib.hid (show LL=[pred f] ++ chn k (pred f) (pred g) by rw [HLL.out];unfold pchain;rw [if_neg H0.out];rfl)
  have hl2:l2≤1000000:=by have h1:=H34.out.length;have h2:=pred_le f;omega
  have HY:=Lib.hid (show Lay (PolRF w.heap.size w4) [pred f] [.slice A2 l2 c2] from ⟨_,[],⟨_,_,_,rfl,H34.out,HN2.out⟩,by simp,rfl⟩)
  clear Hg3 HO H3 Hb3 v0 hd
  have hLn:LL.length≤1000001:=by have:=HL.out;rw [this];simp;omega
  have Hok:=Lib.hid hok
  clear hok hlen HLL
  go_wp2
  go_loopw [5,6,7] (fun s5 s6 s7 wr=>∃ (us:List Value) (ps:List (List Int)) (j:Nat) (a b:List Int) (A1:Option Addr) (l1 c1:Nat) (A2:Option Addr) (l2 c2:Nat),s6=.slice A1 l1 c1∧s7=.slice A2 l2 c2∧OwnE SlC 1 26 w.heap.size wr s5 us∧Lay (PolRF w.heap.size wr) ps us∧PolyN wr A1 l1 c1 a∧PolyN wr A2 l2 c2 b∧New w.heap.size A2 l2∧chOK j a b∧LL=ps ++ chn j a b∧Below w.heap.size w wr) (fun s5 _ _ _=>LL.length-lenOf s5)
  case atStart=>exact ⟨_,_,k,_,_,_,_,_,_,_,_,rfl,rfl,HO4.out,HY.out,H34.out,H4.out,HN4.out,Hok.out,HL.out,Hb4.out⟩
  case round =>
   clear HO4 H34 H4 Hok HL Hb4 hg0 hl2 HY HN2 HN4
   obtain ⟨us,ps,j,a,b,A1,l1,c1,A2,l2,c2,rfl,rfl,ho,hly,ha,hb,hnw,hok,hL,hbw⟩:=hrel
   obtain ⟨Av,nv,cv,ev,hul,hcap⟩:=ho.len
   subst ev
   have hlen1:=hly.len fun x vs hx=>hx.len
   have HO:=Lib.hid (And.intro ho hly)
   have Ha:=Lib.hid ha
   have Hb:=Lib.hid hb
   have HN:=Lib.hid hnw
   have HL:=Lib.hid hL
   have Hbw:=Lib.hid hbw
   have hbl:=hb.length
   match j,hok with
   | j+1,hok =>
     by_cases hb0:b=[]
     ·subst hb0
      have hl2:l2=0:=hbl.symm
      subst hl2
      have hps:LL=ps:=by have:=HL.out;simp [chn] at this;exact this
      have Hps:=Lib.hid hps
      clear ho hly ha hb hnw hL hbw hok hbl hps hul hcap hlen1
      go_wp2
      go_ret
      exact ⟨⟨_,_,_,rfl,by rw [Hps.out];exact ChF.own HO.out.1 HO.out.2⟩,Hbw.out⟩
     ·obtain ⟨hfit,hok2⟩:=hok.resolve_left hb0
      have hLs:LL=(ps ++ [b]) ++ chn j b (nrem a b):=by
       have h1:=HL.out
       simp only [chn] at h1
       rw [if_neg hb0] at h1
       rw [h1];simp
      have hnlt:nv<LL.length:=by rw [hLs];simp;omega
      have hl2:0<l2:=by rw [← hbl];exact List.length_pos_iff.2 hb0
      have hl2i:(0:Int)<(l2:Int):=by omega
      have hba:Below wr.heap.size wr (wr.alloc (.cells #[.slice A2 l2 c2] 26)):=(Below.refl _ _).alloc (Nat.le_refl _) _
      have HO1:=Lib.hid (And.intro (HO.out.1.below hba) (show Lay (PolRF w.heap.size (wr.alloc (.cells #[.slice A2 l2 c2] 26))) ps us from HO.out.2.mono fun _ _ hx=>hx.below hba))
      have HX1:=Lib.hid (show PolRF w.heap.size (wr.alloc (.cells #[.slice A2 l2 c2] 26)) b [.slice A2 l2 c2] from ⟨_,_,_,rfl,Hb.out.below ikN hba,HN.out⟩)
      have HA1:=Lib.hid (show PolR (wr.alloc (.cells #[.slice A2 l2 c2] 26)) a [.slice A1 l1 c1] from ⟨_,_,_,rfl,Ha.out.below ikN hba⟩)
      have Hbw1:=Lib.hid (Hbw.out.trans (hba.mono Hbw.out.size))
      have Hsz:=Lib.hid (show w.heap.size≤(wr.alloc (.cells #[.slice A2 l2 c2] 26)).heap.size from Hbw1.out.size)
      have Hfit:=Lib.hid hfit
      have Hok2:=Lib.hid hok2
      have HLs:=Lib.hid hLs
      have HUL:=Lib.hid hul
      have hub:us.length+[Value.slice A2 l2 c2].length≤100000000:=by simp;omega
      have HUB:=Lib.hid hub
      clear ho hly ha hb hnw hL hbw hok hfit hok2 hLs hba hbl HO Ha Hb HN Hbw HL hul hcap hlen1 hub
      go_wp2_with (at_builtin;refine wpList_app_own rfl (.tmp 22) (.tmp 24) 98 26 rfl 1 i0 (.slice none 0 0) Tryz.underlying98 hi hz0 hz1 (by rw [hz2];omega) rfl SlC slC_nd slz (by decide) w.heap.size _ us [.slice A2 l2 c2] rfl HO1.out.1 Hsz.out ⟨wr.heap.size,0,none⟩ 1 1 rfl rfl (one_cell _) HX1.out.sl (.inl (by decide)) HUB.out 25 rfl ?_)
      intro v2 w5 hgr
      have hn5:PolRF w.heap.size w5 b [.slice A2 l2 c2]:=polrf_mv hgr _ _ HX1.out
      have hly5:Lay (PolRF w.heap.size w5) (ps ++ [b]) (us ++ [.slice A2 l2 c2]):=Lay.app (HO1.out.2.mono fun p ys hp=>polrf_mv hgr p ys hp) hn5
      obtain ⟨_,_,_,e5,hb5,hnn⟩:=hn5
      cases e5
      obtain ⟨_,_,_,e6,ha5⟩:=polr_mv hgr _ _ HA1.out
      cases e6
      obtain ⟨Ax,nx,cx,ex,hux,hcx2⟩:=hgr.1.len
      subst ex
      have hnx:nx=nv+1:=by
       have:=HUL.out
       rw [List.length_append,List.length_singleton] at hux
       omega
      have Ho5:=Lib.hid (And.intro hgr.1 hly5)
      have Hbw5:=Lib.hid (Hbw1.out.trans (hgr.below Hsz.out))
      have Hb5:=Lib.hid hb5
      have HN5:=Lib.hid hnn
      have HNX:=Lib.hid hnx
      clear hgr HO1 HX1 HA1 Hbw1 hly5 hux hcx2 hnn hnx Hsz
      go_wp2_with fail
      refine (negrem_fr _ _ _ _ _ _ _ _ _ ha5 hb5 Hfit.out).mono ?_
      rintro e w6 ⟨A6,l6,c6,rfl,h6,hn6,hb6⟩
      have H6:=Lib.hid h6
      have HN6:=Lib.hid (hn6.mono Hbw5.out.size)
      have Hb6:=Lib.hid (Hb5.out.below ikN hb6)
      have Ho6:=Lib.hid (And.intro (Ho5.out.1.below hb6) (show Lay (PolRF w.heap.size w6) (ps ++ [b]) (us ++ [.slice A2 l2 c2]) from Ho5.out.2.mono fun _ _ hx=>hx.below hb6))
      have Hbw6:=Lib.hid (Hbw5.out.trans (hb6.mono Hbw5.out.size))
      clear ha5 hb5 h6 hn6 hb6 Hb5 Ho5 Hbw5 HN5
      go_wp2
      go_roundw
      case rel=>exact ⟨_,_,j,_,_,_,_,_,_,_,_,rfl,rfl,Ho6.out.1,Ho6.out.2,Hb6.out,H6.out,HN6.out,Hok2.out,HLs.out,Hbw6.out⟩
      case measure=>have:=HNX.out;simp [lenOf];omega
set_option maxHeartbeats 400000 in
theorem sturmof_fr (A:Option Addr) (la ca:Nat) (f:List Int) (w:World) (hf:PolyN w A la ca f) (sf:SmP f) (sd:SmP (pder f)) (hla:la≤1000000) (k:Nat) (hok:chOK k (pred f) (pred (pder f))) (hlen:(chn k (pred f) (pred (pder f))).length≤1000000) :
 Calls Tryz.prog 56 #[.slice A la ca] w fun e w'=>(∃ A' l' c',e=.returned (.slice A' l' c')∧ChF w.heap.size w' A' l' c' (pchain k f (pder f)))∧Below w.heap.size w w':=by
 have hfl:=hf.length
 have hpf:=plen_le f
 go_enter Tryz.func56,Tryz.ntmps56
 go_wp2_with fail
 refine (derivative_any ikN _ _ _ _ _ hf sf (by omega)).mono ?_
 rintro e w1 ⟨A1,l1,c1,rfl,h1,hb1⟩
 have hf1:=hf.below ikN hb1
 have hl1:=h1.length
 rw [pder_length] at hl1
 have Hb1:=Lib.hid hb1
 clear hf hb1
 go_wp2_with fail
 refine (chain_fr _ _ _ _ _ _ _ _ _ hf1 h1 sf sd hla (by omega) k hok hlen).mono ?_
 rintro e w2 ⟨⟨A2,l2,c2,rfl,h2⟩,hb2⟩
 have H2:=Lib.hid (h2.mono Hb1.out.size)
 have Hb2:=Lib.hid (Hb1.out.trans (hb2.mono Hb1.out.size))
 clear hf1 h1 h2 hb2
 go_wp2
 go_ret
 exact ⟨⟨_,_,_,rfl,H2.out⟩,Hb2.out⟩
end Go.Proofs.YtbfddopopajgaaaGreat
namespace Go.Proofs.YtbfddopopajgaaaGreat
open Go Go.RowKit
structure RBk (w:World) (g:Nat) (n:Bool) (A:Option Addr) (l c:Nat) (B:Option Addr) (m d:Nat) (n':Bool) (A':Option Addr) (l' c':Nat) (B':Option Addr) (m' d':Nat) (s:Fq×Fq):Prop where
 k:Blk w g 44 #[.bool n,.slice A l c,.slice B m d,.bool n',.slice A' l' c',.slice B' m' d']
 hz:IntN w n A l c s.1.z
 hq:NatN w B m d s.1.q
 hz':IntN w n' A' l' c' s.2.z
 hq':NatN w B' m' d' s.2.q
section
variable {w w':World} {g:Nat} {n:Bool} {A:Option Addr} {l c:Nat} {B:Option Addr} {m d:Nat} {n':Bool} {A':Option Addr} {l' c':Nat} {B':Option Addr} {m' d':Nat} {s t:Fq×Fq}
theorem RBk.tb (h:RBk w g n A l c B m d n' A' l' c' B' m' d' s):TBox w g n A l c B m d s.1.z s.1.q n' A' l' c' B' m' d' s.2.z s.2.q :=
 ⟨⟨h.k.cell 0,h.k.cell 1,h.k.cell 2,h.k.frozen 0,h.k.frozen 1,h.k.frozen 2,h.k.lt,h.hz,h.hq⟩,h.k.cell 3,h.k.cell 4,h.k.cell 5,h.hz',h.hq'⟩
theorem RBk.make (hz:IntN w n A l c s.1.z) (hq:NatN w B m d s.1.q) (hz':IntN w n' A' l' c' s.2.z) (hq':NatN w B' m' d' s.2.q):RBk (w.alloc (tbox n A l c B m d n' A' l' c' B' m' d')) w.heap.size n A l c B m d n' A' l' c' B' m' d' s:=by
 have ho:=below_new w (tbox n A l c B m d n' A' l' c' B' m' d')
 exact ⟨Blk.new _ _ _,hz.below ho,hq.below ho,hz'.below ho,hq'.below ho⟩
theorem RBk.move (h:RBk w g n A l c B m d n' A' l' c' B' m' d' s) (hb:Below w.heap.size w w'):RBk w' g n A l c B m d n' A' l' c' B' m' d' s :=
 ⟨h.k.below hb h.k.lt,h.hz.below hb,h.hq.below hb,h.hz'.below hb,h.hq'.below hb⟩
theorem RBk.ndb (h:RBk w g n A l c B m d n' A' l' c' B' m' d' s):NdB w g:=blk_ndb h.k fun j v hv=>by
 match j,hv with
 | 0,hv=>simp at hv;subst hv;exact noDigit_bool _
 | 1,hv=>simp at hv;subst hv;exact noDigit_slice _ _ _
 | 2,hv=>simp at hv;subst hv;exact noDigit_slice _ _ _
 | 3,hv=>simp at hv;subst hv;exact noDigit_bool _
 | 4,hv=>simp at hv;subst hv;exact noDigit_slice _ _ _
 | 5,hv=>simp at hv;subst hv;exact noDigit_slice _ _ _
 | j+6,hv=>simp at hv
variable {n₂:Bool} {A₂:Option Addr} {l₂ c₂:Nat} {B₂:Option Addr} {m₂ d₂:Nat} {n₃:Bool} {A₃:Option Addr} {l₃ c₃:Nat} {B₃:Option Addr} {m₃ d₃:Nat}
theorem RBk.put (h:RBk w g n A l c B m d n' A' l' c' B' m' d' s) (h1:IntN w n₂ A₂ l₂ c₂ t.1.z) (h2:NatN w B₂ m₂ d₂ t.1.q) (h3:IntN w n₃ A₃ l₃ c₃ t.2.z) (h4:NatN w B₃ m₃ d₃ t.2.q) :
 RBk (pu6 w g (.bool n₂) (.slice A₂ l₂ c₂) (.slice B₂ m₂ d₂) (.bool n₃) (.slice A₃ l₃ c₃) (.slice B₃ m₃ d₃)) g n₂ A₂ l₂ c₂ B₂ m₂ d₂ n₃ A₃ l₃ c₃ B₃ m₃ d₃ t:=by
 have hf:=pu6_frs w g (.bool n₂) (.slice A₂ l₂ c₂) (.slice B₂ m₂ d₂) (.bool n₃) (.slice A₃ l₃ c₃) (.slice B₃ m₃ d₃)
 have nd:=h.ndb
 exact ⟨(((((h.k.set_ 0 _).set_ 1 _).set_ 2 _).set_ 3 _).set_ 4 _).set_ 5 _,h1.frs hf nd nd,h2.frs hf nd nd,h3.frs hf nd nd,h4.frs hf nd nd⟩
end
end Go.Proofs.YtbfddopopajgaaaGreat
namespace Go.Proofs.YtbfddopopajgaaaGreat
open Go Go.RowKit
set_option maxRecDepth 100000 in
set_option maxHeartbeats 4000000 in
theorem half_any {I:IntPred} (hI:IK I) {w:World} {Ap:Option Addr} {lp cp:Nat} {Q:List Int} {r:Fq×Fq} {n:Bool} {A:Option Addr} {l c:Nat} {B:Option Addr} {m d:Nat} {n':Bool} {A':Option Addr} {l' c':Nat} {B':Option Addr} {m' d':Nat}
 (hp:PolyP I w Ap lp cp Q) (hlp:lp≤1000000) (hQ:∀ x,FqB x→PoOK x.z x.q Q) (hz:IntN w n A l c r.1.z) (hq:NatN w B m d r.1.q) (hz':IntN w n' A' l' c' r.2.z) (hq':NatN w B' m' d' r.2.q) (ha:FqB r.1) (hb:FqB r.2) (hm:FqB (r.1.mid r.2)) :
 Calls Tryz.prog 71 #[.slice Ap lp cp,.agg #[.bool n,.slice A l c,.slice B m d,.bool n',.slice A' l' c',.slice B' m' d']] w fun e w'=>RootE (hlf Q r) e w'∧Below w.heap.size w w':=by
 have o1:=below_new w (tbox n A l c B m d n' A' l' c' B' m' d')
 have o2:=below_new (w.alloc (tbox n A l c B m d n' A' l' c' B' m' d')) rtObj
 have b2:Below w.heap.size w ((w.alloc (tbox n A l c B m d n' A' l' c' B' m' d')).alloc rtObj):=o1.alloc (by simp) _
 have T:=Lib.hid ((TBox.make hz hq hz' hq').move o2)
 have K3:Blk ((w.alloc (tbox n A l c B m d n' A' l' c' B' m' d')).alloc rtObj) (w.alloc (tbox n A l c B m d n' A' l' c' B' m' d')).heap.size 44 rz6:=Blk.new _ _ _
 simp only [World.size_alloc] at K3
 have HP:=Lib.hid (hp.below hI b2)
 have x0:=T.out.r.c0;have x1:=T.out.r.c1;have x2:=T.out.r.c2;have x3:=T.out.c3;have x4:=T.out.c4;have x5:=T.out.c5
 have K4:=Lib.hid K3
 have Hb:=Lib.hid b2
 have hl3:=K3.lt
 have pa:=hQ _ ha
 have pm:=hQ _ hm
 have HQ:=Lib.hid hQ
 obtain ⟨R,hR⟩:∃ R,R=hlf Q r:=⟨_,rfl⟩
 rw [← hR]
 unfold hlf at hR
 have HR:=Lib.hid hR
 obtain ⟨S,hS⟩:∃ S,S=(r.1.mid r.2).sgn Q:=⟨_,rfl⟩
 obtain ⟨S2,hS2⟩:∃ S,S=r.1.sgn Q:=⟨_,rfl⟩
 have HS:=Lib.hid hS
 have HS2:=Lib.hid hS2
 obtain ⟨wb,hwb⟩:∃ wb,wb=(w.alloc (tbox n A l c B m d n' A' l' c' B' m' d')).alloc rtObj:=⟨_,rfl⟩
 clear o1 o2 b2 hz hq hz' hq' K3 hp hQ hR hS hS2
 go_enter Tryz.func71,Tryz.ntmps71
 go_wp2_with fail
 rw [← hwb] at T K4 HP Hb x0 x1 x2 x3 x4 x5 hl3 ⊢
 clear hwb
 obtain ⟨g1,hg1⟩:∃ g,g=w.heap.size:=⟨_,rfl⟩
 obtain ⟨g3,hg3⟩:∃ g,g=w.heap.size+1:=⟨_,rfl⟩
 rw [← hg1] at T x0 x1 x2 x3 x4 x5
 rw [← hg3] at K4 hl3
 rw [← hg3,← hg1]
 have l1:g1<wb.heap.size:=by omega
 have Hg:=Lib.hid (show w.heap.size≤g3 by omega)
 have ng1:g1≠g3:=by omega
 have ng2:g3≠g1:=by omega
 clear hg1 hg3
 refine (isexact_any T.out.r.hz T.out.r.hq T.out.hz T.out.hq ha hb).mono ?_
 rintro e w1 ⟨rfl,hb1⟩
 replace HP:=Lib.hid (HP.out.below hI hb1);replace T:=Lib.hid (T.out.move hb1);replace K4:=Lib.hid (K4.out.below hb1 K4.out.lt);replace Hb:=Lib.hid (Hb.out.trans ((hb1).mono Hb.out.size))
 clear hb1
 clear x0 x1 x2 x3 x4 x5
 by_cases c0:fcmp r.1 r.2=0
 ·have b1:(fcmp r.1 r.2 == 0)=true:=by rw [c0];rfl
  have ER:=Lib.hid (show R=r by rw [HR.out,if_pos c0])
  clear c0
  have x0:=T.out.r.c0;have x1:=T.out.r.c1;have x2:=T.out.r.c2;have x3:=T.out.c3;have x4:=T.out.c4;have x5:=T.out.c5
  have FX:=Lib.hid (root_fin (r:=r) Hb.out K4.out Hg.out T.out.r.hz T.out.r.hq T.out.hz T.out.hq);rw [← ER.out] at FX;have r0:=(K4.out.cell 0).trans rfl;have r1:=(K4.out.cell 1).trans rfl;have r2:=(K4.out.cell 2).trans rfl;have r3:=(K4.out.cell 3).trans rfl;have r4:=(K4.out.cell 4).trans rfl;have r5:=(K4.out.cell 5).trans rfl;have s0:=K4.out.frozen 0;have s1:=K4.out.frozen 1;have s2:=K4.out.frozen 2;have s3:=K4.out.frozen 3;have s4:=K4.out.frozen 4;have s5:=K4.out.frozen 5;clear K4 Hb;go_wp2_with fail;refine bodyPost_ret (v:=.agg #[.bool n,.slice A l c,.slice B m d,.bool n',.slice A' l' c',.slice B' m' d']) (by simp [results,Tryz.results71,go_sem,r0,r1,r2,r3,r4,r5]) rfl FX.out
 have b1:(fcmp r.1 r.2 == 0)=false:=by rw [beq_eq_false_iff_ne];exact c0
 have hR:=HR.out
 rw [if_neg c0] at hR
 replace HR:=Lib.hid hR
 clear c0 hR
 have x0:=T.out.r.c0;have x1:=T.out.r.c1;have x2:=T.out.r.c2;have x3:=T.out.c3;have x4:=T.out.c4;have x5:=T.out.c5
 go_wp2_with fail
 refine (mid_any _ _ _ _ _ _ _ _ _ _ _ _ _ _ _ _ _ _ _ T.out.r.hz T.out.r.hq T.out.hz T.out.hq ha.fz ha.fq ha.p hb.fz hb.fq hb.p).mono ?_
 rintro e w2 ⟨⟨n5,A5,l5,c5,B5,m5,d5,rfl,h5,k5⟩,hb2⟩
 obtain ⟨M,hM⟩:∃ M,M=r.1.mid r.2:=⟨_,rfl⟩
 have h5':IntN w2 n5 A5 l5 c5 M.z:=by rw [hM];exact h5
 have k5':NatN w2 B5 m5 d5 M.q:=by rw [hM];exact k5
 rw [← hM] at hm pm
 have HM:=Lib.hid hM
 have o5:=below_new w2 (rbox n5 A5 l5 c5 B5 m5 d5)
 have b5:Below w1.heap.size w1 (w2.alloc (rbox n5 A5 l5 c5 B5 m5 d5)):=hb2.trans (o5.mono hb2.size)
 have R5:=Lib.hid (RBox.make h5' k5')
 replace HP:=Lib.hid (HP.out.below hI b5);replace T:=Lib.hid (T.out.move b5);replace K4:=Lib.hid (K4.out.below b5 K4.out.lt);replace Hb:=Lib.hid (Hb.out.trans ((b5).mono Hb.out.size))
 have a0:=R5.out.c0
 have a1:=R5.out.c1
 have a2:=R5.out.c2
 clear hb2 h5 k5 h5' k5' hM o5 b5 x0 x1 x2 x3 x4 x5
 go_wp2_with fail
 refine (signat_any hI _ _ _ Q _ _ _ _ _ _ _ _ _ _ HP.out pm.fit (by omega) R5.out.hz R5.out.hq hm.at.u hm.at.v hm.at.pos pm.ok hm.at.fz hm.at.fq).mono ?_
 rintro e w4 ⟨he,hb4⟩
 have he2:e=.returned (.int .i64 S):=by rw [HS.out,← HM.out];exact he
 subst he2
 clear he a0 a1 a2
 replace HP:=Lib.hid (HP.out.below hI hb4);replace T:=Lib.hid (T.out.move hb4);replace K4:=Lib.hid (K4.out.below hb4 K4.out.lt);replace Hb:=Lib.hid (Hb.out.trans ((hb4).mono Hb.out.size))
 replace R5:=Lib.hid (R5.out.move hb4)
 clear hb4
 by_cases c2:S=0
 ·have b2:(S == 0)=true:=by rw [c2];rfl
  have ER:=Lib.hid (show R=(M.nf,M.nf) by rw [HR.out,← HS.out,if_pos c2,HM.out])
  clear c2
  have a0:=R5.out.c0
  have a1:=R5.out.c1
  have a2:=R5.out.c2
  go_wp2_with fail
  refine (exact_rt R5.out.hz R5.out.hq hm).mono ?_
  rintro e w6 ⟨⟨n6,A6,l6,c6,B6,m6,d6,n7,A7,l7,c7,B7,m7,d7,rfl,h6,k6,h7,k7⟩,hb6⟩
  replace HP:=Lib.hid (HP.out.below hI hb6);replace T:=Lib.hid (T.out.move hb6);replace K4:=Lib.hid (K4.out.below hb6 K4.out.lt);replace Hb:=Lib.hid (Hb.out.trans ((hb6).mono Hb.out.size))
  have H6:=Lib.hid (And.intro (And.intro h6 k6) (And.intro h7 k7))
  clear hb6 h6 k6 h7 k7 R5 a0 a1 a2 T HP
  have FX:=Lib.hid (root_fin (r:=(M.nf,M.nf)) Hb.out K4.out Hg.out H6.out.1.1 H6.out.1.2 H6.out.2.1 H6.out.2.2);rw [← ER.out] at FX;have r0:=(K4.out.cell 0).trans rfl;have r1:=(K4.out.cell 1).trans rfl;have r2:=(K4.out.cell 2).trans rfl;have r3:=(K4.out.cell 3).trans rfl;have r4:=(K4.out.cell 4).trans rfl;have r5:=(K4.out.cell 5).trans rfl;have s0:=K4.out.frozen 0;have s1:=K4.out.frozen 1;have s2:=K4.out.frozen 2;have s3:=K4.out.frozen 3;have s4:=K4.out.frozen 4;have s5:=K4.out.frozen 5;clear K4 Hb;go_wp2_with fail;refine bodyPost_ret (v:=.agg #[.bool n6,.slice A6 l6 c6,.slice B6 m6 d6,.bool n7,.slice A7 l7 c7,.slice B7 m7 d7]) (by simp [results,Tryz.results71,go_sem,r0,r1,r2,r3,r4,r5]) rfl FX.out
 have b2:(S == 0)=false:=by rw [beq_eq_false_iff_ne];exact c2
 have hR:=HR.out
 rw [← HS.out,if_neg c2,← HS2.out,← HM.out] at hR
 replace HR:=Lib.hid hR
 clear c2 hR
 have x0:=T.out.r.c0;have x1:=T.out.r.c1;have x2:=T.out.r.c2;have x3:=T.out.c3;have x4:=T.out.c4;have x5:=T.out.c5
 go_wp2_with fail
 refine (signat_any hI _ _ _ Q _ _ _ _ _ _ _ _ _ _ HP.out pa.fit (by omega) T.out.r.hz T.out.r.hq ha.at.u ha.at.v ha.at.pos pa.ok ha.at.fz ha.at.fq).mono ?_
 rintro e w6 ⟨he,hb6⟩
 have he2:e=.returned (.int .i64 S2):=by rw [HS2.out];exact he
 subst he2
 clear he
 clear x0 x1 x2 x3 x4 x5
 replace HP:=Lib.hid (HP.out.below hI hb6);replace T:=Lib.hid (T.out.move hb6);replace K4:=Lib.hid (K4.out.below hb6 K4.out.lt);replace Hb:=Lib.hid (Hb.out.trans ((hb6).mono Hb.out.size))
 replace R5:=Lib.hid (R5.out.move hb6)
 clear hb6
 by_cases c3:S=S2
 ·have b3:(S == S2)=true:=by rw [c3];simp
  have ER:=Lib.hid (show R=(M,r.2) by rw [HR.out,if_pos c3])
  clear c3
  have x0:=T.out.r.c0;have x1:=T.out.r.c1;have x2:=T.out.r.c2;have x3:=T.out.c3;have x4:=T.out.c4;have x5:=T.out.c5
  have a0:=R5.out.c0
  have a1:=R5.out.c1
  have a2:=R5.out.c2
  have FX:=Lib.hid (root_fin (r:=(M,r.2)) Hb.out K4.out Hg.out R5.out.hz R5.out.hq T.out.hz T.out.hq);rw [← ER.out] at FX;have r0:=(K4.out.cell 0).trans rfl;have r1:=(K4.out.cell 1).trans rfl;have r2:=(K4.out.cell 2).trans rfl;have r3:=(K4.out.cell 3).trans rfl;have r4:=(K4.out.cell 4).trans rfl;have r5:=(K4.out.cell 5).trans rfl;have s0:=K4.out.frozen 0;have s1:=K4.out.frozen 1;have s2:=K4.out.frozen 2;have s3:=K4.out.frozen 3;have s4:=K4.out.frozen 4;have s5:=K4.out.frozen 5;clear K4 Hb;go_wp2_with fail;refine bodyPost_ret (v:=.agg #[.bool n5,.slice A5 l5 c5,.slice B5 m5 d5,.bool n',.slice A' l' c',.slice B' m' d']) (by simp [results,Tryz.results71,go_sem,r0,r1,r2,r3,r4,r5]) rfl FX.out
 ·have b3:(S == S2)=false:=by rw [beq_eq_false_iff_ne];exact c3
  have ER:=Lib.hid (show R=(r.1,M) by rw [HR.out,if_neg c3])
  clear c3
  have x0:=T.out.r.c0;have x1:=T.out.r.c1;have x2:=T.out.r.c2;have x3:=T.out.c3;have x4:=T.out.c4;have x5:=T.out.c5
  have a0:=R5.out.c0
  have a1:=R5.out.c1
  have a2:=R5.out.c2
  have FX:=Lib.hid (root_fin (r:=(r.1,M)) Hb.out K4.out Hg.out T.out.r.hz T.out.r.hq R5.out.hz R5.out.hq);rw [← ER.out] at FX;have r0:=(K4.out.cell 0).trans rfl;have r1:=(K4.out.cell 1).trans rfl;have r2:=(K4.out.cell 2).trans rfl;have r3:=(K4.out.cell 3).trans rfl;have r4:=(K4.out.cell 4).trans rfl;have r5:=(K4.out.cell 5).trans rfl;have s0:=K4.out.frozen 0;have s1:=K4.out.frozen 1;have s2:=K4.out.frozen 2;have s3:=K4.out.frozen 3;have s4:=K4.out.frozen 4;have s5:=K4.out.frozen 5;clear K4 Hb;go_wp2_with fail;refine bodyPost_ret (v:=.agg #[.bool n,.slice A l c,.slice B m d,.bool n5,.slice A5 l5 c5,.slice B5 m5 d5]) (by simp [results,Tryz.results71,go_sem,r0,r1,r2,r3,r4,r5]) rfl FX.out
end Go.Proofs.YtbfddopopajgaaaGreat
namespace Go.Proofs.YtbfddopopajgaaaGreat
open Go Go.RowKit
def AwE (f g:List Int) (x:Pt) (r:Fq×Fq) (e:Ending) (w:World):Prop:=∃ i s,i≤NN+1∧ASt f x i s∧r.1.v≤s.1.v∧s.2.v≤r.2.v∧Free g s∧RootE s e w
theorem rbk_poly {w w':World} {g:Nat} {n:Bool} {A:Option Addr} {l c:Nat} {B:Option Addr} {m d:Nat} {n':Bool} {A':Option Addr} {l' c':Nat} {B':Option Addr} {m' d':Nat} {s:Fq×Fq} {Ap:Option Addr} {lp cp:Nat} {p:List Int} (hp:PolyN w Ap lp cp p) (hl:2≤p.length) (hk:RBk w g n A l c B m d n' A' l' c' B' m' d' s) (hf:FrS g g w w'):PolyN w' Ap lp cp p:=by
 refine PolyG.frs (g:=g) (g':=g) ⟨hp,?_⟩ hf hk.ndb hk.ndb
 have hlen:=hp.length
 rcases hp.elems with h0 | ⟨b,o,hA,hlt,he⟩
 ·exact .inl h0
 ·refine .inr ⟨b,o,hA,?_⟩
  have hne:b≠g:=fun e=>by
   subst e
   obtain ⟨_,_,_,_,f1,_,_⟩:=he 0 (by omega)
   obtain ⟨_,_,_,_,f2,_,_⟩:=he 1 (by omega)
   rw [hk.k.cell] at f1 f2
   match o,f1,f2 with
   | 0,_,f2=>simp at f2
   | 1,f1,_=>simp at f1
   | 2,f1,_=>simp at f1
   | 3,_,f2=>simp at f2
   | 4,f1,_=>simp at f1
   | 5,f1,_=>simp at f1
   | o+6,f1,_=>simp at f1
  exact ⟨hne,hne⟩
set_option maxRecDepth 100000 in
set_option maxHeartbeats 16000000 in
theorem away_g {w:World} {Ap:Option Addr} {lp cp:Nat} {f:List Int} {Ag:Option Addr} {lg cg:Nat} {g:List Int} {x:Pt} {i0:Nat} {r:Fq×Fq} {n:Bool} {A:Option Addr} {l c:Nat} {B:Option Addr} {m d:Nat} {n':Bool} {A':Option Addr} {l' c':Nat} {B':Option Addr} {m' d':Nat}
 (hp:PolyN w Ap lp cp (qpart f)) (s6:S6 f) (h0:plen f≠0) (hg:PolyN w Ag lg cg g) (hlg:lg≤16) (gfit:FitP g) (gx:sgp g x≠0) (go:AwO f g x) (hz:IntN w n A l c r.1.z) (hq:NatN w B m d r.1.q) (hz':IntN w n' A' l' c' r.2.z) (hq':NatN w B' m' d' r.2.q) (hi0:i0≤NN+1) (ha:ASt f x i0 r) :
 Calls Tryz.prog 89 #[.slice Ap lp cp,.agg #[.bool n,.slice A l c,.slice B m d,.bool n',.slice A' l' c',.slice B' m' d'],.slice Ag lg cg] w fun e w'=>AwE f g x r e w'∧Below w.heap.size w w':=by
 have o1:=below_new w (tbox n A l c B m d n' A' l' c' B' m' d')
 have o2:=below_new (w.alloc (tbox n A l c B m d n' A' l' c' B' m' d')) rtObj
 have b2:Below w.heap.size w ((w.alloc (tbox n A l c B m d n' A' l' c' B' m' d')).alloc rtObj):=o1.alloc (by simp) _
 have KB:=Lib.hid ((RBk.make (s:=r) hz hq hz' hq').move o2)
 have K3:Blk ((w.alloc (tbox n A l c B m d n' A' l' c' B' m' d')).alloc rtObj) (w.alloc (tbox n A l c B m d n' A' l' c' B' m' d')).heap.size 44 rz6:=Blk.new _ _ _
 simp only [World.size_alloc] at K3
 have K4:=Lib.hid K3
 have HG:=Lib.hid (hg.below ikN b2)
 have HP:=Lib.hid hp
 have Hbw:=Lib.hid b2
 have hlp:lp≤6:=by have:=hp.length;have:=s6.qlen;omega
 have f9:=s6.p9
 have gq:=go.q
 have hOl:=go.ol
 have hOt:=go.t
 have hO0:=go.q0
 have hgr:=go.gr
 have hOx:sgp (qpart g) x≠0:=fun e=>gx ((hgr x).2 e)
 have c1:=go.fO
 have c2:=go.fD
 have k1:=go.k1
 have k3:=go.k3
 have k4:=go.k4
 have hat:=go.at_
 have hall:=go.el
 have hfree:=go.free
 have hmore:=go.more
 obtain ⟨O,hO⟩:∃ O,O=qpart g:=⟨_,rfl⟩
 rw [← hO] at hOl hOt hO0 hgr hOx c1 c2 k1 k3 k4 hat hall hfree hmore
 have HOe:=Lib.hid hO
 have HSQ:=Lib.hid (And.intro hOt hO0)
 have HAT:=Lib.hid hat
 have HFR:=Lib.hid hfree
 have HMO:=Lib.hid hmore
 have HGR:=Lib.hid hgr
 have HOX:=Lib.hid hOx
 have HAL:=Lib.hid hall
 have HST0:=Lib.hid ha
 have H0:=Lib.hid h0
 have hQ:∀ x,FqB x→PoOK x.z x.q (qpart f):=fun x hx=>f9.part.at (by have:=s6.qlen;omega) hx.z hx.q
 obtain ⟨Q,hQe⟩:∃ Q,Q=qpart f:=⟨_,rfl⟩
 rw [← hQe] at HP hQ
 have HQe:=Lib.hid hQe
 have HQ:=Lib.hid hQ
 obtain ⟨g1,hg1⟩:∃ g,g=w.heap.size:=⟨_,rfl⟩
 obtain ⟨g3,hg3⟩:∃ g,g=w.heap.size+1:=⟨_,rfl⟩
 obtain ⟨wb,hwb⟩:∃ wb,wb=(w.alloc (tbox n A l c B m d n' A' l' c' B' m' d')).alloc rtObj:=⟨_,rfl⟩
 clear o1 o2 b2 hz hq hz' hq' K3 hp hg hO hgr hOx hall ha h0 hQ hQe gx go hat hfree hmore hOt hO0
 go_enter Tryz.func89,Tryz.ntmps89
 go_wp2_with fail
 rw [← hwb,← hg1] at KB
 rw [← hwb,← hg3] at K4
 rw [← hwb] at HG Hbw ⊢
 rw [← hg3,← hg1]
 have Hg1:=Lib.hid (show w.heap.size≤g1 by omega)
 have Hg3:=Lib.hid (show w.heap.size≤g3 by omega)
 have ng1:g1≠g3:=by omega
 clear hwb hg1 hg3
 refine (part_q ikN _ _ _ g _ HG.out gfit.smp (fun _=>gq) (by omega)).mono ?_
 rintro e w1 ⟨A7,l7,c7,rfl,h7,hb1⟩
 rw [← HOe.out] at h7
 have hl7:l7≤11:=by have:=h7.length;omega
 have HO:=Lib.hid h7
 replace KB:=Lib.hid (KB.out.move hb1)
 replace K4:=Lib.hid (K4.out.below hb1 K4.out.lt)
 replace Hbw:=Lib.hid (Hbw.out.trans (hb1.mono Hbw.out.size))
 clear h7 hb1 HG
 go_wp2_with fail
 refine (sturmof_fr _ _ _ _ _ HO.out c1.smp c2.smp (by omega) 12 k1 (by omega)).mono ?_
 rintro e w2 ⟨⟨A8,l8,c8,rfl,h8⟩,hb2⟩
 have hl8:l8≤13:=by rw [← h8.1.length];exact k4
 have HC:=Lib.hid h8
 have HB8:=Lib.hid (show g1<w1.heap.size from KB.out.k.lt)
 obtain ⟨B8,hB8⟩:∃ B8,B8=w1.heap.size:=⟨_,rfl⟩
 rw [← hB8] at HC HB8
 obtain ⟨PS,hPS⟩:∃ PS,PS=pchain 12 O (pder O):=⟨_,rfl⟩
 rw [← hPS] at HC
 have HPS:=Lib.hid hPS
 have HPl:=Lib.hid (show PS.length=l8 by rw [hPS];exact h8.1.length)
 replace KB:=Lib.hid (KB.out.move hb2)
 replace HO:=Lib.hid (HO.out.below ikN hb2)
 replace K4:=Lib.hid (K4.out.below hb2 K4.out.lt)
 replace Hbw:=Lib.hid (Hbw.out.trans (hb2.mono Hbw.out.size))
 clear h8 hb2 hB8 hPS k1 k3 k4
 go_wp2_with fail
 go_loopg [9] (NN+1-i0) (fun k s9 wr=>∃ i s n A l c B m d n' A' l' c' B' m' d',i+k=NN+1∧ASt f x i s∧r.1.v≤s.1.v∧s.2.v≤r.2.v∧RBk wr g1 n A l c B m d n' A' l' c' B' m' d' s∧PolyN wr A7 l7 c7 O∧ChF B8 wr A8 l8 c8 PS∧Blk wr g3 44 rz6∧Below w.heap.size w wr)
 case atStart=>exact ⟨i0,r,n,A,l,c,B,m,d,n',A',l',c',B',m',d',by omega,HST0.out,Rat.le_refl,Rat.le_refl,KB.out,HO.out,HC.out,K4.out,Hbw.out⟩
 case round =>
  clear KB HO HC K4 Hbw HST0
  obtain ⟨i,s,n,A,l,c,B,m,d,n',A',l',c',B',m',d',hik,hst,w1',w2',hkb,ho,hc,hk4,hbw⟩:=hrel
  have hi1:i≤NN+1:=by omega
  obtain ⟨fa,fb,fm⟩:=hst.fqb f9 H0.out hi1
  have KB:=Lib.hid hkb
  have HO:=Lib.hid ho
  have HC:=Lib.hid hc
  have K4:=Lib.hid hk4
  have Hbw:=Lib.hid hbw
  have HI:=Lib.hid (And.intro hik (And.intro hi1 True.intro))
  have HS:=Lib.hid (And.intro hst (And.intro w1' w2'))
  have fz:=fcmp_zero fa.p fb.p
  have hle:=hst.iso.le
  have FE:=Lib.hid (show fcmp s.1 s.2=0→Free g s from fun e=>Free.congr (hst.iso.free_pt (fz.1 e) HOX.out) HGR.out)
  have hlt:fcmp s.1 s.2≠0→s.1.v<s.2.v:=fun e=>by
   have:s.1.v≠s.2.v:=fun h=>e (fz.2 h)
   grind
  have FC:=Lib.hid (show fcmp s.1 s.2≠0→s.1.sgn O≠0→s.2.sgn O≠0→(((s.1.chg PS:Nat):Int)=((s.2.chg PS:Nat):Int)↔Free O s) from fun e e1 e2=>by
   rw [HPS.out]
   exact HFR.out s fa.p fb.p (hlt e) (by rw [← sgn_pt fa.p];exact e1) (by rw [← sgn_pt fb.p];exact e2))
  have FM:=Lib.hid (show fcmp s.1 s.2≠0→¬ Free O s→i<NN from fun e hn=>HMO.out i s hst (fun h=>e (fz.2 h)) hn)
  have F1:=Lib.hid (show s.1.sgn O=0→¬ Free O s from fun e hf=>by
   rw [sgn_pt fa.p] at e
   rcases hf _ e with h | h
   ·exact Pt.irr _ h
   ·have:s.2.v<s.1.v:=Pt.of_lt_of.1 h
    grind)
  have F2:=Lib.hid (show s.2.sgn O=0→¬ Free O s from fun e hf=>by
   rw [sgn_pt fb.p] at e
   rcases hf _ e with h | h
   ·have:s.2.v<s.1.v:=Pt.of_lt_of.1 h
    grind
   ·exact Pt.irr _ h)
  have po1:=HAT.out s.1 fa
  have po2:=HAT.out s.2 fb
  have el1:∀ p∈PS,PoOK s.1.z s.1.q p:=fun p hp=>HAL.out s.1 fa p (by rw [← HPS.out];exact hp)
  have el2:∀ p∈PS,PoOK s.2.z s.2.q p:=fun p hp=>HAL.out s.2 fb p (by rw [← HPS.out];exact hp)
  have E1:=Lib.hid el1
  have E2:=Lib.hid el2
  have L2:=Lib.hid (show ¬ Free O s→2≤O.length from fun hn=>by
   obtain ⟨y,hy⟩:=Classical.not_forall.1 hn
   obtain ⟨hy,_⟩:=Classical.not_imp.1 hy
   have e1:O.length=plen O:=by rw [← ptrim_length,HSQ.out.1]
   refine Classical.byContradiction fun hc=>?_
   have h2:=sgp_one (p:=O) (by have:=HSQ.out.2;omega) y
   rw [hy] at h2
   exact sg_ne (plead_ne HSQ.out.2) h2.symm)
  obtain ⟨t,ht⟩:∃ t,t=hlf Q s:=⟨_,rfl⟩
  have HN:=Lib.hid (show ASt f x (i+1) t∧Half s t by rw [ht,HQe.out];exact hst.half f9 H0.out)
  have HT:=Lib.hid ht
  clear hik hst w1' w2' hkb ho hc hk4 hbw fz hle hlt el1 el2 ht
  have x0:=KB.out.tb.r.c0;have x1:=KB.out.tb.r.c1;have x2:=KB.out.tb.r.c2;have x3:=KB.out.tb.c3;have x4:=KB.out.tb.c4;have x5:=KB.out.tb.c5
  go_wp2_with fail
  refine (isexact_any (r:=s) KB.out.hz KB.out.hq KB.out.hz' KB.out.hq' fa fb).mono ?_
  rintro e w3 ⟨rfl,hb3⟩
  clear x0 x1 x2 x3 x4 x5
  replace KB:=Lib.hid (KB.out.move hb3);replace HO:=Lib.hid (HO.out.below ikN hb3);replace HC:=Lib.hid (HC.out.below hb3);replace K4:=Lib.hid (K4.out.below hb3 K4.out.lt);replace Hbw:=Lib.hid (Hbw.out.trans ((hb3).mono Hbw.out.size))
  clear hb3
  by_cases c0:fcmp s.1 s.2=0
  ·have b1:(fcmp s.1 s.2 == 0)=true:=by rw [c0];rfl
   have FR:=Lib.hid (FE.out c0)
   clear c0
   have FX:=Lib.hid (root_fin (r:=s) Hbw.out K4.out Hg3.out KB.out.hz KB.out.hq KB.out.hz' KB.out.hq');have r0:=(K4.out.cell 0).trans rfl;have r1:=(K4.out.cell 1).trans rfl;have r2:=(K4.out.cell 2).trans rfl;have r3:=(K4.out.cell 3).trans rfl;have r4:=(K4.out.cell 4).trans rfl;have r5:=(K4.out.cell 5).trans rfl;have s0:=K4.out.frozen 0;have s1:=K4.out.frozen 1;have s2:=K4.out.frozen 2;have s3:=K4.out.frozen 3;have s4:=K4.out.frozen 4;have s5:=K4.out.frozen 5;have x0:=KB.out.tb.r.c0;have x1:=KB.out.tb.r.c1;have x2:=KB.out.tb.r.c2;have x3:=KB.out.tb.c3;have x4:=KB.out.tb.c4;have x5:=KB.out.tb.c5;clear K4 KB HO HC Hbw;go_wp2_with fail;refine bodyPost_ret (v:=.agg #[.bool n,.slice A l c,.slice B m d,.bool n',.slice A' l' c',.slice B' m' d']) (by simp [results,Tryz.results89,go_sem,r0,r1,r2,r3,r4,r5]) rfl ⟨⟨i,s,HI.out.2.1,HS.out.1,HS.out.2.1,HS.out.2.2,FR.out,FX.out.1⟩,FX.out.2⟩
  have b1:(fcmp s.1 s.2 == 0)=false:=by rw [beq_eq_false_iff_ne];exact c0
  replace FC:=Lib.hid (FC.out c0)
  replace FM:=Lib.hid (FM.out c0)
  clear c0 FE
  have x0:=KB.out.tb.r.c0;have x1:=KB.out.tb.r.c1;have x2:=KB.out.tb.r.c2;have x3:=KB.out.tb.c3;have x4:=KB.out.tb.c4;have x5:=KB.out.tb.c5
  obtain ⟨S1,hS1⟩:∃ S,S=s.1.sgn O:=⟨_,rfl⟩
  obtain ⟨S2,hS2⟩:∃ S,S=s.2.sgn O:=⟨_,rfl⟩
  have HS1:=Lib.hid hS1
  have HS2:=Lib.hid hS2
  clear hS1 hS2
  go_wp2_with fail
  refine (signat_any ikN _ _ _ O _ _ _ _ _ _ _ _ _ _ HO.out po1.fit (by omega) KB.out.hz KB.out.hq fa.at.u fa.at.v fa.at.pos po1.ok fa.at.fz fa.at.fq).mono ?_
  rintro e w4 ⟨he,hb4⟩
  have he2:e=.returned (.int .i64 S1):=by rw [HS1.out];exact he
  subst he2
  clear x0 x1 x2 x3 x4 x5
  replace KB:=Lib.hid (KB.out.move hb4);replace HO:=Lib.hid (HO.out.below ikN hb4);replace HC:=Lib.hid (HC.out.below hb4);replace K4:=Lib.hid (K4.out.below hb4 K4.out.lt);replace Hbw:=Lib.hid (Hbw.out.trans ((hb4).mono Hbw.out.size))
  clear he hb4
  by_cases e1:S1=0
  ·have NF:=Lib.hid (F1.out (by rw [← HS1.out];exact e1))
   have b2:(S1 != 0)=false:=by rw [e1];rfl
   clear e1 F1 F2 FC E1 E2
   have x0:=KB.out.tb.r.c0;have x1:=KB.out.tb.r.c1;have x2:=KB.out.tb.r.c2;have x3:=KB.out.tb.c3;have x4:=KB.out.tb.c4;have x5:=KB.out.tb.c5
   go_wp2_with fail
   refine wp_region_held_drew (S:=(fun w'=>w'.cell? ⟨g1,0,none⟩=some (.bool n)∧w'.cell? ⟨g1,1,none⟩=some (.slice A l c)∧w'.cell? ⟨g1,2,none⟩=some (.slice B m d)∧w'.cell? ⟨g1,3,none⟩=some (.bool n')∧w'.cell? ⟨g1,4,none⟩=some (.slice A' l' c')∧w'.cell? ⟨g1,5,none⟩=some (.slice B' m' d'))) (by kernel_rfl) (by (try dsimp only);go_keep) (fun hHeld=>?_);(refine tk (i:=0) (v:=?_) rfl rfl (Or.inl ⟨by rfl,?_⟩) ?_;rotate_left;(focus (intro w hSw;(try dsimp only at hSw);go_simp;(try with_reducible rfl)));(simp only [put_lit,List.set]));(refine tk (i:=1) (v:=?_) rfl rfl (Or.inl ⟨by rfl,?_⟩) ?_;rotate_left;(focus (intro w hSw;(try dsimp only at hSw);go_simp;(try with_reducible rfl)));(simp only [put_lit,List.set]));(refine take_at (i:=2) (oi:=_) (v:=undef) rfl rfl (by kernel_rfl) (by kernel_rfl) (by kernel_rfl) (fun _ _ _ h=>h) (Or.inr ⟨by rfl,rfl⟩) (by assumption) ?_;(simp only [put_lit,List.set]));(refine take_at (i:=3) (oi:=_) (v:=undef) rfl rfl (by kernel_rfl) (by kernel_rfl) (by kernel_rfl) (fun _ _ _ h=>h) (Or.inr ⟨by rfl,rfl⟩) (by assumption) ?_;(simp only [put_lit,List.set]));(refine take_at (i:=4) (oi:=_) (v:=undef) rfl rfl (by kernel_rfl) (by kernel_rfl) (by kernel_rfl) (fun _ _ _ h=>h) (Or.inr ⟨by rfl,rfl⟩) (by assumption) ?_;(simp only [put_lit,List.set]));(refine take_at (i:=5) (oi:=_) (v:=undef) rfl rfl (by kernel_rfl) (by kernel_rfl) (by kernel_rfl) (fun _ _ _ h=>h) (Or.inr ⟨by rfl,rfl⟩) (by assumption) ?_;(simp only [put_lit,List.set]));(refine take_at (i:=6) (oi:=_) (v:=undef) rfl rfl (by kernel_rfl) (by kernel_rfl) (by kernel_rfl) (fun _ _ _ h=>h) (Or.inr ⟨by rfl,rfl⟩) (by assumption) ?_;(simp only [put_lit,List.set]));(refine take_at (i:=7) (oi:=_) (v:=undef) rfl rfl (by kernel_rfl) (by kernel_rfl) (by kernel_rfl) (fun _ _ _ h=>h) (Or.inr ⟨by rfl,rfl⟩) (by assumption) ?_;(simp only [put_lit,List.set]));(refine take_at (i:=8) (oi:=_) (v:=undef) rfl rfl (by kernel_rfl) (by kernel_rfl) (by kernel_rfl) (fun _ _ _ h=>h) (Or.inr ⟨by rfl,rfl⟩) (by assumption) ?_;(simp only [put_lit,List.set]));(refine take_at (i:=9) (oi:=_) (v:=undef) rfl rfl (by kernel_rfl) (by kernel_rfl) (by kernel_rfl) (fun _ _ _ h=>h) (Or.inr ⟨by rfl,rfl⟩) (by assumption) ?_;(simp only [put_lit,List.set]));(refine take_at (i:=10) (oi:=_) (v:=undef) rfl rfl (by kernel_rfl) (by kernel_rfl) (by kernel_rfl) (fun _ _ _ h=>h) (Or.inr ⟨by rfl,rfl⟩) (by assumption) ?_;(simp only [put_lit,List.set]));(refine tk (i:=11) (v:=?_) rfl rfl (Or.inl ⟨by rfl,?_⟩) ?_;rotate_left;(focus (intro w hSw;(try dsimp only at hSw);go_simp;(try with_reducible rfl)));(simp only [put_lit,List.set]));refine wpAnyH_done (by kernel_rfl) ?_ _;clear hHeld;clear x0 x1 x2 x3 x4 x5
   have jd:=(Below.refl w4.heap.size w4).drew
   replace KB:=Lib.hid (KB.out.move jd);replace HO:=Lib.hid (HO.out.below ikN jd);replace HC:=Lib.hid (HC.out.below jd);replace K4:=Lib.hid (K4.out.below jd K4.out.lt);replace Hbw:=Lib.hid (Hbw.out.trans ((jd).mono Hbw.out.size))
   clear jd
   have HM:=Lib.hid (FM.out NF.out);have HL2:=Lib.hid (L2.out NF.out);have x0:=KB.out.tb.r.c0;have x1:=KB.out.tb.r.c1;have x2:=KB.out.tb.r.c2;have x3:=KB.out.tb.c3;have x4:=KB.out.tb.c4;have x5:=KB.out.tb.c5;go_wp2_with fail;refine (half_any ikN (r:=s) (HP.out.below ikN Hbw.out) (by omega) HQ.out KB.out.hz KB.out.hq KB.out.hz' KB.out.hq' fa fb fm).mono ?_;rintro e w9 ⟨he,hb9⟩;rw [← HT.out] at he;obtain ⟨n5,A5,l5,c5,B5,m5,d5,n6,A6,l6,c6,B6,m6,d6,rfl,z1,z2,z3,z4⟩:=he;clear x0 x1 x2 x3 x4 x5;replace KB:=Lib.hid (KB.out.move hb9);replace HO:=Lib.hid (HO.out.below ikN hb9);replace HC:=Lib.hid (HC.out.below hb9);replace K4:=Lib.hid (K4.out.below hb9 K4.out.lt);replace Hbw:=Lib.hid (Hbw.out.trans ((hb9).mono Hbw.out.size));clear hb9;have hf:=pu6_frs w9 g1 (.bool n5) (.slice A5 l5 c5) (.slice B5 m5 d5) (.bool n6) (.slice A6 l6 c6) (.slice B6 m6 d6);have R1:=Lib.hid (KB.out.put z1 z2 z3 z4);have R2:=Lib.hid (rbk_poly HO.out HL2.out KB.out hf);have R3:=Lib.hid (HC.out.off hf KB.out.ndb HB8.out);have R4:=Lib.hid (show Blk (pu6 w9 g1 (.bool n5) (.slice A5 l5 c5) (.slice B5 m5 d5) (.bool n6) (.slice A6 l6 c6) (.slice B6 m6 d6)) g3 44 rz6 from (hf.same g3 K4.out.lt (by omega) (by omega)).trans K4.out);have R5:=Lib.hid (hf.mono Hbw.out Hg1.out Hg1.out Hbw.out.size);have x0:=KB.out.tb.r.c0;have x1:=KB.out.tb.r.c1;have x2:=KB.out.tb.r.c2;have x3:=KB.out.tb.c3;have x4:=KB.out.tb.c4;have x5:=KB.out.tb.c5;have s0:=KB.out.k.frozen 0;have s1:=KB.out.k.frozen 1;have s2:=KB.out.k.frozen 2;have s3:=KB.out.k.frozen 3;have s4:=KB.out.k.frozen 4;have s5:=KB.out.k.frozen 5;clear hf z1 z2 z3 z4 KB HO HC K4 Hbw;go_wp2_with fail;go_roundg (gk-1);(case rel=>exact ⟨i+1,t,n5,A5,l5,c5,B5,m5,d5,n6,A6,l6,c6,B6,m6,d6,by have:=HI.out.1;have:=HM.out;omega,HN.out.1,Rat.le_trans HS.out.2.1 HN.out.2.lo,Rat.le_trans HN.out.2.hi HS.out.2.2,R1.out,R2.out,R3.out,R4.out,R5.out⟩);(case measure=>have:=HI.out.1;have:=HM.out;omega)
  have b2:(S1 != 0)=true:=by rw [bne_iff_ne];exact e1
  have N1:=Lib.hid (show s.1.sgn O≠0 by rw [← HS1.out];exact e1)
  clear e1
  have x0:=KB.out.tb.r.c0;have x1:=KB.out.tb.r.c1;have x2:=KB.out.tb.r.c2;have x3:=KB.out.tb.c3;have x4:=KB.out.tb.c4;have x5:=KB.out.tb.c5
  go_wp2_with fail
  refine (signat_any ikN _ _ _ O _ _ _ _ _ _ _ _ _ _ HO.out po2.fit (by omega) KB.out.hz' KB.out.hq' fb.at.u fb.at.v fb.at.pos po2.ok fb.at.fz fb.at.fq).mono ?_
  rintro e w5 ⟨he,hb5⟩
  have he2:e=.returned (.int .i64 S2):=by rw [HS2.out];exact he
  subst he2
  clear x0 x1 x2 x3 x4 x5
  replace KB:=Lib.hid (KB.out.move hb5);replace HO:=Lib.hid (HO.out.below ikN hb5);replace HC:=Lib.hid (HC.out.below hb5);replace K4:=Lib.hid (K4.out.below hb5 K4.out.lt);replace Hbw:=Lib.hid (Hbw.out.trans ((hb5).mono Hbw.out.size))
  clear he hb5
  by_cases e2:S2=0
  ·have NF:=Lib.hid (F2.out (by rw [← HS2.out];exact e2))
   have b3:(S2 != 0)=false:=by rw [e2];rfl
   clear e2 F1 F2 FC E1 E2
   have x0:=KB.out.tb.r.c0;have x1:=KB.out.tb.r.c1;have x2:=KB.out.tb.r.c2;have x3:=KB.out.tb.c3;have x4:=KB.out.tb.c4;have x5:=KB.out.tb.c5
   go_wp2_with fail
   refine wp_region_held_drew (S:=(fun w'=>w'.cell? ⟨g1,0,none⟩=some (.bool n)∧w'.cell? ⟨g1,1,none⟩=some (.slice A l c)∧w'.cell? ⟨g1,2,none⟩=some (.slice B m d)∧w'.cell? ⟨g1,3,none⟩=some (.bool n')∧w'.cell? ⟨g1,4,none⟩=some (.slice A' l' c')∧w'.cell? ⟨g1,5,none⟩=some (.slice B' m' d'))) (by kernel_rfl) (by (try dsimp only);go_keep) (fun hHeld=>?_);(refine tk (i:=0) (v:=?_) rfl rfl (Or.inl ⟨by rfl,?_⟩) ?_;rotate_left;(focus (intro w hSw;(try dsimp only at hSw);go_simp;(try with_reducible rfl)));(simp only [put_lit,List.set]));(refine tk (i:=1) (v:=?_) rfl rfl (Or.inl ⟨by rfl,?_⟩) ?_;rotate_left;(focus (intro w hSw;(try dsimp only at hSw);go_simp;(try with_reducible rfl)));(simp only [put_lit,List.set]));(refine take_at (i:=2) (oi:=_) (v:=undef) rfl rfl (by kernel_rfl) (by kernel_rfl) (by kernel_rfl) (fun _ _ _ h=>h) (Or.inr ⟨by rfl,rfl⟩) (by assumption) ?_;(simp only [put_lit,List.set]));(refine take_at (i:=3) (oi:=_) (v:=undef) rfl rfl (by kernel_rfl) (by kernel_rfl) (by kernel_rfl) (fun _ _ _ h=>h) (Or.inr ⟨by rfl,rfl⟩) (by assumption) ?_;(simp only [put_lit,List.set]));(refine take_at (i:=4) (oi:=_) (v:=undef) rfl rfl (by kernel_rfl) (by kernel_rfl) (by kernel_rfl) (fun _ _ _ h=>h) (Or.inr ⟨by rfl,rfl⟩) (by assumption) ?_;(simp only [put_lit,List.set]));(refine take_at (i:=5) (oi:=_) (v:=undef) rfl rfl (by kernel_rfl) (by kernel_rfl) (by kernel_rfl) (fun _ _ _ h=>h) (Or.inr ⟨by rfl,rfl⟩) (by assumption) ?_;(simp only [put_lit,List.set]));(refine take_at (i:=6) (oi:=_) (v:=undef) rfl rfl (by kernel_rfl) (by kernel_rfl) (by kernel_rfl) (fun _ _ _ h=>h) (Or.inr ⟨by rfl,rfl⟩) (by assumption) ?_;(simp only [put_lit,List.set]));(refine take_at (i:=7) (oi:=_) (v:=undef) rfl rfl (by kernel_rfl) (by kernel_rfl) (by kernel_rfl) (fun _ _ _ h=>h) (Or.inr ⟨by rfl,rfl⟩) (by assumption) ?_;(simp only [put_lit,List.set]));(refine take_at (i:=8) (oi:=_) (v:=undef) rfl rfl (by kernel_rfl) (by kernel_rfl) (by kernel_rfl) (fun _ _ _ h=>h) (Or.inr ⟨by rfl,rfl⟩) (by assumption) ?_;(simp only [put_lit,List.set]));(refine take_at (i:=9) (oi:=_) (v:=undef) rfl rfl (by kernel_rfl) (by kernel_rfl) (by kernel_rfl) (fun _ _ _ h=>h) (Or.inr ⟨by rfl,rfl⟩) (by assumption) ?_;(simp only [put_lit,List.set]));(refine take_at (i:=10) (oi:=_) (v:=undef) rfl rfl (by kernel_rfl) (by kernel_rfl) (by kernel_rfl) (fun _ _ _ h=>h) (Or.inr ⟨by rfl,rfl⟩) (by assumption) ?_;(simp only [put_lit,List.set]));(refine tk (i:=11) (v:=?_) rfl rfl (Or.inl ⟨by rfl,?_⟩) ?_;rotate_left;(focus (intro w hSw;(try dsimp only at hSw);go_simp;(try with_reducible rfl)));(simp only [put_lit,List.set]));refine wpAnyH_done (by kernel_rfl) ?_ _;clear hHeld;clear x0 x1 x2 x3 x4 x5
   have jd:=(Below.refl w5.heap.size w5).drew
   replace KB:=Lib.hid (KB.out.move jd);replace HO:=Lib.hid (HO.out.below ikN jd);replace HC:=Lib.hid (HC.out.below jd);replace K4:=Lib.hid (K4.out.below jd K4.out.lt);replace Hbw:=Lib.hid (Hbw.out.trans ((jd).mono Hbw.out.size))
   clear jd
   have HM:=Lib.hid (FM.out NF.out);have HL2:=Lib.hid (L2.out NF.out);have x0:=KB.out.tb.r.c0;have x1:=KB.out.tb.r.c1;have x2:=KB.out.tb.r.c2;have x3:=KB.out.tb.c3;have x4:=KB.out.tb.c4;have x5:=KB.out.tb.c5;go_wp2_with fail;refine (half_any ikN (r:=s) (HP.out.below ikN Hbw.out) (by omega) HQ.out KB.out.hz KB.out.hq KB.out.hz' KB.out.hq' fa fb fm).mono ?_;rintro e w9 ⟨he,hb9⟩;rw [← HT.out] at he;obtain ⟨n5,A5,l5,c5,B5,m5,d5,n6,A6,l6,c6,B6,m6,d6,rfl,z1,z2,z3,z4⟩:=he;clear x0 x1 x2 x3 x4 x5;replace KB:=Lib.hid (KB.out.move hb9);replace HO:=Lib.hid (HO.out.below ikN hb9);replace HC:=Lib.hid (HC.out.below hb9);replace K4:=Lib.hid (K4.out.below hb9 K4.out.lt);replace Hbw:=Lib.hid (Hbw.out.trans ((hb9).mono Hbw.out.size));clear hb9;have hf:=pu6_frs w9 g1 (.bool n5) (.slice A5 l5 c5) (.slice B5 m5 d5) (.bool n6) (.slice A6 l6 c6) (.slice B6 m6 d6);have R1:=Lib.hid (KB.out.put z1 z2 z3 z4);have R2:=Lib.hid (rbk_poly HO.out HL2.out KB.out hf);have R3:=Lib.hid (HC.out.off hf KB.out.ndb HB8.out);have R4:=Lib.hid (show Blk (pu6 w9 g1 (.bool n5) (.slice A5 l5 c5) (.slice B5 m5 d5) (.bool n6) (.slice A6 l6 c6) (.slice B6 m6 d6)) g3 44 rz6 from (hf.same g3 K4.out.lt (by omega) (by omega)).trans K4.out);have R5:=Lib.hid (hf.mono Hbw.out Hg1.out Hg1.out Hbw.out.size);have x0:=KB.out.tb.r.c0;have x1:=KB.out.tb.r.c1;have x2:=KB.out.tb.r.c2;have x3:=KB.out.tb.c3;have x4:=KB.out.tb.c4;have x5:=KB.out.tb.c5;have s0:=KB.out.k.frozen 0;have s1:=KB.out.k.frozen 1;have s2:=KB.out.k.frozen 2;have s3:=KB.out.k.frozen 3;have s4:=KB.out.k.frozen 4;have s5:=KB.out.k.frozen 5;clear hf z1 z2 z3 z4 KB HO HC K4 Hbw;go_wp2_with fail;go_roundg (gk-1);(case rel=>exact ⟨i+1,t,n5,A5,l5,c5,B5,m5,d5,n6,A6,l6,c6,B6,m6,d6,by have:=HI.out.1;have:=HM.out;omega,HN.out.1,Rat.le_trans HS.out.2.1 HN.out.2.lo,Rat.le_trans HN.out.2.hi HS.out.2.2,R1.out,R2.out,R3.out,R4.out,R5.out⟩);(case measure=>have:=HI.out.1;have:=HM.out;omega)
  have b3:(S2 != 0)=true:=by rw [bne_iff_ne];exact e2
  replace FC:=Lib.hid (FC.out N1.out (by rw [← HS2.out];exact e2))
  clear e2 F1 F2 N1
  obtain ⟨wk,hwk⟩:∃ wk,wk=w5:=⟨_,rfl⟩
  rw [← hwk] at KB HO HC K4 Hbw ⊢
  clear hwk
  obtain ⟨C1,hC1⟩:∃ C,C=s.1.chg PS:=⟨_,rfl⟩
  obtain ⟨C2,hC2⟩:∃ C,C=s.2.chg PS:=⟨_,rfl⟩
  have FC':=FC.out
  rw [← hC1,← hC2] at FC'
  replace FC:=Lib.hid FC'
  have HC1:=Lib.hid (show (vst (PS.map (sat s.1.z s.1.q)) l8).1=C1 by rw [hC1,← HPl.out];rfl)
  have HC2:=Lib.hid (show (vst (PS.map (sat s.2.z s.2.q)) l8).1=C2 by rw [hC2,← HPl.out];rfl)
  clear hC1 hC2 FC'
  have l1:=KB.out.k.lt
  have x0:=KB.out.tb.r.c0;have x1:=KB.out.tb.r.c1;have x2:=KB.out.tb.r.c2;have x3:=KB.out.tb.c3;have x4:=KB.out.tb.c4;have x5:=KB.out.tb.c5
  go_wp2_with fail
  refine wp_region_held_drew (S:=(fun w'=>w'.cell? ⟨g1,0,none⟩=some (.bool n)∧w'.cell? ⟨g1,1,none⟩=some (.slice A l c)∧w'.cell? ⟨g1,2,none⟩=some (.slice B m d)∧w'.cell? ⟨g1,3,none⟩=some (.bool n')∧w'.cell? ⟨g1,4,none⟩=some (.slice A' l' c')∧w'.cell? ⟨g1,5,none⟩=some (.slice B' m' d'))) (by kernel_rfl) (by (try dsimp only);go_keep) (fun hHeld=>?_)
  (refine tk (i:=0) (v:=?_) rfl rfl (Or.inl ⟨by rfl,?_⟩) ?_;rotate_left;(focus (intro w hSw;(try dsimp only at hSw);go_simp;(try with_reducible rfl)));(simp only [put_lit,List.set]))
  (refine tk (i:=1) (v:=?_) rfl rfl (Or.inl ⟨by rfl,?_⟩) ?_;rotate_left;(focus (intro w hSw;(try dsimp only at hSw);go_simp;(try with_reducible rfl)));(simp only [put_lit,List.set]))
  (refine tk (i:=2) (v:=?_) rfl rfl (Or.inl ⟨by rfl,?_⟩) ?_;rotate_left;(focus (intro w hSw;(try dsimp only at hSw);go_simp;(try with_reducible rfl)));(simp only [put_lit,List.set]))
  (refine tk (i:=3) (v:=?_) rfl rfl (Or.inl ⟨by rfl,?_⟩) ?_;rotate_left;(focus (intro w hSw;(try dsimp only at hSw);go_simp;(try with_reducible rfl)));(simp only [put_lit,List.set]))
  (refine tk (i:=4) (v:=?_) rfl rfl (Or.inl ⟨by rfl,?_⟩) ?_;rotate_left;(focus (intro w hSw;(try dsimp only at hSw);go_simp;(try with_reducible rfl)));(simp only [put_lit,List.set]))
  (refine tk (i:=6) (v:=?_) rfl rfl (Or.inl ⟨by rfl,?_⟩) ?_;rotate_left;(focus (intro w hSw;(try dsimp only at hSw);go_simp;(try with_reducible rfl)));(simp only [put_lit,List.set]))
  (refine tk (i:=7) (v:=?_) rfl rfl (Or.inl ⟨by rfl,?_⟩) ?_;rotate_left;(focus (intro w hSw;(try dsimp only at hSw);go_simp;(try with_reducible rfl)));(simp only [put_lit,List.set]))
  (refine tk (i:=8) (v:=?_) rfl rfl (Or.inl ⟨by rfl,?_⟩) ?_;rotate_left;(focus (intro w hSw;(try dsimp only at hSw);go_simp;(try with_reducible rfl)));(simp only [put_lit,List.set]))
  (refine wpAnyH_ready (rs:=[5]) (by kernel_rfl) (by simp) ?_;refine AllReadyH.cons rfl (fun K hK=>?_) AllReadyH.nil;go_simp)
  refine (vars_any _ _ _ PS _ _ _ _ _ _ _ s.1.q s.1.z _ (HC.out.plst.below Bel.go) (KB.out.hz.below Bel.go) (KB.out.hq.below Bel.go) fa.at E1.out (by omega)).mono ?_
  rintro e w6 ⟨he,hb6⟩
  rw [HC1.out] at he
  subst he
  have G6':=Lib.hid ((Below.trans Bel.go (hb6.mono (by simp<;>omega))):Below wk.heap.size wk w6)
  obtain ⟨hcx,hfx⟩:=bcellS hb6;refine hK.out _ _ ?_ (fun _=>?_);(focus (((try dsimp only);repeat' apply And.intro)<;>(rw [hcx _ (by go_simp)];go_simp)));clear hHeld hK K hcx hfx;rename_i hHeld;clear hb6
  (refine wpAnyH_ready (rs:=[9]) (by kernel_rfl) (by simp) ?_;refine AllReadyH.cons rfl (fun K hK=>?_) AllReadyH.nil;go_simp)
  refine (vars_any _ _ _ PS _ _ _ _ _ _ _ s.2.q s.2.z _ ((HC.out.plst.below G6'.out).below Bel.go) ((KB.out.hz'.below G6'.out).below Bel.go) ((KB.out.hq'.below G6'.out).below Bel.go) fb.at E2.out (by omega)).mono ?_
  rintro e w7 ⟨he,hb7⟩
  rw [HC2.out] at he
  subst he
  have G7:=Lib.hid (G6'.out.trans (((Below.trans Bel.go (hb7.mono (by simp<;>omega))):Below w6.heap.size w6 w7).mono G6'.out.size))
  obtain ⟨hcx,hfx⟩:=bcellS hb7;refine hK.out _ _ ?_ (fun _=>?_);(focus (((try dsimp only);repeat' apply And.intro)<;>(rw [hcx _ (by go_simp)];go_simp)));clear hHeld hK K hcx hfx;rename_i hHeld;clear hb7
  by_cases e3:((C1:Nat):Int)=((C2:Nat):Int)
  ·have b4:(((C1:Nat):Int) == ((C2:Nat):Int))=true:=by rw [e3];simp
   have FR:=Lib.hid (Free.congr (FC.out.1 e3) HGR.out)
   clear e3
   (refine tk (i:=10) (v:=?_) rfl rfl (Or.inl ⟨by rfl,?_⟩) ?_;rotate_left;(focus (intro w hSw;(try dsimp only at hSw);go_simp;(try with_reducible rfl)));(simp only [put_lit,List.set]))
   (refine tk (i:=11) (v:=?_) rfl rfl (Or.inl ⟨by rfl,?_⟩) ?_;rotate_left;(focus (intro w hSw;(try dsimp only at hSw);go_simp;(try with_reducible rfl)));(simp only [put_lit,List.set]))
   refine wpAnyH_done (by kernel_rfl) ?_ _
   replace KB:=Lib.hid (KB.out.move G7.out);replace HO:=Lib.hid (HO.out.below ikN G7.out);replace HC:=Lib.hid (HC.out.below G7.out);replace K4:=Lib.hid (K4.out.below G7.out K4.out.lt);replace Hbw:=Lib.hid (Hbw.out.trans ((G7.out).mono Hbw.out.size))
   clear hHeld G6' G7
   clear x0 x1 x2 x3 x4 x5
   have FX:=Lib.hid (root_fin (r:=s) Hbw.out K4.out Hg3.out KB.out.hz KB.out.hq KB.out.hz' KB.out.hq');have r0:=(K4.out.cell 0).trans rfl;have r1:=(K4.out.cell 1).trans rfl;have r2:=(K4.out.cell 2).trans rfl;have r3:=(K4.out.cell 3).trans rfl;have r4:=(K4.out.cell 4).trans rfl;have r5:=(K4.out.cell 5).trans rfl;have s0:=K4.out.frozen 0;have s1:=K4.out.frozen 1;have s2:=K4.out.frozen 2;have s3:=K4.out.frozen 3;have s4:=K4.out.frozen 4;have s5:=K4.out.frozen 5;have x0:=KB.out.tb.r.c0;have x1:=KB.out.tb.r.c1;have x2:=KB.out.tb.r.c2;have x3:=KB.out.tb.c3;have x4:=KB.out.tb.c4;have x5:=KB.out.tb.c5;clear K4 KB HO HC Hbw;go_wp2_with fail;refine bodyPost_ret (v:=.agg #[.bool n,.slice A l c,.slice B m d,.bool n',.slice A' l' c',.slice B' m' d']) (by simp [results,Tryz.results89,go_sem,r0,r1,r2,r3,r4,r5]) rfl ⟨⟨i,s,HI.out.2.1,HS.out.1,HS.out.2.1,HS.out.2.2,FR.out,FX.out.1⟩,FX.out.2⟩
  ·have b4:(((C1:Nat):Int) == ((C2:Nat):Int))=false:=by rw [beq_eq_false_iff_ne];exact e3
   have NF:=Lib.hid (fun h=>e3 (FC.out.2 h))
   clear e3
   (refine tk (i:=10) (v:=?_) rfl rfl (Or.inl ⟨by rfl,?_⟩) ?_;rotate_left;(focus (intro w hSw;(try dsimp only at hSw);go_simp;(try with_reducible rfl)));(simp only [put_lit,List.set]))
   (refine tk (i:=11) (v:=?_) rfl rfl (Or.inl ⟨by rfl,?_⟩) ?_;rotate_left;(focus (intro w hSw;(try dsimp only at hSw);go_simp;(try with_reducible rfl)));(simp only [put_lit,List.set]))
   refine wpAnyH_done (by kernel_rfl) ?_ _
   replace KB:=Lib.hid (KB.out.move G7.out);replace HO:=Lib.hid (HO.out.below ikN G7.out);replace HC:=Lib.hid (HC.out.below G7.out);replace K4:=Lib.hid (K4.out.below G7.out K4.out.lt);replace Hbw:=Lib.hid (Hbw.out.trans ((G7.out).mono Hbw.out.size))
   clear hHeld G6' G7
   clear x0 x1 x2 x3 x4 x5
   have HM:=Lib.hid (FM.out NF.out);have HL2:=Lib.hid (L2.out NF.out);have x0:=KB.out.tb.r.c0;have x1:=KB.out.tb.r.c1;have x2:=KB.out.tb.r.c2;have x3:=KB.out.tb.c3;have x4:=KB.out.tb.c4;have x5:=KB.out.tb.c5;go_wp2_with fail;refine (half_any ikN (r:=s) (HP.out.below ikN Hbw.out) (by omega) HQ.out KB.out.hz KB.out.hq KB.out.hz' KB.out.hq' fa fb fm).mono ?_;rintro e w9 ⟨he,hb9⟩;rw [← HT.out] at he;obtain ⟨n5,A5,l5,c5,B5,m5,d5,n6,A6,l6,c6,B6,m6,d6,rfl,z1,z2,z3,z4⟩:=he;clear x0 x1 x2 x3 x4 x5;replace KB:=Lib.hid (KB.out.move hb9);replace HO:=Lib.hid (HO.out.below ikN hb9);replace HC:=Lib.hid (HC.out.below hb9);replace K4:=Lib.hid (K4.out.below hb9 K4.out.lt);replace Hbw:=Lib.hid (Hbw.out.trans ((hb9).mono Hbw.out.size));clear hb9;have hf:=pu6_frs w9 g1 (.bool n5) (.slice A5 l5 c5) (.slice B5 m5 d5) (.bool n6) (.slice A6 l6 c6) (.slice B6 m6 d6);have R1:=Lib.hid (KB.out.put z1 z2 z3 z4);have R2:=Lib.hid (rbk_poly HO.out HL2.out KB.out hf);have R3:=Lib.hid (HC.out.off hf KB.out.ndb HB8.out);have R4:=Lib.hid (show Blk (pu6 w9 g1 (.bool n5) (.slice A5 l5 c5) (.slice B5 m5 d5) (.bool n6) (.slice A6 l6 c6) (.slice B6 m6 d6)) g3 44 rz6 from (hf.same g3 K4.out.lt (by omega) (by omega)).trans K4.out);have R5:=Lib.hid (hf.mono Hbw.out Hg1.out Hg1.out Hbw.out.size);have x0:=KB.out.tb.r.c0;have x1:=KB.out.tb.r.c1;have x2:=KB.out.tb.r.c2;have x3:=KB.out.tb.c3;have x4:=KB.out.tb.c4;have x5:=KB.out.tb.c5;have s0:=KB.out.k.frozen 0;have s1:=KB.out.k.frozen 1;have s2:=KB.out.k.frozen 2;have s3:=KB.out.k.frozen 3;have s4:=KB.out.k.frozen 4;have s5:=KB.out.k.frozen 5;clear hf z1 z2 z3 z4 KB HO HC K4 Hbw;go_wp2_with fail;go_roundg (gk-1);(case rel=>exact ⟨i+1,t,n5,A5,l5,c5,B5,m5,d5,n6,A6,l6,c6,B6,m6,d6,by have:=HI.out.1;have:=HM.out;omega,HN.out.1,Rat.le_trans HS.out.2.1 HN.out.2.lo,Rat.le_trans HN.out.2.hi HS.out.2.2,R1.out,R2.out,R3.out,R4.out,R5.out⟩);(case measure=>have:=HI.out.1;have:=HM.out;omega)
theorem away_any {w:World} {Ap:Option Addr} {lp cp:Nat} {f:List Int} {Ag:Option Addr} {lg cg:Nat} {g:List Int} {x:Pt} {i0:Nat} {r:Fq×Fq} {n:Bool} {A:Option Addr} {l c:Nat} {B:Option Addr} {m d:Nat} {n':Bool} {A':Option Addr} {l' c':Nat} {B':Option Addr} {m' d':Nat}
 (hp:PolyN w Ap lp cp (qpart f)) (s6:S6 f) (h0:plen f≠0) (hg:PolyN w Ag lg cg g) (g6:G6 g) (gx:sgp g x≠0) (hz:IntN w n A l c r.1.z) (hq:NatN w B m d r.1.q) (hz':IntN w n' A' l' c' r.2.z) (hq':NatN w B' m' d' r.2.q) (hi0:i0≤NN+1) (ha:ASt f x i0 r) :
 Calls Tryz.prog 89 #[.slice Ap lp cp,.agg #[.bool n,.slice A l c,.slice B m d,.bool n',.slice A' l' c',.slice B' m' d'],.slice Ag lg cg] w fun e w'=>AwE f g x r e w'∧Below w.heap.size w w' :=
 away_g hp s6 h0 hg (by have:=hg.length;have:=g6.len;omega) g6.fit gx (awo_g6 s6 h0 g6 gx) hz hq hz' hq' hi0 ha
end Go.Proofs.YtbfddopopajgaaaGreat
namespace Go.Proofs.YtbfddopopajgaaaGreat
open Go Go.RowKit
def cmpr (Q:List Int) (r:Fq×Fq) (a:Fq):Int :=
 if fcmp r.1 r.2=0 then fcmp r.1 a else if fcmp a r.1≤0 then 1 else if 0≤fcmp a r.2 then -1 else if a.sgn Q=0 then 0 else if a.sgn Q=r.1.sgn Q then 1 else -1
section
variable {Q f:List Int} {r:Fq×Fq} {a:Fq} {x:Pt}
end
set_option maxRecDepth 100000 in
set_option maxHeartbeats 4000000 in
theorem compare_any {I:IntPred} (hI:IK I) {w:World} {Ap:Option Addr} {lp cp:Nat} {Q:List Int} {r:Fq×Fq} {a:Fq} {n:Bool} {A:Option Addr} {l c:Nat} {B:Option Addr} {m d:Nat} {n':Bool} {A':Option Addr} {l' c':Nat} {B':Option Addr} {m' d':Nat} {na:Bool} {Aa:Option Addr} {la ca:Nat} {Ba:Option Addr} {ma da:Nat}
 (hp:PolyP I w Ap lp cp Q) (hlp:lp≤1000000) (hQ:∀ x,FqB x→PoOK x.z x.q Q) (hz:IntN w n A l c r.1.z) (hq:NatN w B m d r.1.q) (hz':IntN w n' A' l' c' r.2.z) (hq':NatN w B' m' d' r.2.q) (hza:IntN w na Aa la ca a.z) (hqa:NatN w Ba ma da a.q) (ha:FqB r.1) (hb:FqB r.2) (hc:FqB a) :
 Calls Tryz.prog 67 #[.slice Ap lp cp,.agg #[.bool n,.slice A l c,.slice B m d,.bool n',.slice A' l' c',.slice B' m' d'],.agg #[.bool na,.slice Aa la ca,.slice Ba ma da]] w fun e w'=>e=.returned (.int .i64 (cmpr Q r a))∧Below w.heap.size w w':=by
 have o1:=below_new w (tbox n A l c B m d n' A' l' c' B' m' d')
 have o2:=below_new (w.alloc (tbox n A l c B m d n' A' l' c' B' m' d')) (rbox na Aa la ca Ba ma da)
 have b2:Below w.heap.size w ((w.alloc (tbox n A l c B m d n' A' l' c' B' m' d')).alloc (rbox na Aa la ca Ba ma da)):=o1.alloc (by simp) _
 have T:=Lib.hid ((TBox.make hz hq hz' hq').move o2)
 have r2:=RBox.make (hza.below o1) (hqa.below o1)
 simp only [World.size_alloc] at r2
 have R:=Lib.hid r2
 have HP:=Lib.hid (hp.below hI b2)
 have Hb:=Lib.hid b2
 have p1:=ha.p
 have p2:=hb.p
 have p3:=hc.p
 have pa:=hQ _ ha
 have pc:=hQ _ hc
 obtain ⟨V,hV⟩:∃ V,V=cmpr Q r a:=⟨_,rfl⟩
 rw [← hV]
 unfold cmpr at hV
 have HV:=Lib.hid hV
 obtain ⟨S,hS⟩:∃ S,S=a.sgn Q:=⟨_,rfl⟩
 obtain ⟨S2,hS2⟩:∃ S,S=r.1.sgn Q:=⟨_,rfl⟩
 have HS:=Lib.hid hS
 have HS2:=Lib.hid hS2
 clear hz hq hz' hq' hza hqa o1 o2 b2 r2 hp hV hS hS2 hQ
 go_enter Tryz.func67,Tryz.ntmps67
 have x0:=T.out.r.c0;have x1:=T.out.r.c1;have x2:=T.out.r.c2;have x3:=T.out.c3;have x4:=T.out.c4;have x5:=T.out.c5;have y0:=R.out.c0;have y1:=R.out.c1;have y2:=R.out.c2
 go_wp2_with fail
 refine (isexact_any T.out.r.hz T.out.r.hq T.out.hz T.out.hq ha hb).mono ?_
 rintro e w1 ⟨rfl,hb1⟩
 clear x0 x1 x2 x3 x4 x5 y0 y1 y2
 replace HP:=Lib.hid (HP.out.below hI hb1);replace T:=Lib.hid (T.out.move hb1);replace R:=Lib.hid (R.out.move hb1);replace Hb:=Lib.hid (Hb.out.trans ((hb1).mono Hb.out.size))
 clear hb1
 by_cases c0:fcmp r.1 r.2=0
 ·have b1:(fcmp r.1 r.2 == 0)=true:=by rw [c0];rfl
  have EV:=Lib.hid (show V=fcmp r.1 a by rw [HV.out,if_pos c0])
  clear c0
  have x0:=T.out.r.c0;have x1:=T.out.r.c1;have x2:=T.out.r.c2;have x3:=T.out.c3;have x4:=T.out.c4;have x5:=T.out.c5;have y0:=R.out.c0;have y1:=R.out.c1;have y2:=R.out.c2
  go_wp2_with fail
  refine (rcmp_any _ _ _ _ _ _ _ _ _ _ _ _ _ _ _ _ _ _ _ T.out.r.hz.at_ T.out.r.hq.at_ R.out.hz.at_ R.out.hq.at_ (by omega) (by omega) ha.fz ha.fq hc.fz hc.fq).mono ?_;rintro e w2 ⟨rfl,hb9⟩;clear x0 x1 x2 x3 x4 x5 y0 y1 y2;replace HP:=Lib.hid (HP.out.below hI hb9);replace T:=Lib.hid (T.out.move hb9);replace R:=Lib.hid (R.out.move hb9);replace Hb:=Lib.hid (Hb.out.trans ((hb9).mono Hb.out.size));clear hb9
  obtain ⟨C,hC⟩:∃ C,C=fcmp r.1 a:=⟨_,rfl⟩
  rw [show cmpz (r.1.z*(a.q:Int)) (a.z*(r.1.q:Int))=C from hC.symm]
  replace EV:=Lib.hid (EV.out.trans hC.symm)
  clear hC T R HP
  go_wp2;go_ret;exact ⟨(by first | (rw [EV.out];done) | (rw [EV.out];rfl)),Hb.out⟩
 have b1:(fcmp r.1 r.2 == 0)=false:=by rw [beq_eq_false_iff_ne];exact c0
 have hV:=HV.out
 rw [if_neg c0] at hV
 replace HV:=Lib.hid hV
 clear c0 hV
 have x0:=T.out.r.c0;have x1:=T.out.r.c1;have x2:=T.out.r.c2;have x3:=T.out.c3;have x4:=T.out.c4;have x5:=T.out.c5;have y0:=R.out.c0;have y1:=R.out.c1;have y2:=R.out.c2
 go_wp2_with fail
 refine (rcmp_any _ _ _ _ _ _ _ _ _ _ _ _ _ _ _ _ _ _ _ R.out.hz.at_ R.out.hq.at_ T.out.r.hz.at_ T.out.r.hq.at_ (by omega) (by omega) hc.fz hc.fq ha.fz ha.fq).mono ?_;rintro e w2 ⟨rfl,hb9⟩;clear x0 x1 x2 x3 x4 x5 y0 y1 y2;replace HP:=Lib.hid (HP.out.below hI hb9);replace T:=Lib.hid (T.out.move hb9);replace R:=Lib.hid (R.out.move hb9);replace Hb:=Lib.hid (Hb.out.trans ((hb9).mono Hb.out.size));clear hb9
 obtain ⟨C1,hC1⟩:∃ C,C=fcmp a r.1:=⟨_,rfl⟩
 rw [show cmpz (a.z*(r.1.q:Int)) (r.1.z*(a.q:Int))=C1 from hC1.symm]
 have hV:=HV.out
 rw [← hC1] at hV
 replace HV:=Lib.hid hV
 clear hC1 hV
 by_cases c1:C1≤0
 ·have b2:decide (C1≤0)=true:=decide_eq_true c1
  have EV:=Lib.hid (show V=1 by rw [HV.out,if_pos c1])
  clear c1 T R HP
  go_wp2;go_ret;exact ⟨(by first | (rw [EV.out];done) | (rw [EV.out];rfl)),Hb.out⟩
 have b2:decide (C1≤0)=false:=decide_eq_false c1
 have hV:=HV.out
 rw [if_neg c1] at hV
 replace HV:=Lib.hid hV
 clear c1 hV
 have x0:=T.out.r.c0;have x1:=T.out.r.c1;have x2:=T.out.r.c2;have x3:=T.out.c3;have x4:=T.out.c4;have x5:=T.out.c5;have y0:=R.out.c0;have y1:=R.out.c1;have y2:=R.out.c2
 go_wp2_with fail
 refine (rcmp_any _ _ _ _ _ _ _ _ _ _ _ _ _ _ _ _ _ _ _ R.out.hz.at_ R.out.hq.at_ T.out.hz.at_ T.out.hq.at_ (by omega) (by omega) hc.fz hc.fq hb.fz hb.fq).mono ?_;rintro e w3 ⟨rfl,hb9⟩;clear x0 x1 x2 x3 x4 x5 y0 y1 y2;replace HP:=Lib.hid (HP.out.below hI hb9);replace T:=Lib.hid (T.out.move hb9);replace R:=Lib.hid (R.out.move hb9);replace Hb:=Lib.hid (Hb.out.trans ((hb9).mono Hb.out.size));clear hb9
 obtain ⟨C2,hC2⟩:∃ C,C=fcmp a r.2:=⟨_,rfl⟩
 rw [show cmpz (a.z*(r.2.q:Int)) (r.2.z*(a.q:Int))=C2 from hC2.symm]
 have hV:=HV.out
 rw [← hC2] at hV
 replace HV:=Lib.hid hV
 clear hC2 hV
 by_cases c2:0≤C2
 ·have b3:decide (0≤C2)=true:=decide_eq_true c2
  have EV:=Lib.hid (show V=-1 by rw [HV.out,if_pos c2])
  clear c2 T R HP
  go_wp2;go_ret;exact ⟨(by first | (rw [EV.out];done) | (rw [EV.out];rfl)),Hb.out⟩
 have b3:decide (0≤C2)=false:=decide_eq_false c2
 have hV:=HV.out
 rw [if_neg c2,← HS.out,← HS2.out] at hV
 replace HV:=Lib.hid hV
 clear c2 hV
 have x0:=T.out.r.c0;have x1:=T.out.r.c1;have x2:=T.out.r.c2;have x3:=T.out.c3;have x4:=T.out.c4;have x5:=T.out.c5;have y0:=R.out.c0;have y1:=R.out.c1;have y2:=R.out.c2
 go_wp2_with fail
 refine (signat_any hI _ _ _ Q _ _ _ _ _ _ _ _ _ _ HP.out (pc).fit (by omega) R.out.hz R.out.hq (hc).at.u (hc).at.v (hc).at.pos (pc).ok (hc).at.fz (hc).at.fq).mono ?_;rintro e w4 ⟨he,hb9⟩;have he2:e=.returned (.int .i64 S):=(by rw [HS.out];exact he);subst he2;clear he;clear x0 x1 x2 x3 x4 x5 y0 y1 y2;replace HP:=Lib.hid (HP.out.below hI hb9);replace T:=Lib.hid (T.out.move hb9);replace R:=Lib.hid (R.out.move hb9);replace Hb:=Lib.hid (Hb.out.trans ((hb9).mono Hb.out.size));clear hb9
 by_cases c3:S=0
 ·have b4:(S == 0)=true:=by rw [c3];rfl
  have EV:=Lib.hid (show V=0 by rw [HV.out,if_pos c3])
  clear c3 T R HP
  go_wp2;go_ret;exact ⟨(by first | (rw [EV.out];done) | (rw [EV.out];rfl)),Hb.out⟩
 have b4:(S == 0)=false:=by rw [beq_eq_false_iff_ne];exact c3
 have hV:=HV.out
 rw [if_neg c3] at hV
 replace HV:=Lib.hid hV
 clear c3 hV
 have x0:=T.out.r.c0;have x1:=T.out.r.c1;have x2:=T.out.r.c2;have x3:=T.out.c3;have x4:=T.out.c4;have x5:=T.out.c5;have y0:=R.out.c0;have y1:=R.out.c1;have y2:=R.out.c2
 go_wp2_with fail
 refine (signat_any hI _ _ _ Q _ _ _ _ _ _ _ _ _ _ HP.out (pa).fit (by omega) T.out.r.hz T.out.r.hq (ha).at.u (ha).at.v (ha).at.pos (pa).ok (ha).at.fz (ha).at.fq).mono ?_;rintro e w5 ⟨he,hb9⟩;have he2:e=.returned (.int .i64 S2):=(by rw [HS2.out];exact he);subst he2;clear he;clear x0 x1 x2 x3 x4 x5 y0 y1 y2;replace HP:=Lib.hid (HP.out.below hI hb9);replace T:=Lib.hid (T.out.move hb9);replace R:=Lib.hid (R.out.move hb9);replace Hb:=Lib.hid (Hb.out.trans ((hb9).mono Hb.out.size));clear hb9
 by_cases c4:S=S2
 ·have b5:(S == S2)=true:=by rw [c4];simp
  have EV:=Lib.hid (show V=1 by rw [HV.out,if_pos c4])
  clear c4 T R HP
  go_wp2;go_ret;exact ⟨(by first | (rw [EV.out];done) | (rw [EV.out];rfl)),Hb.out⟩
 ·have b5:(S == S2)=false:=by rw [beq_eq_false_iff_ne];exact c4
  have EV:=Lib.hid (show V=-1 by rw [HV.out,if_neg c4])
  clear c4 T R HP
  go_wp2;go_ret;exact ⟨(by first | (rw [EV.out];done) | (rw [EV.out];rfl)),Hb.out⟩
end Go.Proofs.YtbfddopopajgaaaGreat
namespace Go.Proofs.YtbfddopopajgaaaGreat
open Go Go.RowKit
noncomputable def cmpV (f:List Int) (r:Fq×Fq) (a:Fq):Int:=bif vld 2 f r.1 r.2 then cmpr (qpart f) r a else 0
def errV (V:Bool):Int:=bif V then 0 else 1
set_option maxRecDepth 100000 in
set_option maxHeartbeats 4000000 in
theorem rcmpr_any {I:IntPred} (hI:IK I) {w:World} {Af:Option Addr} {lf cf:Nat} {f:List Int} {r:Fq×Fq} {a:Fq} {n:Bool} {A:Option Addr} {l c:Nat} {B:Option Addr} {m d:Nat} {n':Bool} {A':Option Addr} {l' c':Nat} {B':Option Addr} {m' d':Nat} {na:Bool} {Aa:Option Addr} {la ca:Nat} {Ba:Option Addr} {ma da:Nat}
 (hf:PolyP I w Af lf cf f) (hl:f.length≤10) (h9:P9 f) (hz:IntN w n A l c r.1.z) (hq:NatN w B m d r.1.q) (hz':IntN w n' A' l' c' r.2.z) (hq':NatN w B' m' d' r.2.q) (hza:IntN w na Aa la ca a.z) (hqa:NatN w Ba ma da a.q) (ha:FqB r.1) (hb:FqB r.2) (hc:FqB a) :
 Calls Tryz.prog 26 #[.slice Af lf cf,.agg #[.bool n,.slice A l c,.slice B m d,.bool n',.slice A' l' c',.slice B' m' d'],.agg #[.bool na,.slice Aa la ca,.slice Ba ma da]] w fun e w'=>e=.returned (.tuple #[.int .i64 (cmpV f r a),.int .i64 (errV (vld 2 f r.1 r.2))])∧Below w.heap.size w w':=by
 have hlf:lf≤10:=by have:=hf.length;omega
 have o1:=below_new w (tbox n A l c B m d n' A' l' c' B' m' d')
 have o2:=below_new (w.alloc (tbox n A l c B m d n' A' l' c' B' m' d')) (rbox na Aa la ca Ba ma da)
 have b2:Below w.heap.size w ((w.alloc (tbox n A l c B m d n' A' l' c' B' m' d')).alloc (rbox na Aa la ca Ba ma da)):=o1.alloc (by simp) _
 have T:=Lib.hid ((TBox.make hz hq hz' hq').move o2)
 have r2:=RBox.make (hza.below o1) (hqa.below o1)
 simp only [World.size_alloc] at r2
 have R:=Lib.hid r2
 have HP:=Lib.hid (hf.below hI b2)
 have Hb:=Lib.hid b2
 obtain ⟨V,hV⟩:∃ V,V=vld 2 f r.1 r.2:=⟨_,rfl⟩
 obtain ⟨X,hX⟩:∃ X,X=cmpV f r a:=⟨_,rfl⟩
 rw [← hV,← hX]
 unfold cmpV at hX
 rw [← hV] at hX
 have HX:=Lib.hid hX
 have HV:=Lib.hid hV
 clear hz hq hz' hq' hza hqa o1 o2 b2 r2 hf hV hX
 go_enter Tryz.func26,Tryz.ntmps26
 have x0:=T.out.r.c0;have x1:=T.out.r.c1;have x2:=T.out.r.c2;have x3:=T.out.c3;have x4:=T.out.c4;have x5:=T.out.c5;have y0:=R.out.c0;have y1:=R.out.c1;have y2:=R.out.c2
 go_wp2_with fail
 refine (valid_any hI _ _ _ f r.1 r.2 _ _ _ _ _ _ _ _ _ _ _ _ _ _ _ HP.out hl h9 T.out.r.hz T.out.r.hq T.out.hz T.out.hq ha hb).mono ?_
 rintro e w1 ⟨he,hb1⟩
 have he2:e=.returned (.bool V):=by rw [HV.out];exact he
 subst he2
 clear he
 clear x0 x1 x2 x3 x4 x5 y0 y1 y2
 replace HP:=Lib.hid (HP.out.below hI hb1);replace T:=Lib.hid (T.out.move hb1);replace R:=Lib.hid (R.out.move hb1);replace Hb:=Lib.hid (Hb.out.trans ((hb1).mono Hb.out.size))
 clear hb1
 cases V with
 | false =>
   have EX:=Lib.hid (show X=0 by rw [HX.out];rfl)
   go_wp2_with fail
   refine bodyPost_ret (v:=.tuple #[.int .i64 0,.int .i64 1]) (by simp [results,Tryz.results26,go_sem]) rfl ⟨by rw [EX.out];rfl,Hb.out⟩
 | true =>
   obtain ⟨wb,hwb⟩:∃ wb,wb=w1:=⟨_,rfl⟩
   obtain ⟨g1,hg1⟩:∃ g,g=w.heap.size:=⟨_,rfl⟩
   obtain ⟨g2,hg2⟩:∃ g,g=w.heap.size+1:=⟨_,rfl⟩
   rw [← hwb] at T R HP Hb ⊢
   rw [← hg1] at T
   rw [← hg2] at R
   rw [← hg2,← hg1]
   have l1:=T.out.r.lt
   have l2:=R.out.lt
   clear hwb hg1 hg2
   have x0:=T.out.r.c0;have x1:=T.out.r.c1;have x2:=T.out.r.c2;have x3:=T.out.c3;have x4:=T.out.c4;have x5:=T.out.c5;have y0:=R.out.c0;have y1:=R.out.c1;have y2:=R.out.c2
   have h0:plen f≠0:=fun h0=>by have:=HV.out;rw [vld_nil h0 2 (by omega)] at this;cases this
   have hQ:∀ x,FqB x→PoOK x.z x.q (qpart f):=fun x hx=>h9.part.at (by rw [← h9.part_t,ptrim_length];have:=h9.part_l;have:=h9.len;omega) hx.z hx.q
   have hql:(qpart f).length≤10:=by rw [← h9.part_t,ptrim_length];have:=h9.part_l;have:=h9.len;omega
   obtain ⟨Q,hQe⟩:∃ Q,Q=qpart f:=⟨_,rfl⟩
   rw [← hQe] at hQ hql
   have HQ:=Lib.hid hQ
   have HQe:=Lib.hid hQe
   have EX:=Lib.hid (show X=cmpr Q r a by rw [HX.out,hQe];rfl)
   clear h0 hQ hQe
   go_wp2_with fail
   refine wp_region_held_drew (S:=fun w'=>w'.cell? ⟨g1,0,none⟩=some (.bool n)∧w'.cell? ⟨g1,1,none⟩=some (.slice A l c)∧w'.cell? ⟨g1,2,none⟩=some (.slice B m d)∧w'.cell? ⟨g1,3,none⟩=some (.bool n')∧w'.cell? ⟨g1,4,none⟩=some (.slice A' l' c')∧w'.cell? ⟨g1,5,none⟩=some (.slice B' m' d')∧w'.cell? ⟨g2,0,none⟩=some (.bool na)∧w'.cell? ⟨g2,1,none⟩=some (.slice Aa la ca)∧w'.cell? ⟨g2,2,none⟩=some (.slice Ba ma da)) (by kernel_rfl) (by (try dsimp only);go_keep) (fun hHeld=>?_)
   (refine tk (i:=0) (v:=?_) rfl rfl (Or.inl ⟨by rfl,?_⟩) ?_;rotate_left;(focus (intro w hSw;(try dsimp only at hSw);go_simp;(try with_reducible rfl)));(simp only [put_lit,List.set]))
   (refine tk (i:=2) (v:=?_) rfl rfl (Or.inl ⟨by rfl,?_⟩) ?_;rotate_left;(focus (intro w hSw;(try dsimp only at hSw);go_simp;(try with_reducible rfl)));(simp only [put_lit,List.set]))
   (refine tk (i:=3) (v:=?_) rfl rfl (Or.inl ⟨by rfl,?_⟩) ?_;rotate_left;(focus (intro w hSw;(try dsimp only at hSw);go_simp;(try with_reducible rfl)));(simp only [put_lit,List.set]))
   (refine wpAnyH_ready (rs:=[1]) (by kernel_rfl) (by simp) ?_;refine AllReadyH.cons rfl (fun K hK=>?_) AllReadyH.nil;go_simp)
   refine (part_q hI _ _ _ f _ (HP.out.below hI Bel.go) h9.cp.fit.smp (fun _=>h9.q) (by omega)).mono ?_
   rintro e w4 ⟨A4,l4,c4,rfl,h4,hb4⟩
   rw [← HQe.out] at h4
   have hl4:l4≤10:=by have:=h4.length;omega
   have G4:=Lib.hid ((Below.trans Bel.go (hb4.mono (by simp<;>omega))):Below wb.heap.size wb w4)
   have H4:=Lib.hid h4
   obtain ⟨hcx,hfx⟩:=bcellS hb4;refine hK.out _ _ ?_ (fun _=>?_);(focus (((try dsimp only);repeat' apply And.intro)<;>(rw [hcx _ (by go_simp)];go_simp)));clear hHeld hK K hcx hfx;rename_i hHeld
   clear h4 hb4
   (refine wpAnyH_ready (rs:=[4]) (by kernel_rfl) (by simp) ?_;refine AllReadyH.cons rfl (fun K hK=>?_) AllReadyH.nil;go_simp)
   have T4:=T.out.move G4.out
   have R4:=R.out.move G4.out
   refine (compare_any ikN (r:=r) (a:=a) (H4.out.below ikN Bel.go) (by omega) HQ.out (T4.r.hz.below Bel.go) (T4.r.hq.below Bel.go) (T4.hz.below Bel.go) (T4.hq.below Bel.go) (R4.hz.below Bel.go) (R4.hq.below Bel.go) ha hb hc).mono ?_
   rintro e w5 ⟨he,hb5⟩
   have he2:e=.returned (.int .i64 X):=by rw [EX.out];exact he
   subst he2
   have G5:=Lib.hid (G4.out.trans (((Below.trans Bel.go (hb5.mono (by simp<;>omega))):Below w4.heap.size w4 w5).mono G4.out.size))
   obtain ⟨hcx,hfx⟩:=bcellS hb5;refine hK.out _ _ ?_ (fun _=>?_);(focus (((try dsimp only);repeat' apply And.intro)<;>(rw [hcx _ (by go_simp)];go_simp)));clear hHeld hK K hcx hfx;rename_i hHeld
   clear hb5 he T4 R4
   (refine tk (i:=5) (v:=?_) rfl rfl (Or.inl ⟨by rfl,?_⟩) ?_;rotate_left;(focus (intro w hSw;(try dsimp only at hSw);go_simp;(try with_reducible rfl)));(simp only [put_lit,List.set]))
   (refine tk (i:=6) (v:=?_) rfl rfl (Or.inl ⟨by rfl,?_⟩) ?_;rotate_left;(focus (intro w hSw;(try dsimp only at hSw);go_simp;(try with_reducible rfl)));(simp only [put_lit,List.set]))
   refine wpAnyH_done (by kernel_rfl) ?_ _
   replace Hb:=Lib.hid (Hb.out.trans (G5.out.mono Hb.out.size))
   clear hHeld T R HP G4 G5 H4
   clear x0 x1 x2 x3 x4 x5 y0 y1 y2
   go_wp2
   refine bodyPost_ret (v:=.tuple #[.int .i64 X,.int .i64 0]) (by simp [results,Tryz.results26,go_sem]) rfl ⟨by rfl,Hb.out⟩
end Go.Proofs.YtbfddopopajgaaaGreat
namespace Go.Proofs.YtbfddopopajgaaaGreat
open Go Go.RowKit
def RtErr (er:Int) (s:Fq×Fq) (e:Ending) (w:World):Prop :=
 ∃ n A l c B m d n' A' l' c' B' m' d',e=.returned (.tuple #[.agg #[.bool n,.slice A l c,.slice B m d,.bool n',.slice A' l' c',.slice B' m' d'],.int .i64 er])∧IntN w n A l c s.1.z∧NatN w B m d s.1.q∧IntN w n' A' l' c' s.2.z∧NatN w B' m' d' s.2.q
def z00:Fq×Fq:=(⟨0,0⟩,⟨0,0⟩)
theorem intn_zero (w:World):IntN w false none 0 0 0:=⟨NatN.zero _ _ _,by simp⟩
def nfr (r:Fq×Fq):Fq×Fq:=(r.1.nf,r.2.nf)
theorem root_err {w w9:World} {g t:Nat} {r:Fq×Fq} {n:Bool} {A:Option Addr} {l c:Nat} {B:Option Addr} {m d:Nat} {n':Bool} {A':Option Addr} {l' c':Nat} {B':Option Addr} {m' d':Nat} (er:Int) (hw:Below w.heap.size w w9) (hk:Blk w9 g t rz6) (hg:w.heap.size≤g) (hz:IntN w9 n A l c r.1.z) (hq:NatN w9 B m d r.1.q) (hz':IntN w9 n' A' l' c' r.2.z) (hq':NatN w9 B' m' d' r.2.q) :
 RtErr er r (.returned (.tuple #[.agg #[.bool n,.slice A l c,.slice B m d,.bool n',.slice A' l' c',.slice B' m' d'],.int .i64 er])) (pu6 w9 g (.bool n) (.slice A l c) (.slice B m d) (.bool n') (.slice A' l' c') (.slice B' m' d'))∧Below w.heap.size w (pu6 w9 g (.bool n) (.slice A l c) (.slice B m d) (.bool n') (.slice A' l' c') (.slice B' m' d')):=by
 have hf:=pu6_frs w9 g (.bool n) (.slice A l c) (.slice B m d) (.bool n') (.slice A' l' c') (.slice B' m' d')
 have nd:=rz6_ndb hk
 exact ⟨⟨n,A,l,c,B,m,d,n',A',l',c',B',m',d',rfl,hz.frs hf nd nd,hq.frs hf nd nd,hz'.frs hf nd nd,hq'.frs hf nd nd⟩,hf.mono hw hg hg hw.size⟩
end Go.Proofs.YtbfddopopajgaaaGreat
namespace Go.Proofs.YtbfddopopajgaaaGreat
open Go Go.RowKit
theorem ASt.nf {f:List Int} {x:Pt} {i:Nat} {s:Fq×Fq} (h:ASt f x i s):ASt f x i (nfr s)∧(nfr s).1.v=s.1.v∧(nfr s).2.v=s.2.v:=by
 have e1:(nfr s).1.v=s.1.v:=(Fq.nf_v h.d.d.1.p).1
 have e2:(nfr s).2.v=s.2.v:=(Fq.nf_v h.d.d.2.p).1
 refine ⟨⟨?_,⟨h.d.d.1.nf,h.d.d.2.nf⟩,by rw [e1,e2];exact h.d.w⟩,e1,e2⟩
 have:=h.iso
 unfold IsoV Fq.p at *
 rw [e1,e2]
 exact this
theorem Free.vals {G:List Int} {s t:Fq×Fq} (h:Free G s) (e1:t.1.v=s.1.v) (e2:t.2.v=s.2.v):Free G t:=by
 unfold Free Fq.p at *
 rw [e1,e2]
 exact h
def ApE (f g:List Int) (x:Pt) (r:Fq×Fq) (e:Ending) (w:World):Prop :=
 (sgp g x=0∧RtErr 5 z00 e w)∨(sgp g x≠0∧∃ i s,i≤NN+1∧ASt f x i s∧r.1.v≤s.1.v∧s.2.v≤r.2.v∧Free g s∧RtErr 0 s e w)
set_option maxRecDepth 100000 in
set_option maxHeartbeats 8000000 in
theorem apart_any {w:World} {Af:Option Addr} {lf cf:Nat} {f:List Int} {Ag:Option Addr} {lg cg:Nat} {g:List Int} {x:Pt} {i0:Nat} {r:Fq×Fq} {n:Bool} {A:Option Addr} {l c:Nat} {B:Option Addr} {m d:Nat} {n':Bool} {A':Option Addr} {l' c':Nat} {B':Option Addr} {m' d':Nat}
 (hf:PolyN w Af lf cf f) (s6:S6 f) (h0:plen f≠0) (hg:PolyN w Ag lg cg g) (g6:G6 g) (hz:IntN w n A l c r.1.z) (hq:NatN w B m d r.1.q) (hz':IntN w n' A' l' c' r.2.z) (hq':NatN w B' m' d' r.2.q) (hi0:i0≤NN+1) (ha:ASt f x i0 r) :
 Calls Tryz.prog 44 #[.slice Af lf cf,.agg #[.bool n,.slice A l c,.slice B m d,.bool n',.slice A' l' c',.slice B' m' d'],.slice Ag lg cg] w fun e w'=>ApE f g x r e w'∧Below w.heap.size w w':=by
 have hlf:lf≤6:=by have:=hf.length;have:=s6.len;omega
 have hlg:lg≤6:=by have:=hg.length;have:=g6.len;omega
 have hlen:=s6.len
 have o1:=below_new w (tbox n A l c B m d n' A' l' c' B' m' d')
 have o2:=below_new (w.alloc (tbox n A l c B m d n' A' l' c' B' m' d')) rtObj
 have b2:Below w.heap.size w ((w.alloc (tbox n A l c B m d n' A' l' c' B' m' d')).alloc rtObj):=o1.alloc (by simp) _
 have T:=Lib.hid ((TBox.make hz hq hz' hq').move o2)
 have K3:Blk ((w.alloc (tbox n A l c B m d n' A' l' c' B' m' d')).alloc rtObj) (w.alloc (tbox n A l c B m d n' A' l' c' B' m' d')).heap.size 44 rz6:=Blk.new _ _ _
 simp only [World.size_alloc] at K3
 have K4:=Lib.hid K3
 have HP:=Lib.hid (hf.below ikN b2)
 have HG:=Lib.hid (hg.below ikN b2)
 have Hb:=Lib.hid b2
 have h9:=s6.p9
 obtain ⟨fa,fb,_⟩:=ha.fqb h9 h0 hi0
 have HV:=Lib.hid (show vld 2 f r.1 r.2=true from (vld_iff h9 h0 fa.p fb.p).2 ⟨x,ha.iso⟩)
 have HA:=Lib.hid ha
 have H0:=Lib.hid h0
 clear hf hg hz hq hz' hq' o1 o2 b2 K3 ha h0
 obtain ⟨g1,hg1⟩:∃ g,g=w.heap.size:=⟨_,rfl⟩
 obtain ⟨g3,hg3⟩:∃ g,g=w.heap.size+1:=⟨_,rfl⟩
 obtain ⟨wb,hwb⟩:∃ wb,wb=(w.alloc (tbox n A l c B m d n' A' l' c' B' m' d')).alloc rtObj:=⟨_,rfl⟩
 go_enter Tryz.func44,Tryz.ntmps44
 have x0:=T.out.r.c0;have x1:=T.out.r.c1;have x2:=T.out.r.c2;have x3:=T.out.c3;have x4:=T.out.c4;have x5:=T.out.c5
 go_wp2_with fail
 rw [← hwb,← hg1] at T x0 x1 x2 x3 x4 x5
 rw [← hwb,← hg3] at K4
 rw [← hwb] at HP HG Hb ⊢
 rw [← hg3,← hg1]
 have Hg3:=Lib.hid (show w.heap.size≤g3 by omega)
 have ng1:g1≠g3:=by omega
 clear hwb hg1 hg3
 refine (valid_any ikN _ _ _ f r.1 r.2 _ _ _ _ _ _ _ _ _ _ _ _ _ _ _ HP.out (by omega) h9 T.out.r.hz T.out.r.hq T.out.hz T.out.hq fa fb).mono ?_
 rintro e w1 ⟨he,hb1⟩
 rw [HV.out] at he
 subst he
 clear x0 x1 x2 x3 x4 x5
 replace HP:=Lib.hid (HP.out.below ikN hb1);replace HG:=Lib.hid (HG.out.below ikN hb1);replace T:=Lib.hid (T.out.move hb1);replace K4:=Lib.hid (K4.out.below hb1 K4.out.lt);replace Hb:=Lib.hid (Hb.out.trans ((hb1).mono Hb.out.size))
 clear hb1
 go_wp2_with fail
 refine (part_q ikN _ _ _ f _ HP.out h9.cp.fit.smp (fun _=>h9.q) (by omega)).mono ?_
 rintro e w2 ⟨A2,l2,c2,rfl,h2,hb2⟩
 have HQ:=Lib.hid h2
 replace HP:=Lib.hid (HP.out.below ikN hb2);replace HG:=Lib.hid (HG.out.below ikN hb2);replace T:=Lib.hid (T.out.move hb2);replace K4:=Lib.hid (K4.out.below hb2 K4.out.lt);replace Hb:=Lib.hid (Hb.out.trans ((hb2).mono Hb.out.size))
 clear h2 hb2
 have x0:=T.out.r.c0;have x1:=T.out.r.c1;have x2:=T.out.r.c2;have x3:=T.out.c3;have x4:=T.out.c4;have x5:=T.out.c5
 go_wp2_with fail
 refine (zeroat_any (r:=r) HQ.out s6 H0.out HG.out g6 T.out.r.hz T.out.r.hq T.out.hz T.out.hq fa fb HA.out.iso).mono ?_
 rintro e w3 ⟨rfl,hb3⟩
 clear x0 x1 x2 x3 x4 x5
 replace HQ:=Lib.hid (HQ.out.below ikN hb3)
 replace HP:=Lib.hid (HP.out.below ikN hb3);replace HG:=Lib.hid (HG.out.below ikN hb3);replace T:=Lib.hid (T.out.move hb3);replace K4:=Lib.hid (K4.out.below hb3 K4.out.lt);replace Hb:=Lib.hid (Hb.out.trans ((hb3).mono Hb.out.size))
 clear hb3
 by_cases c0:sgp g x=0
 ·rw [decide_eq_true c0]
  have HC:=Lib.hid c0
  have FX:=Lib.hid (root_err (r:=z00) 5 Hb.out K4.out Hg3.out (intn_zero _) (NatN.zero _ none 0) (intn_zero _) (NatN.zero _ none 0))
  have r0:=(K4.out.cell 0).trans rfl;have r1:=(K4.out.cell 1).trans rfl;have r2:=(K4.out.cell 2).trans rfl;have r3:=(K4.out.cell 3).trans rfl;have r4:=(K4.out.cell 4).trans rfl;have r5:=(K4.out.cell 5).trans rfl;have s0:=K4.out.frozen 0;have s1:=K4.out.frozen 1;have s2:=K4.out.frozen 2;have s3:=K4.out.frozen 3;have s4:=K4.out.frozen 4;have s5:=K4.out.frozen 5
  clear c0 T HP HG HQ K4 Hb
  go_wp2_with fail
  refine bodyPost_ret (v:=.tuple #[.agg rz6,.int .i64 5]) (by simp [results,Tryz.results44,go_sem,r0,r1,r2,r3,r4,r5]) rfl ⟨.inl ⟨HC.out,FX.out.1⟩,FX.out.2⟩
 ·rw [decide_eq_false c0]
  have gx:sgp g x≠0:=c0
  have HC:=Lib.hid c0
  clear c0
  have x0:=T.out.r.c0;have x1:=T.out.r.c1;have x2:=T.out.r.c2;have x3:=T.out.c3;have x4:=T.out.c4;have x5:=T.out.c5
  go_wp2_with fail
  refine (away_any (r:=r) HQ.out s6 H0.out HG.out g6 gx T.out.r.hz T.out.r.hq T.out.hz T.out.hq hi0 HA.out).mono ?_
  rintro e w4 ⟨⟨i,s,hi,hs,k1,k2,hfr,n4,A4,l4,c4,B4,m4,d4,n5,A5,l5,c5,B5,m5,d5,rfl,z1,z2,z3,z4⟩,hb4⟩
  clear x0 x1 x2 x3 x4 x5
  obtain ⟨fc,fd,_⟩:=hs.fqb h9 H0.out hi
  obtain ⟨hn,hv1,hv2⟩:=hs.nf
  have Z:=Lib.hid (And.intro (And.intro z1 z2) (And.intro z3 z4))
  have HE:=Lib.hid (show r.1.v≤(nfr s).1.v∧(nfr s).2.v≤r.2.v∧Free g (nfr s) from ⟨by rw [hv1];exact k1,by rw [hv2];exact k2,hfr.vals hv1 hv2⟩)
  have HN:=Lib.hid hn
  have HI:=Lib.hid hi
  replace HP:=Lib.hid (HP.out.below ikN hb4);replace HG:=Lib.hid (HG.out.below ikN hb4);replace T:=Lib.hid (T.out.move hb4);replace K4:=Lib.hid (K4.out.below hb4 K4.out.lt);replace Hb:=Lib.hid (Hb.out.trans ((hb4).mono Hb.out.size))
  clear z1 z2 z3 z4 hb4 hs hfr hi HQ gx k1 k2 hn hv1 hv2
  go_wp2_with fail
  refine (rcopy_any (r:=s) Z.out.1.1 Z.out.1.2 Z.out.2.1 Z.out.2.2 fc fd).mono ?_
  rintro e w5 ⟨⟨n7,A7,l7,c7,B7,m7,d7,n8,A8,l8,c8,B8,m8,d8,rfl,z1,z2,z3,z4⟩,hb5⟩
  replace HP:=Lib.hid (HP.out.below ikN hb5);replace HG:=Lib.hid (HG.out.below ikN hb5);replace T:=Lib.hid (T.out.move hb5);replace K4:=Lib.hid (K4.out.below hb5 K4.out.lt);replace Hb:=Lib.hid (Hb.out.trans ((hb5).mono Hb.out.size))
  have FX:=Lib.hid (root_err (r:=nfr s) 0 Hb.out K4.out Hg3.out z1 z2 z3 z4)
  have r0:=(K4.out.cell 0).trans rfl;have r1:=(K4.out.cell 1).trans rfl;have r2:=(K4.out.cell 2).trans rfl;have r3:=(K4.out.cell 3).trans rfl;have r4:=(K4.out.cell 4).trans rfl;have r5:=(K4.out.cell 5).trans rfl;have s0:=K4.out.frozen 0;have s1:=K4.out.frozen 1;have s2:=K4.out.frozen 2;have s3:=K4.out.frozen 3;have s4:=K4.out.frozen 4;have s5:=K4.out.frozen 5
  clear z1 z2 z3 z4 hb5 Z T HP HG K4 Hb
  go_wp2_with fail
  refine bodyPost_ret (v:=.tuple #[.agg #[.bool n7,.slice A7 l7 c7,.slice B7 m7 d7,.bool n8,.slice A8 l8 c8,.slice B8 m8 d8],.int .i64 0]) (by simp [results,Tryz.results44,go_sem,r0,r1,r2,r3,r4,r5]) rfl ⟨.inr ⟨HC.out,i,nfr s,HI.out,HN.out,HE.out.1,HE.out.2.1,HE.out.2.2,FX.out.1⟩,FX.out.2⟩
end Go.Proofs.YtbfddopopajgaaaGreat
namespace Go.Proofs.YtbfddopopajgaaaGreat
open Go Go.RowKit
theorem w2_atR (w:World):I64At (w.alloc (.cells #[.int .i64 (-2),.int .i64 0,.int .i64 1] 2)) (some ⟨w.heap.size,0,none⟩) 3 3 w2:=by
 refine ⟨rfl,by omega,.inr ⟨w.heap.size,0,rfl,by simp,fun j hj=>?_⟩⟩
 match j,hj with
 | 0,_=>simp [w2]
 | 1,_=>simp [w2]
 | 2,_=>simp [w2]
theorem w2_trimR:ptrim w2=w2:=by decide
def SqE (e:Ending) (w:World):Prop:=∃ Ap lp cp n A l c B m d n' A' l' c' B' m' d',e=.returned (.tuple #[.slice Ap lp cp,.agg #[.bool n,.slice A l c,.slice B m d,.bool n',.slice A' l' c',.slice B' m' d']])∧PolyN w Ap lp cp w2∧IntN w n A l c 1∧NatN w B m d 1∧IntN w n' A' l' c' 2∧NatN w B' m' d' 1
theorem root_poly {w w':World} {g t:Nat} {A:Option Addr} {l c:Nat} {p:List Int} (hp:PolyN w A l c p) (hl:2≤p.length) (hk:Blk w g t rz6) (hf:FrS g g w w'):PolyN w' A l c p:=by
 refine PolyG.frs (g:=g) (g':=g) ⟨hp,?_⟩ hf (rz6_ndb hk) (rz6_ndb hk)
 have hlen:=hp.length
 rcases hp.elems with h0 | ⟨b,o,hA,hlt,he⟩
 ·exact .inl h0
 ·refine .inr ⟨b,o,hA,?_⟩
  have hne:b≠g:=fun e=>by
   subst e
   obtain ⟨_,_,_,_,f1,_,_⟩:=he 0 (by omega)
   obtain ⟨_,_,_,_,f2,_,_⟩:=he 1 (by omega)
   rw [hk.cell] at f1 f2
   match o,f1,f2 with
   | 0,_,f2=>simp at f2
   | 1,f1,_=>simp at f1
   | 2,f1,_=>simp at f1
   | 3,_,f2=>simp at f2
   | 4,f1,_=>simp at f1
   | 5,f1,_=>simp at f1
   | o+6,f1,_=>simp at f1
  exact ⟨hne,hne⟩
set_option maxRecDepth 100000 in
set_option maxHeartbeats 4000000 in
theorem sqrt2_any (w:World):Calls Tryz.prog 57 #[] w fun e w'=>SqE e w'∧Below w.heap.size w w':=by
 have o1:=below_new w rtObj
 have K3:Blk (w.alloc rtObj) w.heap.size 44 rz6:=Blk.new _ _ _
 have jb:=below_new (w.alloc rtObj) (.cells #[.int .i64 (-2),.int .i64 0,.int .i64 1] 2)
 have hat:=w2_atR (w.alloc rtObj)
 have Hb:=Lib.hid (o1.trans (jb.mono o1.size))
 have K4:=Lib.hid (K3.below jb K3.lt)
 obtain ⟨g3,hg3⟩:∃ g,g=w.heap.size:=⟨_,rfl⟩
 rw [← hg3] at K4
 have Hg:=Lib.hid (show w.heap.size≤g3 by omega)
 have HG3:=Lib.hid hg3
 clear o1 jb K3 hg3
 go_enter Tryz.func57,Tryz.ntmps57
 go_wp2_with fail
 refine (pof_any _ _ _ _ _ (by first | exact hat | simpa using hat) (by intro c hc;simp [w2] at hc;rcases hc with rfl | rfl | rfl<;>(unfold I64;omega)) (by omega)).mono ?_
 rintro e w1 ⟨A1,l1,c1,rfl,h1,hb1⟩
 rw [w2_trimR] at h1
 have HP:=Lib.hid h1
 replace K4:=Lib.hid (K4.out.below hb1 K4.out.lt)
 replace Hb:=Lib.hid (Hb.out.trans (hb1.mono Hb.out.size))
 clear hb1 h1 hat
 go_wp2_with fail
 refine (rof_any 1 _ (by unfold I64;omega)).mono ?_
 rintro e w2' ⟨⟨n2,A2,l2,c2,B2,m2,d2,rfl,h2,k2⟩,hb2⟩
 have H2:=Lib.hid (And.intro h2 k2)
 replace HP:=Lib.hid (HP.out.below ikN hb2)
 replace K4:=Lib.hid (K4.out.below hb2 K4.out.lt)
 replace Hb:=Lib.hid (Hb.out.trans (hb2.mono Hb.out.size))
 clear hb2 h2 k2
 go_wp2_with fail
 refine (rof_any 2 _ (by unfold I64;omega)).mono ?_
 rintro e w3 ⟨⟨n3,A3,l3,c3,B3,m3,d3,rfl,h3,k3⟩,hb3⟩
 replace H2:=Lib.hid (And.intro (H2.out.1.below hb3) (H2.out.2.below hb3))
 replace HP:=Lib.hid (HP.out.below ikN hb3)
 replace K4:=Lib.hid (K4.out.below hb3 K4.out.lt)
 replace Hb:=Lib.hid (Hb.out.trans (hb3.mono Hb.out.size))
 have hf:=pu6_frs w3 g3 (.bool n2) (.slice A2 l2 c2) (.slice B2 m2 d2) (.bool n3) (.slice A3 l3 c3) (.slice B3 m3 d3)
 have nd:=rz6_ndb K4.out
 have hpg:PolyN (pu6 w3 g3 (.bool n2) (.slice A2 l2 c2) (.slice B2 m2 d2) (.bool n3) (.slice A3 l3 c3) (.slice B3 m3 d3)) A1 l1 c1 w2:=root_poly HP.out (by decide) K4.out hf
 have FX:=Lib.hid (And.intro (show SqE (.returned (.tuple #[.slice A1 l1 c1,.agg #[.bool n2,.slice A2 l2 c2,.slice B2 m2 d2,.bool n3,.slice A3 l3 c3,.slice B3 m3 d3]])) _ from ⟨_,_,_,_,_,_,_,_,_,_,_,_,_,_,_,_,_,rfl,hpg,H2.out.1.frs hf nd nd,H2.out.2.frs hf nd nd,h3.frs hf nd nd,k3.frs hf nd nd⟩) (hf.mono Hb.out Hg.out Hg.out Hb.out.size))
 rw [← HG3.out]
 have r0:=(K4.out.cell 0).trans rfl;have r1:=(K4.out.cell 1).trans rfl;have r2:=(K4.out.cell 2).trans rfl;have r3:=(K4.out.cell 3).trans rfl;have r4:=(K4.out.cell 4).trans rfl;have r5:=(K4.out.cell 5).trans rfl;have s0:=K4.out.frozen 0;have s1:=K4.out.frozen 1;have s2:=K4.out.frozen 2;have s3:=K4.out.frozen 3;have s4:=K4.out.frozen 4;have s5:=K4.out.frozen 5
 clear hb3 h3 k3 hf nd hpg K4 Hb H2 HP
 go_wp2
 refine bodyPost_ret (v:=.tuple #[.slice A1 l1 c1,.agg #[.bool n2,.slice A2 l2 c2,.slice B2 m2 d2,.bool n3,.slice A3 l3 c3,.slice B3 m3 d3]]) (by simp [results,Tryz.results57,go_sem,r0,r1,r2,r3,r4,r5]) rfl FX.out
theorem p9_one:FqB ⟨1,1⟩:=⟨Nat.one_pos,Nat.le_trans (by decide) zb_128,Nat.le_trans (by decide) zb_128⟩
theorem p9_two:FqB ⟨2,1⟩:=⟨Nat.one_pos,Nat.le_trans (by decide) zb_128,Nat.le_trans (by decide) zb_128⟩
theorem sq_count:fcount w2 ⟨1,1⟩ ⟨2,1⟩=1:=by
 unfold fcount ncount
 rw [if_pos (by decide)]
 unfold nint
 rw [← vat_eq (z:=1) (q:=1) Nat.one_pos,← vat_eq (z:=2) (q:=1) Nat.one_pos]
 decide +kernel
theorem sq_vld:vld 2 w2 ⟨1,1⟩ ⟨2,1⟩=true:=by
 unfold vld
 rw [if_neg (by decide),if_pos (by decide),if_neg (by decide +kernel),if_neg (by decide +kernel),sq_count]
 rfl
theorem sq_cmp:cmpV w2 (⟨1,1⟩,⟨2,1⟩) ⟨1,1⟩=1:=by
 unfold cmpV
 rw [sq_vld]
 show cmpr _ _ _=1
 unfold cmpr
 rw [if_neg (by decide),if_pos (by decide)]
set_option maxHeartbeats 1000000 in
theorem awake18_any (w:World):Calls Tryz.prog 21 #[] w fun e w'=>e=.returned (.bool true)∧Below w.heap.size w w':=by
 go_enter Tryz.func21,Tryz.ntmps21
 go_wp2_with fail
 refine (sqrt2_any _).mono ?_
 rintro e w1 ⟨⟨Ap,lp,cp,n,A,l,c,B,m,d,n',A',l',c',B',m',d',rfl,hp,hz,hq,hz',hq'⟩,hb1⟩
 have T0:=TBox.make hz hq hz' hq'
 have jb:=below_new w1 (tbox n A l c B m d n' A' l' c' B' m' d')
 have T:=Lib.hid T0
 have HP:=Lib.hid (hp.below ikN jb)
 have Hb:=Lib.hid (hb1.trans (jb.mono hb1.size))
 obtain ⟨wb,hwb⟩:∃ wb,wb=w1.alloc (tbox n A l c B m d n' A' l' c' B' m' d'):=⟨_,rfl⟩
 obtain ⟨g1,hg1⟩:∃ g,g=w1.heap.size:=⟨_,rfl⟩
 clear hb1 jb T0 hp hz hq hz' hq'
 go_wp2_with fail
 rw [← hwb,← hg1] at T
 rw [← hwb] at HP Hb ⊢
 rw [← hg1]
 have l1:=T.out.r.lt
 clear hwb hg1
 have x0:=T.out.r.c0;have x1:=T.out.r.c1;have x2:=T.out.r.c2;have x3:=T.out.c3;have x4:=T.out.c4;have x5:=T.out.c5
 refine wp_region_held_drew (S:=fun w'=>w'.cell? ⟨g1,0,none⟩=some (.bool n)∧w'.cell? ⟨g1,1,none⟩=some (.slice A l c)∧w'.cell? ⟨g1,2,none⟩=some (.slice B m d)∧w'.cell? ⟨g1,3,none⟩=some (.bool n')∧w'.cell? ⟨g1,4,none⟩=some (.slice A' l' c')∧w'.cell? ⟨g1,5,none⟩=some (.slice B' m' d')) (by kernel_rfl) (by (try dsimp only);go_keep) (fun hHeld=>?_)
 (refine tk (i:=0) (v:=?_) rfl rfl (Or.inl ⟨by rfl,?_⟩) ?_;rotate_left;(focus (intro w hSw;(try dsimp only at hSw);go_simp;(try with_reducible rfl)));(simp only [put_lit,List.set]))
 (refine tk (i:=1) (v:=?_) rfl rfl (Or.inl ⟨by rfl,?_⟩) ?_;rotate_left;(focus (intro w hSw;(try dsimp only at hSw);go_simp;(try with_reducible rfl)));(simp only [put_lit,List.set]))
 refine wpAnyH_ready (rs:=[2]) (by kernel_rfl) (by simp) ?_
 refine AllReadyH.cons rfl (fun K hK=>?_) AllReadyH.nil;go_simp
 refine (rof_any 1 _ (by unfold I64;omega)).mono ?_
 rintro e w4 ⟨⟨n4,A4,l4,c4,B4,m4,d4,rfl,h4,k4⟩,hb4⟩
 have G4:=Lib.hid ((Below.trans Bel.go (hb4.mono (by simp<;>omega))):Below wb.heap.size wb w4)
 have H4:=Lib.hid (And.intro h4 k4)
 obtain ⟨hcx,hfx⟩:=bcellS hb4
 refine hK.out _ _ ?_ (fun _=>?_)
 ·((try dsimp only);repeat' apply And.intro)<;>(rw [hcx _ (by go_simp)];go_simp)
 clear hHeld hK K hcx hfx;rename_i hHeld
 clear h4 k4 hb4
 refine wpAnyH_ready (rs:=[3]) (by kernel_rfl) (by simp) ?_
 refine AllReadyH.cons rfl (fun K hK=>?_) AllReadyH.nil;go_simp
 have T4:=T.out.move G4.out
 refine (rcmpr_any ikN (f:=w2) (r:=(⟨1,1⟩,⟨2,1⟩)) (a:=⟨1,1⟩) ((HP.out.below ikN G4.out).below ikN Bel.go) (by decide) p9_w2 (T4.r.hz.below Bel.go) (T4.r.hq.below Bel.go) (T4.hz.below Bel.go) (T4.hq.below Bel.go) (H4.out.1.below Bel.go) (H4.out.2.below Bel.go) p9_one p9_two p9_one).mono ?_
 rintro e w5 ⟨he,hb5⟩
 rw [sq_cmp,show vld 2 w2 (⟨1,1⟩:Fq) ⟨2,1⟩=true from sq_vld] at he
 have he2:e=.returned (.tuple #[.int .i64 1,.int .i64 0]):=he
 subst he2
 have G5:=Lib.hid (G4.out.trans (((Below.trans Bel.go (hb5.mono (by simp<;>omega))):Below w4.heap.size w4 w5).mono G4.out.size))
 obtain ⟨hcx,hfx⟩:=bcellS hb5
 refine hK.out _ _ ?_ (fun _=>?_)
 ·((try dsimp only);repeat' apply And.intro)<;>(rw [hcx _ (by go_simp)];go_simp)
 clear hHeld hK K hcx hfx;rename_i hHeld
 clear hb5 he T4
 (refine tk (i:=4) (v:=?_) rfl rfl (Or.inl ⟨by rfl,?_⟩) ?_;rotate_left;(focus (intro w hSw;(try dsimp only at hSw);go_simp;(try with_reducible rfl)));(simp only [put_lit,List.set]))
 (refine tk (i:=5) (v:=?_) rfl rfl (Or.inl ⟨by rfl,?_⟩) ?_;rotate_left;(focus (intro w hSw;(try dsimp only at hSw);go_simp;(try with_reducible rfl)));(simp only [put_lit,List.set]))
 (refine tk (i:=6) (v:=?_) rfl rfl (Or.inl ⟨by rfl,?_⟩) ?_;rotate_left;(focus (intro w hSw;(try dsimp only at hSw);go_simp;(try with_reducible rfl)));(simp only [put_lit,List.set]))
 (refine tk (i:=7) (v:=?_) rfl rfl (Or.inl ⟨by rfl,?_⟩) ?_;rotate_left;(focus (intro w hSw;(try dsimp only at hSw);go_simp;(try with_reducible rfl)));(simp only [put_lit,List.set]))
 (refine tk (i:=8) (v:=?_) rfl rfl (Or.inl ⟨by rfl,?_⟩) ?_;rotate_left;(focus (intro w hSw;(try dsimp only at hSw);go_simp;(try with_reducible rfl)));(simp only [put_lit,List.set]))
 refine wpAnyH_done (by kernel_rfl) ?_ _
 replace Hb:=Lib.hid (Hb.out.trans (G5.out.mono Hb.out.size))
 clear hHeld x0 x1 x2 x3 x4 x5 T HP G4 G5 H4
 go_wp2
 go_ret
 exact ⟨by first | rfl | simp,Hb.out⟩
def PickE (rs:List (Fq×Fq)) (k:Nat) (e:Ending) (w:World):Prop :=
 (rs.length=0∧e=.returned (.tuple #[.agg rz6,.bool false])) ∨
 (0<rs.length∧∃ n A l c B m d n' A' l' c' B' m' d',e=.returned (.tuple #[.agg #[.bool n,.slice A l c,.slice B m d,.bool n',.slice A' l' c',.slice B' m' d'],.bool true])∧IntN w n A l c (rs.getD (k % rs.length) r00).1.z∧NatN w B m d (rs.getD (k % rs.length) r00).1.q∧IntN w n' A' l' c' (rs.getD (k % rs.length) r00).2.z∧NatN w B' m' d' (rs.getD (k % rs.length) r00).2.q)
set_option maxRecDepth 100000 in
set_option maxHeartbeats 4000000 in
theorem pick_any {I:IntPred} (hI:IK I) {w:World} {Af:Option Addr} {lf cf:Nat} {f:List Int} {k:Nat} (hf:PolyP I w Af lf cf f) (hl:f.length≤10) (h9:P9 f) (hk:k≤255) :
 Calls Tryz.prog 22 #[.slice Af lf cf,.int .u8 (k:Int)] w fun e w'=>PickE (proots f) k e w'∧Below w.heap.size w w':=by
 have hlf:lf≤10:=by have:=hf.length;omega
 have o1:=below_new w rtObj
 have K3:Blk (w.alloc rtObj) w.heap.size 44 rz6:=Blk.new _ _ _
 have HP:=Lib.hid (hf.below hI o1)
 have Hb:=Lib.hid o1
 have K4:=Lib.hid K3
 have hn9:=proots_le9 h9
 obtain ⟨RS,hRS⟩:∃ R,R=proots f:=⟨_,rfl⟩
 rw [← hRS] at hn9 ⊢
 have HRS:=Lib.hid hRS
 obtain ⟨g3,hg3⟩:∃ g,g=w.heap.size:=⟨_,rfl⟩
 have HG3:=Lib.hid hg3
 have Hg:=Lib.hid (show w.heap.size≤g3 by omega)
 rw [← hg3] at K4
 have i1:IntKind.i64.wrap (k:Int)=(k:Int):=IntWalk.i64_in _ (by omega)
 clear hf o1 K3 hRS hg3
 go_enter Tryz.func22,Tryz.ntmps22
 go_wp2_with fail
 refine (roots_any hI _ _ _ f _ HP.out h9.cp.fit.smp (fun _=>h9.q) (fun h=>SqF.of9 h9 h) (by omega)).mono ?_
 rintro e w1 ⟨⟨A1,l1,c1,rfl,h1⟩,hb1⟩
 rw [← HRS.out] at h1
 have hl1:l1=RS.length:=h1.length.symm
 have HR:=Lib.hid h1
 replace K4:=Lib.hid (K4.out.below hb1 K4.out.lt)
 replace Hb:=Lib.hid (Hb.out.trans (hb1.mono Hb.out.size))
 clear hb1 h1 HP
 by_cases h0:l1=0
 ·subst h0
  have FX:=Lib.hid hl1
  have nd:=rz6_ndb K4.out
  have hf:=pu6_frs w1 g3 (.bool false) (.slice none 0 0) (.slice none 0 0) (.bool false) (.slice none 0 0) (.slice none 0 0)
  have Hb2:=Lib.hid (hf.mono Hb.out Hg.out Hg.out Hb.out.size)
  rw [← HG3.out]
  have r0:=(K4.out.cell 0).trans rfl;have r1:=(K4.out.cell 1).trans rfl;have r2:=(K4.out.cell 2).trans rfl;have r3:=(K4.out.cell 3).trans rfl;have r4:=(K4.out.cell 4).trans rfl;have r5:=(K4.out.cell 5).trans rfl;have s0:=K4.out.frozen 0;have s1:=K4.out.frozen 1;have s2:=K4.out.frozen 2;have s3:=K4.out.frozen 3;have s4:=K4.out.frozen 4;have s5:=K4.out.frozen 5
  clear K4 Hb nd hf HR hl1
  go_wp2
  refine bodyPost_ret (v:=.tuple #[.agg rz6,.bool false]) (by simp [results,Tryz.results22,go_sem,r0,r1,r2,r3,r4,r5]) rfl ⟨.inl ⟨FX.out.symm,rfl⟩,Hb2.out⟩
 ·have g1:((l1:Int) == 0)=false:=by rw [beq_eq_false_iff_ne];omega
  have g2:(l1:Int)≠0:=by omega
  have hlt:k % RS.length<RS.length:=Nat.mod_lt _ (by omega)
  obtain ⟨j,hj⟩:∃ j,j=k % RS.length:=⟨_,rfl⟩
  have hjl:j<RS.length:=by rw [hj];exact hlt
  have em:Int.tmod (k:Int) (l1:Int)=(j:Int):=by rw [hj,hl1];exact Int.ofNat_tmod _ _
  have i2:IntKind.i64.wrap (j:Int)=(j:Int):=IntWalk.i64_in _ (by omega)
  have ja:(j:Int)<(l1:Int):=by omega
  obtain ⟨b,o,rfl,hb0,hv⟩:∃ b o,A1=some ⟨b,o,none⟩∧b<w1.heap.size∧Vals w1 b o RS:=by
   rcases HR.out.elems with ⟨h,_⟩ | h
   ·omega
   ·exact h
  obtain ⟨n,A,l,c,B,m,d,n',A',l',c',B',m',d',e0,e1,e2,e3,e4,e5,z1,z2,z3,z4⟩:=hv.getv hjl
  have hf:=pu6_frs w1 g3 (.bool n) (.slice A l c) (.slice B m d) (.bool n') (.slice A' l' c') (.slice B' m' d')
  have nd:=rz6_ndb K4.out
  have FX:=Lib.hid (show PickE RS k (.returned (.tuple #[.agg #[.bool n,.slice A l c,.slice B m d,.bool n',.slice A' l' c',.slice B' m' d'],.bool true])) (pu6 w1 g3 (.bool n) (.slice A l c) (.slice B m d) (.bool n') (.slice A' l' c') (.slice B' m' d')) from .inr ⟨by omega,_,_,_,_,_,_,_,_,_,_,_,_,_,_,rfl,by rw [← hj];exact z1.frs hf nd nd,by rw [← hj];exact z2.frs hf nd nd,by rw [← hj];exact z3.frs hf nd nd,by rw [← hj];exact z4.frs hf nd nd⟩)
  have Hb2:=Lib.hid (hf.mono Hb.out Hg.out Hg.out Hb.out.size)
  rw [← HG3.out]
  have r0:=(K4.out.cell 0).trans rfl;have r1:=(K4.out.cell 1).trans rfl;have r2:=(K4.out.cell 2).trans rfl;have r3:=(K4.out.cell 3).trans rfl;have r4:=(K4.out.cell 4).trans rfl;have r5:=(K4.out.cell 5).trans rfl;have s0:=K4.out.frozen 0;have s1:=K4.out.frozen 1;have s2:=K4.out.frozen 2;have s3:=K4.out.frozen 3;have s4:=K4.out.frozen 4;have s5:=K4.out.frozen 5
  clear K4 Hb nd hf HR hv z1 z2 z3 z4 hj hlt h0 hl1
  go_wp2_with fail
  refine bodyPost_ret (v:=.tuple #[.agg #[.bool n,.slice A l c,.slice B m d,.bool n',.slice A' l' c',.slice B' m' d'],.bool true]) (by simp [results,Tryz.results22,go_sem,r0,r1,r2,r3,r4,r5]) rfl ⟨FX.out,Hb2.out⟩
end Go.Proofs.YtbfddopopajgaaaGreat
namespace Go.Proofs.YtbfddopopajgaaaGreat
open Go.RowKit
def Fq.add (a b:Fq):Fq:=⟨(a.z*(b.q:Int)+b.z*(a.q:Int)).tdiv (Nat.gcd (a.z*(b.q:Int)+b.z*(a.q:Int)).natAbs (a.q*b.q)),a.q*b.q / Nat.gcd (a.z*(b.q:Int)+b.z*(a.q:Int)).natAbs (a.q*b.q)⟩
structure Sz (k:Nat) (a:Fq):Prop where
 p:0<a.q
 z:a.z.natAbs≤BB^k
 q:a.q≤BB^k
section
variable {a b:Fq} {j k:Nat}
theorem Sz.fz (h:Sz k a) (hk:k<FW):Fit a.z:=Nat.lt_of_le_of_lt h.z (Nat.pow_lt_pow_right (by rw [BB_eq];decide) hk)
theorem Sz.fq (h:Sz k a) (hk:k<FW):Fit (a.q:Int):=by
 unfold Fit
 rw [Int.natAbs_natCast]
 exact Nat.lt_of_le_of_lt h.q (Nat.pow_lt_pow_right (by rw [BB_eq];decide) hk)
theorem sz_le {Z D j k:Nat} (h1:Z≤BB^j) (h2:D≤BB^k):Z*D≤BB^(j+k):=by
 rw [Nat.pow_add]
 exact Nat.mul_le_mul h1 h2
theorem Sz.red (z:Int) (q:Nat) (h0:0<q) (hz:z.natAbs≤BB^k) (hq:q≤BB^k):Sz k ⟨rz z q,rq z q⟩:=by
 refine ⟨(nf_v (z:=z) h0).2.1,?_,?_⟩
 ·show (rz z q).natAbs≤_
  unfold rz
  rw [Int.natAbs_tdiv]
  exact Nat.le_trans (Nat.div_le_self _ _) hz
 ·show rq z q≤_
  unfold rq
  exact Nat.le_trans (Nat.div_le_self _ _) hq
theorem Sz.two (ha:Sz j a) (hb:Sz k b):(a.z*(b.q:Int)).natAbs+(b.z*(a.q:Int)).natAbs≤BB^(j+k+1)∧a.q*b.q≤BB^(j+k+1):=by
 have h1:=sz_le ha.z hb.q
 have h2:=sz_le hb.z ha.q
 have h3:=sz_le ha.q hb.q
 rw [Nat.add_comm k j] at h2
 have h4:2*BB^(j+k)≤BB^(j+k+1):=by
  rw [Nat.pow_succ,Nat.mul_comm]
  exact Nat.mul_le_mul_left _ (by rw [BB_eq];decide)
 rw [Int.natAbs_mul,Int.natAbs_mul,Int.natAbs_natCast,Int.natAbs_natCast]
 omega
theorem Sz.add (ha:Sz j a) (hb:Sz k b):Sz (j+k+1) (a.add b):=by
 obtain ⟨h1,h2⟩:=ha.two hb
 exact Sz.red _ _ (Nat.mul_pos ha.p hb.p) (by omega) h2
end
end Go.Proofs.YtbfddopopajgaaaGreat
namespace Go.Proofs.YtbfddopopajgaaaGreat
open Go Go.RowKit
section
variable {w:World} {r:Fq×Fq} {n:Bool} {A:Option Addr} {l c:Nat} {B:Option Addr} {m d:Nat} {n':Bool} {A':Option Addr} {l' c':Nat} {B':Option Addr} {m' d':Nat}
def wthn (f:List Int) (a r:Fq×Fq):Prop:=vld 1 f a.1 a.2=true∧fcmp r.1 a.1≤0∧fcmp a.2 r.2≤0
variable {s:Fq×Fq} {n₂:Bool} {A₂:Option Addr} {l₂ c₂:Nat} {B₂:Option Addr} {m₂ d₂:Nat} {n₃:Bool} {A₃:Option Addr} {l₃ c₃:Nat} {B₃:Option Addr} {m₃ d₃:Nat}
set_option maxRecDepth 100000 in
set_option maxHeartbeats 4000000 in
theorem within_any {I:IntPred} (hI:IK I) {Af:Option Addr} {lf cf:Nat} {f:List Int} (hf:PolyP I w Af lf cf f) (hl:f.length≤10) (h9:P9 f)
 (hz:IntN w n A l c r.1.z) (hq:NatN w B m d r.1.q) (hz':IntN w n' A' l' c' r.2.z) (hq':NatN w B' m' d' r.2.q) (hs1:IntN w n₂ A₂ l₂ c₂ s.1.z) (hs2:NatN w B₂ m₂ d₂ s.1.q) (hs3:IntN w n₃ A₃ l₃ c₃ s.2.z) (hs4:NatN w B₃ m₃ d₃ s.2.q) (ha:FqB r.1) (hb:FqB r.2) (hc:FqB s.1) (hd:FqB s.2) (hw:wthn f r s) :
 Calls Tryz.prog 31 #[.slice Af lf cf,.agg #[.bool n,.slice A l c,.slice B m d,.bool n',.slice A' l' c',.slice B' m' d'],.agg #[.bool n₂,.slice A₂ l₂ c₂,.slice B₂ m₂ d₂,.bool n₃,.slice A₃ l₃ c₃,.slice B₃ m₃ d₃]] w fun e w'=>e=.returned (.bool true)∧Below w.heap.size w w':=by
 have o1:=below_new w (tbox n A l c B m d n' A' l' c' B' m' d')
 have o2:=below_new (w.alloc (tbox n A l c B m d n' A' l' c' B' m' d')) (tbox n₂ A₂ l₂ c₂ B₂ m₂ d₂ n₃ A₃ l₃ c₃ B₃ m₃ d₃)
 have b2:Below w.heap.size w ((w.alloc (tbox n A l c B m d n' A' l' c' B' m' d')).alloc (tbox n₂ A₂ l₂ c₂ B₂ m₂ d₂ n₃ A₃ l₃ c₃ B₃ m₃ d₃)):=o1.alloc (by simp) _
 have T:=Lib.hid ((TBox.make hz hq hz' hq').move o2)
 have s4:=TBox.make (hs1.below o1) (hs2.below o1) (hs3.below o1) (hs4.below o1)
 simp only [World.size_alloc] at s4
 have S:=Lib.hid s4
 have HP:=Lib.hid (hf.below hI b2)
 have Hb:=Lib.hid b2
 have p1:=ha.p
 have p2:=hb.p
 have p3:=hc.p
 have p4:=hd.p
 obtain ⟨C1,hC1⟩:∃ C,C=fcmp s.1 r.1:=⟨_,rfl⟩
 obtain ⟨C2,hC2⟩:∃ C,C=fcmp r.2 s.2:=⟨_,rfl⟩
 obtain ⟨hw1,hw2,hw3⟩:=hw
 rw [← hC1] at hw2
 rw [← hC2] at hw3
 have g1:decide (C1≤0)=true:=decide_eq_true hw2
 have g2:decide (C2≤0)=true:=decide_eq_true hw3
 have HW:=Lib.hid hw1
 have HC1:=Lib.hid hC1
 have HC2:=Lib.hid hC2
 clear hz hq hz' hq' hs1 hs2 hs3 hs4 o1 o2 b2 s4 hf hw1 hw2 hw3 hC1 hC2
 go_enter Tryz.func31,Tryz.ntmps31
 have x0:=T.out.r.c0;have x1:=T.out.r.c1;have x2:=T.out.r.c2;have x3:=T.out.c3;have x4:=T.out.c4;have x5:=T.out.c5
 have y0:=S.out.r.c0;have y1:=S.out.r.c1;have y2:=S.out.r.c2;have y3:=S.out.c3;have y4:=S.out.c4;have y5:=S.out.c5
 go_wp2_with fail
 refine (lawvalid_any hI _ _ _ f r.1 r.2 _ _ _ _ _ _ _ _ _ _ _ _ _ _ _ HP.out hl h9 T.out.r.hz T.out.r.hq T.out.hz T.out.hq ha hb).mono ?_
 rintro e w1 ⟨he,hb1⟩
 have he2:e=.returned (.bool true):=by rw [← HW.out];exact he
 subst he2
 replace T:=Lib.hid (T.out.move hb1)
 replace S:=Lib.hid (S.out.move hb1)
 replace Hb:=Lib.hid (Hb.out.trans (hb1.mono Hb.out.size))
 clear he hb1 x0 x1 x2 x3 x4 x5 y0 y1 y2 y3 y4 y5 HP
 have x0:=T.out.r.c0;have x1:=T.out.r.c1;have x2:=T.out.r.c2;have x3:=T.out.c3;have x4:=T.out.c4;have x5:=T.out.c5
 have y0:=S.out.r.c0;have y1:=S.out.r.c1;have y2:=S.out.r.c2;have y3:=S.out.c3;have y4:=S.out.c4;have y5:=S.out.c5
 go_wp2_with fail
 refine (rcmp_any _ _ _ _ _ _ _ _ _ _ _ _ _ _ _ _ _ _ _ S.out.r.hz.at_ S.out.r.hq.at_ T.out.r.hz.at_ T.out.r.hq.at_ (by omega) (by omega) hc.fz hc.fq ha.fz ha.fq).mono ?_
 rintro e w2 ⟨rfl,hb1⟩
 rw [show cmpz (s.1.z*(r.1.q:Int)) (r.1.z*(s.1.q:Int))=C1 from HC1.out.symm]
 replace T:=Lib.hid (T.out.move hb1)
 replace S:=Lib.hid (S.out.move hb1)
 replace Hb:=Lib.hid (Hb.out.trans (hb1.mono Hb.out.size))
 clear hb1 x0 x1 x2 x3 x4 x5 y0 y1 y2 y3 y4 y5
 have x0:=T.out.r.c0;have x1:=T.out.r.c1;have x2:=T.out.r.c2;have x3:=T.out.c3;have x4:=T.out.c4;have x5:=T.out.c5
 have y0:=S.out.r.c0;have y1:=S.out.r.c1;have y2:=S.out.r.c2;have y3:=S.out.c3;have y4:=S.out.c4;have y5:=S.out.c5
 go_wp2_with fail
 refine (rcmp_any _ _ _ _ _ _ _ _ _ _ _ _ _ _ _ _ _ _ _ T.out.hz.at_ T.out.hq.at_ S.out.hz.at_ S.out.hq.at_ (by omega) (by omega) hb.fz hb.fq hd.fz hd.fq).mono ?_
 rintro e w3 ⟨rfl,hb1⟩
 rw [show cmpz (r.2.z*(s.2.q:Int)) (s.2.z*(r.2.q:Int))=C2 from HC2.out.symm]
 replace Hb:=Lib.hid (Hb.out.trans (hb1.mono Hb.out.size))
 clear hb1 x0 x1 x2 x3 x4 x5 y0 y1 y2 y3 y4 y5 T S
 go_wp2
 go_ret
 exact ⟨by first | rfl | simp,Hb.out⟩
end
end Go.Proofs.YtbfddopopajgaaaGreat
namespace Go.Proofs.YtbfddopopajgaaaGreat
open Go Go.RowKit
set_option maxRecDepth 100000 in
set_option maxHeartbeats 2000000 in
theorem parts0_any (n:Bool) (A:Option Addr) (l c:Nat) (B:Option Addr) (m d:Nat) (w:World) (hq:NatAt w B m d 0) :
 Calls Tryz.prog 72 #[.agg #[.bool n,.slice A l c,.slice B m d]] w fun e w'=>(∃ n' A' l' c',e=.returned (.tuple #[.agg #[.bool false,.slice none 0 0],.agg #[.bool n',.slice A' l' c']]))∧Below w.heap.size w w':=by
 have hb0:Below w.heap.size w (((w.alloc (rbox n A l c B m d)).alloc (ibox false none 0 0)).alloc (ibox false none 0 0)):=below_three w _ _ _ (Nat.le_refl _)
 have hq1:=hq.below hb0
 have k2:Blk ((w.alloc (rbox n A l c B m d)).alloc (ibox false none 0 0)) (w.alloc (rbox n A l c B m d)).heap.size 40 #[.bool false,.slice none 0 0]:=Blk.new _ _ _
 have k3:Blk (((w.alloc (rbox n A l c B m d)).alloc (ibox false none 0 0)).alloc (ibox false none 0 0)) ((w.alloc (rbox n A l c B m d)).alloc (ibox false none 0 0)).heap.size 40 #[.bool false,.slice none 0 0]:=Blk.new _ _ _
 replace k2:=k2.below (below_new ((w.alloc (rbox n A l c B m d)).alloc (ibox false none 0 0)) (ibox false none 0 0)) k2.lt
 simp only [World.size_alloc] at k2 k3
 have K2:=Lib.hid k2
 have K3:=Lib.hid k3
 have Hb0:=Lib.hid hb0
 have hs:Sm 0:=by show dlen 0≤_;rw [dlen_zero];omega
 clear hq hb0 k2 k3
 go_enter Tryz.func72,Tryz.ntmps72
 go_wp2_with fail
 refine (isZero_any _ _ _ _ _ hq1 hs).mono ?_
 rintro e w1 ⟨rfl,rfl⟩
 clear hq1
 go_wp2_with fail
 refine (iof_any 1 _ (by unfold I64;omega)).mono ?_
 rintro e w2 ⟨n2,A2,l2,c2,rfl,h2,hb2⟩
 have k2:=K2.out.below hb2 K2.out.lt
 have k3:=K3.out.below hb2 K3.out.lt
 have a0:=(k2.cell 0).trans rfl
 have a1:=(k2.cell 1).trans rfl
 have a2:=k2.frozen 0
 have a3:=k2.frozen 1
 have a4:=(k3.cell 0).trans rfl
 have a5:=(k3.cell 1).trans rfl
 have a6:=k3.frozen 0
 have a7:=k3.frozen 1
 have HX:=Lib.hid (((((Hb0.out.trans (hb2.mono Hb0.out.size)).setCell (p:=⟨w.heap.size+1,0,none⟩) (by simp) (.bool false)).setCell (p:=⟨w.heap.size+1,1,none⟩) (by simp) (.slice none 0 0)).setCell (p:=⟨w.heap.size+1+1,0,none⟩) (by simp<;>omega) (.bool n2)).setCell (p:=⟨w.heap.size+1+1,1,none⟩) (by simp<;>omega) (.slice A2 l2 c2))
 clear k2 k3 K2 K3 h2 hb2 hs
 go_wp2_with fail
 refine bodyPost_ret (v:=.tuple #[.agg #[.bool false,.slice none 0 0],.agg #[.bool n2,.slice A2 l2 c2]]) (by simp [results,Tryz.results72,go_sem,a0,a1,a4,a5]) rfl ⟨⟨_,_,_,_,rfl⟩,HX.out⟩
set_option maxRecDepth 100000 in
set_option maxHeartbeats 2000000 in
theorem rsign0_any (n:Bool) (A:Option Addr) (l c:Nat) (B:Option Addr) (m d:Nat) (w:World) (hq:NatAt w B m d 0) :
 Calls Tryz.prog 36 #[.agg #[.bool n,.slice A l c,.slice B m d]] w fun e w'=>e=.returned (.int .i64 0)∧Below w.heap.size w w':=by
 have hb0:Below w.heap.size w (w.alloc (rbox n A l c B m d)):=(Below.refl _ _).alloc (Nat.le_refl _) _
 have hq1:=hq.below hb0
 have Hb0:=Lib.hid hb0
 clear hq hb0
 go_enter Tryz.func36,Tryz.ntmps36
 go_wp2_with fail
 refine (parts0_any _ _ _ _ _ _ _ _ hq1).mono ?_
 rintro e w1 ⟨⟨n1,A1,l1,c1,rfl⟩,hb1⟩
 have hb2:Below w1.heap.size w1 ((w1.alloc (ibox false none 0 0)).alloc (ibox n1 A1 l1 c1)):=below_two w1 _ _ (Nat.le_refl _)
 have Hb1:=Lib.hid (Hb0.out.trans (hb1.mono Hb0.out.size))
 have Hb2:=Lib.hid (Hb1.out.trans (hb2.mono Hb1.out.size))
 clear hq1 hb1 hb2
 go_wp2_with fail
 refine (isign_any _ _ _ _ 0 _ (IntN.at_ ⟨NatN.zero _ _ _,by simp⟩) SmI.zero).mono ?_
 rintro e w2 ⟨rfl,rfl⟩
 go_wp2
 go_ret
 exact ⟨rfl,Hb2.out.alloc Hb2.out.size _⟩
end Go.Proofs.YtbfddopopajgaaaGreat
namespace Go.Proofs.YtbfddopopajgaaaGreat
open Go Go.RowKit
section
variable {f g:List Int} {a b:Fq} {x:Pt} {s r:Fq×Fq} {i:Nat}
theorem gcd_valid (h:S6 f) (h0:plen f≠0) (hg:G6 g) (ha:0<a.q) (hb:0<b.q) (hi:IsoV f x a b):vld 1 (gres f g) a b=true↔sgp g x=0:=by
 have hd:=gd_facts h.p9 h.pl hg h0
 have h9:=gcd_p9q h.p9 h.pl h0 hg
 rw [vld_one h9 ha hb,vld_iff h9 hd.g0 ha hb]
 constructor
 ·rintro ⟨y,hy⟩
  obtain ⟨fy,gy⟩:=(hd.r y).1 hy.1
  have e:y=x:=by
   rcases hi.2 with h2 | ⟨_,n1,n2,l1,l2,hu⟩
   ·rcases hy.2 with h3 | h3
    ·rw [h2.2,h3.2]
    ·grind
   ·rcases hy.2 with h3 | ⟨_,_,_,y1,y2,_⟩
    ·grind
    ·exact hu y fy y1 y2
  rw [← e];exact gy
 ·intro gx
  refine ⟨x,(hd.r x).2 ⟨hi.1,gx⟩,?_⟩
  rcases hi.2 with h2 | ⟨lt,n1,n2,l1,l2,hu⟩
  ·exact .inl h2
  ·exact .inr ⟨lt,fun e=>n1 ((hd.r _).1 e).1,fun e=>n2 ((hd.r _).1 e).1,l1,l2,fun y hy y1 y2=>hu y ((hd.r y).1 hy).1 y1 y2⟩
theorem Free.count (hf:Free g s) (h9:P9 g) (g0:plen g≠0) (pa:0<s.1.q) (pb:0<s.2.q):ncount g s.1.z s.1.q s.2.z s.2.q=0:=by
 by_cases hlt:s.1.z*(s.2.q:Int)<s.2.z*(s.1.q:Int)
 ·obtain ⟨xs,hx⟩:=roots_lst g0 (fun y=>s.1.p<y∧(y<s.2.p∨y=s.2.p))
  rw [ncount_half h9 g0 pa pb hlt hx]
  match xs,hx with
  | [],_=>rfl
  | y :: ys,hx =>
    obtain ⟨h1,h2,h3⟩:=(hx.2 y).1 (List.mem_cons_self ..)
    exfalso
    rcases hf y h1 with c | c
    ·exact Pt.asym c h2
    ·rcases h3 with h3 | h3
     ·exact Pt.asym c h3
     ·rw [h3] at c;exact Pt.irr _ c
 ·unfold ncount
  rw [if_neg hlt]
theorem Free.ne (hf:Free g s) (hle:s.1.v≤s.2.v):sgp g s.1.p≠0:=fun e=>by
 rcases hf _ e with c | c
 ·exact Pt.irr _ c
 ·have:=Pt.of_lt_of.1 c
  grind
theorem fc_le (ha:0<a.q) (hb:0<b.q) (h:a.v≤b.v):fcmp a b≤0:=by
 have:¬ 0<fcmp a b:=fun c=>by
  have:=(fcmp_pos ha hb).1 c
  grind
 omega
theorem ASt.within (h9:P9 f) (h0:plen f≠0) (hr:ASt f x i r) {j:Nat} (hs:ASt f x j s) (h1:r.1.v≤s.1.v) (h2:s.2.v≤r.2.v):wthn f s r:=by
 refine ⟨?_,fc_le hr.d.d.1.p hs.d.d.1.p h1,fc_le hs.d.d.2.p hr.d.d.2.p h2⟩
 rw [vld_one h9 hs.d.d.1.p hs.d.d.2.p]
 exact (vld_iff h9 h0 hs.d.d.1.p hs.d.d.2.p).2 ⟨x,hs.iso⟩
end
set_option maxRecDepth 100000 in
set_option maxHeartbeats 16000000 in
theorem law_apart (A0:Option Addr) (l0 c0:Nat) (p0:List Int) (A1:Option Addr) (l1 c1:Nat) (p1:List Int) (k:Nat) (w:World) (h0:I16At w A0 l0 c0 p0) (h1:I16At w A1 l1 c1 p1) (hl0:l0≤9223372036854775807) (hl1:l1≤9223372036854775807) (hk:k≤255) :
 Calls Tryz.prog 10 #[.slice A0 l0 c0,.slice A1 l1 c1,.int .u8 (k:Int)] w fun e w'=>e=.returned (.bool true)∧Below w.heap.size w w':=by
 have sF:=short_s6 h0 (show 6≤6 by omega)
 have sG:=short_s6 h1 (show 6≤6 by omega)
 obtain ⟨F,hF⟩:∃ F,F=ptrim (p0.take 6):=⟨_,rfl⟩
 obtain ⟨G,hG⟩:∃ G,G=ptrim (p1.take 6):=⟨_,rfl⟩
 rw [← hF] at sF
 rw [← hG] at sG
 have HFe:=Lib.hid hF.symm
 have HGe:=Lib.hid hG.symm
 have SF:=Lib.hid sF
 have SG:=Lib.hid sG
 have Hi:=Lib.hid h0
 have Hj:=Lib.hid h1
 have lF:=sF.len
 have lG:=sG.len
 have F9:=sF.p9
 have G9:=sG.p9
 clear h0 h1 hF sF hG sG
 go_enter Tryz.func10,Tryz.ntmps10
 go_wp2_with fail
 refine (awake18_any _).mono ?_
 rintro e w1 ⟨rfl,hb1⟩
 replace Hi:=Lib.hid (Hi.out.below hb1)
 replace Hj:=Lib.hid (Hj.out.below hb1)
 have Hb:=Lib.hid hb1
 clear hb1
 go_wp2_with fail
 refine (short_any _ _ _ 6 _ _ Hi.out (by omega) hl0).mono ?_
 rintro e w2 ⟨Af,lf,cf,rfl,h2f,hb2⟩
 rw [HFe.out] at h2f
 have hlf:lf≤6:=by have:=h2f.length;omega
 have HP:=Lib.hid h2f
 replace Hj:=Lib.hid (Hj.out.below hb2)
 replace Hb:=Lib.hid (Hb.out.trans (hb2.mono Hb.out.size))
 clear hb2 h2f Hi
 go_wp2_with fail
 refine (short_any _ _ _ 6 _ _ Hj.out (by omega) hl1).mono ?_
 rintro e w3 ⟨Ag,lg,cg,rfl,h3g,hb3⟩
 rw [HGe.out] at h3g
 have hlg:lg≤6:=by have:=h3g.length;omega
 have HG:=Lib.hid h3g
 replace HP:=Lib.hid (HP.out.below ikN hb3)
 replace Hb:=Lib.hid (Hb.out.trans (hb3.mono Hb.out.size))
 clear hb3 h3g Hj
 go_wp2_with fail
 refine (pick_any ikN HP.out (by omega) F9 hk).mono ?_
 rintro e w4 ⟨hpk,hb4⟩
 replace HP:=Lib.hid (HP.out.below ikN hb4)
 replace HG:=Lib.hid (HG.out.below ikN hb4)
 replace Hb:=Lib.hid (Hb.out.trans (hb4.mono Hb.out.size))
 clear hb4
 rcases hpk with ⟨_,rfl⟩ | ⟨hpos,n,A,l,c,B,m,d,n',A',l',c',B',m',d',rfl,z1,z2,z3,z4⟩
 ·have jb:=below_new w4 (.cells rz6 44)
  replace Hb:=Lib.hid (Hb.out.trans (jb.mono Hb.out.size))
  clear jb
  go_wp2_with fail
  go_ret
  exact ⟨rfl,Hb.out⟩
 have hj:k % (proots F).length<(proots F).length:=Nat.mod_lt _ hpos
 have hF0:plen F≠0:=fun e=>by rw [proots_nil e] at hpos;cases hpos
 obtain ⟨xs,hxs⟩:=rf_ex F9 hF0
 obtain ⟨i,hi,hst⟩:=proots_ast hxs (by rw [← hxs.len];exact hj)
 obtain ⟨x,hx⟩:∃ x,x=xs.getD (k % (proots F).length) default:=⟨_,rfl⟩
 obtain ⟨r,hr⟩:∃ r,r=(proots F).getD (k % (proots F).length) r00:=⟨_,rfl⟩
 rw [← hr] at z1 z2 z3 z4 hst
 rw [← hx] at hst
 obtain ⟨fa,fb,_⟩:=hst.fqb F9 hF0 hi
 have T9:=Lib.hid (TBox.make z1 z2 z3 z4)
 have jb:=below_new w4 (tbox n A l c B m d n' A' l' c' B' m' d')
 replace HP:=Lib.hid (HP.out.below ikN jb)
 replace HG:=Lib.hid (HG.out.below ikN jb)
 replace Hb:=Lib.hid (Hb.out.trans (jb.mono Hb.out.size))
 have HST:=Lib.hid hst
 have HI:=Lib.hid hi
 have HF0:=Lib.hid hF0
 have hd:=gd_facts F9 SF.out.pl SG.out.g6 hF0
 have hd9:=gcd_p9q F9 SF.out.pl hF0 SG.out.g6
 have GV:=Lib.hid (gcd_valid SF.out hF0 SG.out.g6 fa.p fb.p hst.iso)
 have hdl:(gres F G).length≤6:=hd.t
 obtain ⟨H,hH⟩:∃ H,H=gres F G:=⟨_,rfl⟩
 rw [← hH] at hd hd9 hdl
 have GV':=GV.out
 rw [← hH] at GV'
 replace GV:=Lib.hid GV'
 have HHe:=Lib.hid hH
 have HD:=Lib.hid hd
 clear z1 z2 z3 z4 jb hst hi hF0 hpos hj hxs hx hr GV' hH hd
 obtain ⟨g9,hg9⟩:∃ g,g=w4.heap.size:=⟨_,rfl⟩
 obtain ⟨wb,hwb⟩:∃ wb,wb=w4.alloc (tbox n A l c B m d n' A' l' c' B' m' d'):=⟨_,rfl⟩
 have x0:=T9.out.r.c0;have x1:=T9.out.r.c1;have x2:=T9.out.r.c2;have x3:=T9.out.c3;have x4:=T9.out.c4;have x5:=T9.out.c5
 go_wp2_with fail
 rw [← hwb,← hg9] at T9 x0 x1 x2 x3 x4 x5
 rw [← hwb] at HP HG Hb ⊢
 rw [← hg9]
 clear hwb hg9
 refine (apart_any (r:=r) HP.out SF.out HF0.out HG.out SG.out.g6 T9.out.r.hz T9.out.r.hq T9.out.hz T9.out.hq HI.out HST.out).mono ?_
 rintro e w6 ⟨hap,hb6⟩
 clear x0 x1 x2 x3 x4 x5
 replace HP:=Lib.hid (HP.out.below ikN hb6);replace HG:=Lib.hid (HG.out.below ikN hb6);replace T9:=Lib.hid (T9.out.move hb6);replace Hb:=Lib.hid (Hb.out.trans ((hb6).mono Hb.out.size))
 clear hb6
 rcases hap with ⟨gx,n5,A5,l5,c5,B5,m5,d5,n6,A6,l6,c6,B6,m6,d6,rfl,z1,z2,z3,z4⟩ | ⟨gx,j,s,hj,hs,s1,s2,hfr,n5,A5,l5,c5,B5,m5,d5,n6,A6,l6,c6,B6,m6,d6,rfl,z1,z2,z3,z4⟩
 ·have HV:=Lib.hid (GV.out.2 gx)
  have T1:=Lib.hid (TBox.make z1 z2 z3 z4)
  have jb:=below_new w6 (tbox n5 A5 l5 c5 B5 m5 d5 n6 A6 l6 c6 B6 m6 d6)
  replace HP:=Lib.hid (HP.out.below ikN jb);replace HG:=Lib.hid (HG.out.below ikN jb);replace T9:=Lib.hid (T9.out.move jb);replace Hb:=Lib.hid (Hb.out.trans ((jb).mono Hb.out.size))
  clear z1 z2 z3 z4 jb gx GV
  go_wp2_with fail
  refine (gcd_any ikN ikN _ _ _ F _ _ _ G _ HP.out HG.out F9.cp.fit.smp SG.out.g6.fit.smp (by omega) (by omega) HD.out.ga).mono ?_
  rintro e w7 ⟨A7,l7,c7,rfl,h7,hb7⟩
  rw [← HHe.out] at h7
  have HQ:=Lib.hid h7
  replace T1:=Lib.hid (T1.out.move hb7)
  replace HP:=Lib.hid (HP.out.below ikN hb7);replace HG:=Lib.hid (HG.out.below ikN hb7);replace T9:=Lib.hid (T9.out.move hb7);replace Hb:=Lib.hid (Hb.out.trans ((hb7).mono Hb.out.size))
  clear h7 hb7
  have x0:=T9.out.r.c0;have x1:=T9.out.r.c1;have x2:=T9.out.r.c2;have x3:=T9.out.c3;have x4:=T9.out.c4;have x5:=T9.out.c5
  go_wp2_with fail
  refine (lawvalid_any ikN _ _ _ H r.1 r.2 _ _ _ _ _ _ _ _ _ _ _ _ _ _ _ HQ.out (by omega) hd9 T9.out.r.hz T9.out.r.hq T9.out.hz T9.out.hq fa fb).mono ?_
  rintro e w8 ⟨he,hb8⟩
  rw [HV.out] at he
  subst he
  replace T1:=Lib.hid (T1.out.move hb8)
  replace Hb:=Lib.hid (Hb.out.trans (hb8.mono Hb.out.size))
  clear hb8 x0 x1 x2 x3 x4 x5 T9 HP HG HQ
  have y0:=T1.out.r.c0;have y1:=T1.out.r.c1;have y2:=T1.out.r.c2;have y3:=T1.out.c3;have y4:=T1.out.c4;have y5:=T1.out.c5
  go_wp2_with fail
  refine (rsign0_any _ _ _ _ _ _ _ _ T1.out.r.hq.at_).mono ?_
  rintro e w10 ⟨rfl,hb10⟩
  replace T1:=Lib.hid (T1.out.move hb10)
  replace Hb:=Lib.hid (Hb.out.trans (hb10.mono Hb.out.size))
  clear hb10
  clear y0 y1 y2 y3 y4 y5
  have y0:=T1.out.r.c0;have y1:=T1.out.r.c1;have y2:=T1.out.r.c2;have y3:=T1.out.c3;have y4:=T1.out.c4;have y5:=T1.out.c5
  go_wp2_with fail
  refine (rsign0_any _ _ _ _ _ _ _ _ T1.out.hq.at_).mono ?_
  rintro e w11 ⟨rfl,hb11⟩
  replace Hb:=Lib.hid (Hb.out.trans (hb11.mono Hb.out.size))
  clear hb11 T1
  clear y0 y1 y2 y3 y4 y5
  go_wp2_with fail
  go_ret
  exact ⟨by first | rfl | simp,Hb.out⟩
 ·have HV:=Lib.hid (show vld 1 H r.1 r.2=false from by
   rw [← Bool.not_eq_true]
   exact fun e=>gx (GV.out.1 e))
  have hG0:plen G≠0:=fun e=>gx (sgp_zero e x)
  have G0:=Lib.hid hG0
  obtain ⟨fc,fd,_⟩:=hs.fqb F9 HF0.out hj
  have hwt:=HST.out.within F9 HF0.out hs s1 s2
  have hne:s.1.sgn G≠0:=by rw [sgn_pt fc.p];exact hfr.ne hs.iso.le
  have hct:=hfr.count G9 hG0 fc.p fd.p
  have pg:=(g6_cp SG.out.g6).at (z:=s.1.z) (q:=s.1.q) (by omega) fc.z fc.q
  have HW:=Lib.hid hwt
  have HCT:=Lib.hid hct
  obtain ⟨S,hS⟩:∃ S,S=s.1.sgn G:=⟨_,rfl⟩
  rw [← hS] at hne
  have HSe:=Lib.hid hS
  have b1:(S != 0)=true:=by rw [bne_iff_ne];exact hne
  have hdg:¬ ((plen G:Nat):Int)-1<0:=by omega
  have hdg2:decide (((plen G:Nat):Int)-1<0)=false:=decide_eq_false hdg
  have T1:=Lib.hid (TBox.make z1 z2 z3 z4)
  have jb:=below_new w6 (tbox n5 A5 l5 c5 B5 m5 d5 n6 A6 l6 c6 B6 m6 d6)
  replace HP:=Lib.hid (HP.out.below ikN jb);replace HG:=Lib.hid (HG.out.below ikN jb);replace T9:=Lib.hid (T9.out.move jb);replace Hb:=Lib.hid (Hb.out.trans ((jb).mono Hb.out.size))
  clear z1 z2 z3 z4 jb gx GV hs s1 s2 hfr hG0 hwt hct hS hj hne
  go_wp2_with fail
  refine (gcd_any ikN ikN _ _ _ F _ _ _ G _ HP.out HG.out F9.cp.fit.smp SG.out.g6.fit.smp (by omega) (by omega) HD.out.ga).mono ?_
  rintro e w7 ⟨A7,l7,c7,rfl,h7,hb7⟩
  rw [← HHe.out] at h7
  have HQ:=Lib.hid h7
  replace T1:=Lib.hid (T1.out.move hb7)
  replace HP:=Lib.hid (HP.out.below ikN hb7);replace HG:=Lib.hid (HG.out.below ikN hb7);replace T9:=Lib.hid (T9.out.move hb7);replace Hb:=Lib.hid (Hb.out.trans ((hb7).mono Hb.out.size))
  clear h7 hb7
  have x0:=T9.out.r.c0;have x1:=T9.out.r.c1;have x2:=T9.out.r.c2;have x3:=T9.out.c3;have x4:=T9.out.c4;have x5:=T9.out.c5
  go_wp2_with fail
  refine (lawvalid_any ikN _ _ _ H r.1 r.2 _ _ _ _ _ _ _ _ _ _ _ _ _ _ _ HQ.out (by omega) hd9 T9.out.r.hz T9.out.r.hq T9.out.hz T9.out.hq fa fb).mono ?_
  rintro e w8 ⟨he,hb8⟩
  rw [HV.out] at he
  subst he
  replace T1:=Lib.hid (T1.out.move hb8)
  clear x0 x1 x2 x3 x4 x5
  replace HP:=Lib.hid (HP.out.below ikN hb8);replace HG:=Lib.hid (HG.out.below ikN hb8);replace T9:=Lib.hid (T9.out.move hb8);replace Hb:=Lib.hid (Hb.out.trans ((hb8).mono Hb.out.size))
  clear hb8 HQ
  go_wp2_with fail
  refine (degree_any _ _ _ _ _ (HG.out.at_ ikN) SG.out.g6.fit.smp (by omega)).mono ?_
  rintro e w9 ⟨rfl,hb9⟩
  replace T1:=Lib.hid (T1.out.move hb9)
  replace HP:=Lib.hid (HP.out.below ikN hb9);replace HG:=Lib.hid (HG.out.below ikN hb9);replace T9:=Lib.hid (T9.out.move hb9);replace Hb:=Lib.hid (Hb.out.trans ((hb9).mono Hb.out.size))
  clear hb9
  have x0:=T9.out.r.c0;have x1:=T9.out.r.c1;have x2:=T9.out.r.c2;have x3:=T9.out.c3;have x4:=T9.out.c4;have x5:=T9.out.c5
  have y0:=T1.out.r.c0;have y1:=T1.out.r.c1;have y2:=T1.out.r.c2;have y3:=T1.out.c3;have y4:=T1.out.c4;have y5:=T1.out.c5
  go_wp2_with fail
  refine (within_any ikN (r:=s) (s:=r) HP.out (by omega) F9 T1.out.r.hz T1.out.r.hq T1.out.hz T1.out.hq T9.out.r.hz T9.out.r.hq T9.out.hz T9.out.hq fc fd fa fb HW.out).mono ?_
  rintro e w10 ⟨rfl,hb10⟩
  replace T1:=Lib.hid (T1.out.move hb10)
  clear x0 x1 x2 x3 x4 x5
  clear y0 y1 y2 y3 y4 y5
  replace HP:=Lib.hid (HP.out.below ikN hb10);replace HG:=Lib.hid (HG.out.below ikN hb10);replace T9:=Lib.hid (T9.out.move hb10);replace Hb:=Lib.hid (Hb.out.trans ((hb10).mono Hb.out.size))
  clear hb10 T9 HP
  have y0:=T1.out.r.c0;have y1:=T1.out.r.c1;have y2:=T1.out.r.c2;have y3:=T1.out.c3;have y4:=T1.out.c4;have y5:=T1.out.c5
  go_wp2_with fail
  refine (signat_any ikN _ _ _ G _ _ _ _ _ _ _ _ _ _ HG.out pg.fit (by omega) T1.out.r.hz T1.out.r.hq fc.at.u fc.at.v fc.at.pos pg.ok fc.at.fz fc.at.fq).mono ?_
  rintro e w11 ⟨he,hb11⟩
  have he2:e=.returned (.int .i64 S):=by rw [HSe.out];exact he
  subst he2
  replace T1:=Lib.hid (T1.out.move hb11)
  replace HG:=Lib.hid (HG.out.below ikN hb11)
  replace Hb:=Lib.hid (Hb.out.trans (hb11.mono Hb.out.size))
  clear y0 y1 y2 y3 y4 y5
  clear he hb11
  have y0:=T1.out.r.c0;have y1:=T1.out.r.c1;have y2:=T1.out.r.c2;have y3:=T1.out.c3;have y4:=T1.out.c4;have y5:=T1.out.c5
  go_wp2_with fail
  refine (count_q ikN _ _ _ G _ _ _ _ _ _ _ s.1.q s.1.z _ _ _ _ _ _ _ s.2.q s.2.z _ HG.out (by omega) G9 T1.out.r.hz T1.out.r.hq T1.out.hz T1.out.hq fc.at fd.at fc.z fc.q fd.z fd.q).mono ?_
  rintro e w12 ⟨he,hb12⟩
  rw [HCT.out] at he
  subst he
  replace Hb:=Lib.hid (Hb.out.trans (hb12.mono Hb.out.size))
  clear y0 y1 y2 y3 y4 y5
  clear hb12 T1 HG
  go_wp2_with fail
  go_ret
  exact ⟨by first | rfl | simp,Hb.out⟩
end Go.Proofs.YtbfddopopajgaaaGreat
namespace Go.Proofs.YtbfddopopajgaaaGreat
open Go.ChangeShapes Go.WideShapes Go.ChangeAt Go.RowKit
set_option maxRecDepth 100000 in
theorem apart_lifted (os:Os) (started:os.Started) (H:Type) (enc:TypeId×Value→H) :
 ReturnsInHanded {} Tryz.checked os 10 .any (Rows.refineApartSpec.pre6 enc Tryz.prog Tryz.f10 Rows.refineApartRow.domain false) (Rows.refineApartSpec.post enc Tryz.prog Tryz.f10 false true false false):=by
 refine returnsInHanded_of_change (C:=Tryz.checked) Tryz.own started (by kernel_rfl) Tryz.func10
  (ChangeSpec.witness6 (enc:=enc) (C:=Tryz.checked) false ⟨#[],#[.slice none 0 0,.slice none 0 0,.int .u8 0],[]⟩ 8 (by kernel_rfl) (by kernel_rfl) (by kernel_rfl) (by kernel_rfl)) ?_
 intro W base args ds gs before hval0 hW hcnd _
 exact lifted_two16u8 _ Tryz.f10 Tryz.params10 rfl enc _ rfl (fun _ _ _=>rfl) (fun A la ca p B lb cb q n w h h' hla hlb hn=>by obtain ⟨k,rfl⟩:=Int.eq_ofNat_of_zero_le hn.1;exact law_apart A la ca p B lb cb q k w h h' hla hlb (by omega)) W args ds gs before hval0 hW
theorem refineApart_holds:Rows.RefineApartSaid :=
 OpenClaim.holds_of_wide 10 Tryz.f10 rfl rfl rfl rfl rfl rfl rfl ⟨rfl,rfl,rfl,rfl,rfl⟩ rfl rfl rfl rfl rfl (by kernel_rfl) Tryz.func10 (by kernel_rfl)
  (of_decide_eq_true (by kernel_rfl)) (by unfold Func.isWrapper;first | (rw [if_pos (by decide +kernel)];kernel_rfl) | (rw [if_neg (by decide +kernel)];exact ⟨rfl,rfl⟩))
  (fun os started H enc _=>apart_lifted os started H enc)
#print axioms refineApart_holds
end Go.Proofs.YtbfddopopajgaaaGreat
