/- For any two slices of int16s the law ThomSigns returns true and its arguments read as before: thom.Signs lists the signs that refine.Sign finds at the roots. No condition. -/
import Derived.Test.YtbfddopopajgaaaGreatRowP
import Derived.Test.YtbfddopopajgaaaGreatHfp
import Derived.Test.YtbfddopopajgaaaGreatSgw
import Derived.Test.YtbfddopopajgaaaGreatApg
import Derived.Test.YtbfddopopajgaaaGreatStd
import Derived.Test.YtbfddopopajgaaaGreatRatD
import Derived.Test.YtbfddopopajgaaaGreatIvp
import Derived.Test.YtbfddopopajgaaaGreatAdp
namespace Go.Proofs.YtbfddopopajgaaaGreat
open Go.ChangeShapes Go.WideShapes Go.ChangeAt Go.RowKit
set_option maxRecDepth 100000 in
theorem lifted_two16 (f:Nat) (fn:Func) (hp:fn.params=#[22,22]) (hr:fn.resultTypes=#[4]) {H:Type} (enc:TypeId×Value→H) (spec:ChangeSpec) (hsv:spec.vars=[]) (hsf:∀ d d',spec.fn H [d,d']={ results:=[.lit (.bool true)],args:=[d,d'] })
 (walk:∀ A la ca p B lb cb q w,I16At w A la ca p→I16At w B lb cb q→la≤9223372036854775807→lb≤9223372036854775807→Calls Tryz.prog f #[.slice A la ca,.slice B lb cb] w fun e w'=>e=.returned (.bool true)∧Below w.heap.size w w')
 (W:World) (args:Array Value) (ds gs:List (DataW H)) (before:List MemPlace)
 (hval:∀ (j:Nat) t v,fn.params[j]?=some t→args[j]?=some v→Value.okWide Tryz.prog W .any 0 t v)
 (hW:DataW.Whole enc Tryz.prog fn.params.toList spec.vars false W args.toList ds gs before) :
 Calls Tryz.prog f args W fun e W'=>∃ v,e=Ending.returned v∧spec.post enc Tryz.prog fn false true false false W args v W':=by
 have hW':=hW
 obtain ⟨p,q,hA0,hV,rfl,_,_⟩:=hW
 have hA:DataW.TrodAll enc Tryz.prog W 0 (fun _=>true) true fn.params.toList args.toList ds p:=hA0
 rw [hp] at hA hval
 obtain ⟨v0,v1,d0,d1,p0,p1,rfl,rfl,rfl,h0,h1⟩:=trodAll_two hA
 rw [hsv] at hV
 obtain ⟨rfl,rfl⟩:=trodVars_none hV
 obtain ⟨a0,la,ca,rfl⟩:=okWide_slice Tryz.underlying22 (hval 0 22 v0 rfl rfl)
 obtain ⟨a1,lb,cb,rfl⟩:=okWide_slice Tryz.underlying22 (hval 1 22 v1 rfl rfl)
 simp only [List.append_nil] at hW'
 have hlt:∀ x∈p0 ++ p1,x.block<W.heap.size:=fun x hx=>by simpa using hW'.lt x hx
 have hlt0:∀ x∈p0,x.block<W.heap.size:=fun x hx=>hlt x (List.mem_append.2 (.inl hx))
 have hlt1:∀ x∈p1,x.block<W.heap.size:=fun x hx=>hlt x (List.mem_append.2 (.inr hx))
 obtain ⟨hla,zs,hz⟩:=open_i16 h0 hlt0
 obtain ⟨hlb,ys,hy⟩:=open_i16 h1 hlt1
 refine (walk a0 la ca zs a1 lb cb ys W hz hy hla hlb).mono fun e W' ⟨he,hb⟩=>?_
 subst he
 refine ⟨_,rfl,post_below (pa:=p0 ++ p1) (pv:=[]) hW' (fun _ _ _=>?_) (fun sp hs=>?_) (fun _ _=>?_) (by simp) hb ?_⟩
 ·rw [List.append_nil,hsf,hr]
  exact trodAll_mk1 (shut_bool Tryz.underlying4 _)
 ·rw [List.append_nil,hsf,hp]
  exact trodAll_mk2 (Go.WideElems.Trod_stays Tryz.laidOut (by kernel_rfl) (of_decide_eq_true (by kernel_rfl)) h0 (fun x hx=>hb.same (hlt0 x hx)) (fun x hx=>hs x (List.mem_append.2 (.inl hx)))) (Go.WideElems.Trod_stays Tryz.laidOut (by kernel_rfl) (of_decide_eq_true (by kernel_rfl)) h1 (fun x hx=>hb.same (hlt1 x hx)) (fun x hx=>hs x (List.mem_append.2 (.inr hx))))
 ·rw [hsv,List.append_nil,hsf]
  rfl
 ·exact ok_one hr rfl (okWide_bool_mk Tryz.underlying4 _)
end Go.Proofs.YtbfddopopajgaaaGreat
namespace Go.Proofs.YtbfddopopajgaaaGreat
open Go.RowKit
section
variable {K i j:Nat} {a b:Fq} {r:Fq×Fq} {Q f:List Int}
theorem Dy.le (h:Dy K i a) (hij:i≤j):Dy K j a:=⟨h.p,Nat.dvd_trans h.d (Nat.pow_dvd_pow 2 hij),h.z⟩
theorem Dy.nf (h:Dy K i a):Dy K i a.nf:=by
 have hp:=(Go.Proofs.YtbfddopopajgaaaGreat.nf_v (z:=a.z) h.p).2.1
 obtain ⟨g,hg⟩:∃ g,g=Nat.gcd a.z.natAbs a.q:=⟨_,rfl⟩
 have hg0:0<g:=by rw [hg];exact Nat.gcd_pos_of_pos_right _ h.p
 have d2:g∣a.q:=by rw [hg];exact Nat.gcd_dvd_right _ _
 have d1:g∣a.z.natAbs:=by rw [hg];exact Nat.gcd_dvd_left _ _
 have eq:a.nf.q=a.q / g:=by rw [hg];rfl
 have ez:a.nf.z.natAbs=a.z.natAbs / g:=by
  show (rz a.z a.q).natAbs=_
  unfold rz
  rw [Int.natAbs_tdiv,hg,Int.natAbs_natCast];rfl
 refine ⟨hp,?_,?_⟩
 ·rw [eq];exact Nat.dvd_trans (Nat.div_dvd_of_dvd d2) h.d
 ·rw [ez,eq,← Nat.mul_div_assoc _ d2]
  exact Nat.div_le_div_right h.z
def DyR (K i:Nat) (r:Fq×Fq):Prop:=Dy K i r.1∧Dy K i r.2
theorem DyR.le (h:DyR K i r) (hij:i≤j):DyR K j r:=⟨h.1.le hij,h.2.le hij⟩
theorem hlf_dy (h:DyR K i r):DyR K (i+1) (hlf Q r):=by
 have hm:=h.1.mid h.2
 unfold hlf
 split
 ·exact h.le (Nat.le_succ _)
 ·split
  ·exact ⟨hm.nf,hm.nf⟩
  ·split
   ·exact ⟨hm,h.2.up⟩
   ·exact ⟨h.1.up,hm⟩
structure DyW (K:Nat) (W:Rat) (i:Nat) (r:Fq×Fq):Prop where
 d:DyR K i r
 w:r.1.v=r.2.v∨(r.2.v-r.1.v)*2^i=W
theorem pow2_succ (i:Nat):(2:Rat)^(i+1)=2^i*2:=by rw [Rat.pow_succ]
theorem hlf_dw {W:Rat} (h:DyW K W i r):DyW K W (i+1) (hlf Q r):=by
 refine ⟨hlf_dy h.d,?_⟩
 have hv:=Fq.mid_v h.d.1.p h.d.2.p
 have h0:=fcmp_zero h.d.1.p h.d.2.p
 unfold hlf
 split
 ·rename_i c
  exact .inl (h0.1 c)
 ·rename_i c
  have hw:=h.w.resolve_left fun e=>c (h0.2 e)
  split
  ·exact .inl rfl
  ·split
   ·refine .inr ?_
    show (r.2.v-(r.1.mid r.2).v)*2^(i+1)=W
    rw [hv.1,pow2_succ]
    grind
   ·refine .inr ?_
    show ((r.1.mid r.2).v-r.1.v)*2^(i+1)=W
    rw [hv.1,pow2_succ]
    grind
theorem isl_dw {PS:List (List Int)} {W:Rat}:∀ (n i:Nat) (a b:Fq),Dy K i a→Dy K i b→(b.v-a.v)*2^i=W→∀ r∈isl Q PS n a b,∃ j,i≤j∧j≤i+n∧DyW K W j r
 | 0,_,_,_,_,_,_,r,hr=>by simp [isl] at hr
 | n+1,i,a,b,ha,hb,hw,r,hr=>by
   have e:isl Q PS (n+1) a b=if icnt Q PS a b<1 then [] else if icnt Q PS a b=1∧a.sgn Q≠0∧b.sgn Q≠0 then [(a.nf,b.nf)] else isl Q PS n a (a.mid b) ++ (if (a.mid b).sgn Q=0 then [((a.mid b).nf,(a.mid b).nf)] else []) ++ isl Q PS n (a.mid b) b:=rfl
   rw [e] at hr
   have hm:=ha.mid hb
   have hv:=Fq.mid_v ha.p hb.p
   by_cases c1:icnt Q PS a b<1
   ·rw [if_pos c1] at hr;simp at hr
   rw [if_neg c1] at hr
   by_cases c2:icnt Q PS a b=1∧a.sgn Q≠0∧b.sgn Q≠0
   ·rw [if_pos c2,List.mem_singleton] at hr
    rw [hr]
    refine ⟨i,Nat.le_refl _,by omega,⟨ha.nf,hb.nf⟩,.inr ?_⟩
    show (b.nf.v-a.nf.v)*2^i=W
    rw [(Fq.nf_v ha.p).1,(Fq.nf_v hb.p).1]
    exact hw
   rw [if_neg c2] at hr
   rcases List.mem_append.1 hr with hr | hr
   ·rcases List.mem_append.1 hr with hr | hr
    ·obtain ⟨j,j1,j2,j3⟩:=isl_dw (W:=W) n (i+1) a (a.mid b) ha.up hm (by rw [hv.1,pow2_succ];grind) r hr
     exact ⟨j,by omega,by omega,j3⟩
    ·split at hr
     ·rw [List.mem_singleton] at hr
      rw [hr]
      exact ⟨i+1,by omega,by omega,⟨hm.nf,hm.nf⟩,.inl rfl⟩
     ·simp at hr
   ·obtain ⟨j,j1,j2,j3⟩:=isl_dw (W:=W) n (i+1) (a.mid b) b hm hb.up (by rw [hv.1,pow2_succ];grind) r hr
    exact ⟨j,by omega,by omega,j3⟩
theorem nn_zb2 (h:SqF Q 16):(cbn Q+1)*2^(NN+2500)≤ZB:=by
 have h1:=cbn_le h
 have h2:BB^17+1≤BB^18:=by
  have h3:BB^17<BB^18:=Nat.pow_lt_pow_right (by rw [BB_eq];decide) (by decide)
  omega
 obtain ⟨k,hk⟩:∃ k:Nat,k=18:=⟨_,rfl⟩
 have h4:cbn Q+1≤2^(32*k):=by rw [← bb_two,hk];omega
 have e:ZB=2^(32*ZK):=by unfold ZB;rw [bb_two]
 refine Nat.le_trans (Nat.mul_le_mul_right _ h4) ?_
 rw [e,← Nat.pow_add]
 exact Nat.pow_le_pow_right (by decide) (by rw [hk,NN_eq,ZK_eq];decide)
theorem DyR.fqb {N:Nat} (h:DyR K i r) (hi:i≤N) (hN:(K+1)*2^N≤ZB):FqB r.1∧FqB r.2∧(i+1≤N→FqB (r.1.mid r.2)):=⟨h.1.fqb hi hN,h.2.fqb hi hN,fun h2=>(h.1.mid h.2).fqb h2 hN⟩
theorem proots_dw (f:List Int):∀ r∈proots f,∃ j,j≤NN+1∧DyW (cbn (qpart f)) (2*(cbn (qpart f):Nat)) j r:=by
 unfold proots
 by_cases h:plen (qpart f)<2
 ·rw [if_pos h];intro r hr;simp at hr
 ·rw [if_neg h]
  have hv:=end_v (cbn (qpart f))
  intro r hr
  obtain ⟨j,_,j2,j3⟩:=isl_dw (K:=cbn (qpart f)) (W:=2*((cbn (qpart f):Nat):Rat)) (NN+1) 0 ⟨-((cbn (qpart f):Nat):Int),1⟩ ⟨((cbn (qpart f):Nat):Int),1⟩ ⟨Nat.one_pos,by simp,by simp⟩ ⟨Nat.one_pos,by simp,by simp⟩ (by rw [hv.1,hv.2,Rat.pow_zero];grind) r hr
  exact ⟨j,by omega,j3⟩
end
end Go.Proofs.YtbfddopopajgaaaGreat
namespace Go.Proofs.YtbfddopopajgaaaGreat
open Go.RowKit
theorem bez2o {S T:List Int} {k:Nat} (tS:ptrim S=S) (tT:ptrim T=T) (l2:2≤plen T) (lT:plen T≤plen S) (l10:plen S≤10) (hb:∀ j,(S.getD j 0).natAbs≤BB^k) (hd:∀ j,(T.getD j 0).natAbs≤BB^k) (hk:k≤60) (hc:∀ p,Dvq p S→Dvq p T→plen p≤1) :
 ∃ (U V:List Int) (c:Int),c≠0∧U.length≤10∧V.length≤10∧(∀ j,(U.getD j 0).natAbs≤BB^(20*(k+3)))∧(∀ j,(V.getD j 0).natAbs≤BB^(20*(k+3)))∧∀ x,ev U x*ev S x+ev V x*ev T x=c:=by
 have lS:S.length=plen S:=by rw [← ptrim_length,tS]
 have lT2:T.length=plen T:=by rw [← ptrim_length,tT]
 obtain ⟨m,hm⟩:∃ m,plen S=m+1:=⟨plen S-1,by omega⟩
 obtain ⟨n,hn⟩:∃ n,plen T=n+1:=⟨plen T-1,by omega⟩
 have hG:1≤BB^(k+2):=Nat.pow_pos BB_pos
 have ok:GOK (BB^(k+2)) m n 0 1100:=gok_big (by omega) hG (Nat.pow_lt_pow_right (by rw [BB_eq];decide) (by omega))
 have hb':∀ j,(S.getD j 0).natAbs≤BB^(k+1):=fun j=>Nat.le_trans (hb j) (bbk_le (by omega))
 have hd':∀ j,(T.getD j 0).natAbs≤BB^(k+1):=fun j=>Nat.le_trans (hd j) (bbk_le (by omega))
 have up:∀ {x:Nat},x≤BB^(k+1)→x*(m+n)≤BB^(k+2):=fun hx=>by
  rw [Nat.pow_succ]
  exact Nat.mul_le_mul hx (by rw [BB_eq];omega)
 have hs:=sinv_start (f:=S) (g:=T) (m:=m) (n:=n) (G:=BB^(k+2)) (e:=0) (by omega) (by omega) (by omega) (by omega) (by omega) (by omega) hG (fun j=>Nat.le_trans (hb' j) (bbk_le (by omega))) (fun j=>Nat.le_trans (hd' j) (bbk_le (by omega)))
 have hlow:∀ p,Comb S T p→1≤plen p→0+1≤plen p:=fun p _ h=>by omega
 obtain ⟨_,d1,d2⟩:=SInv.spec ok hlow (fun j=>up (hb' j)) (fun j=>up (hd' j)) 20 _ _ hs (by show T.length≤20;omega)
 obtain ⟨L,hL⟩:∃ L,L=lst T (rsq 20 ⟨S,T,-1,(-1)^(S.length-T.length+1)⟩):=⟨_,rfl⟩
 have hl1:plen L≤1:=by rw [hL];exact hc _ d1 d2
 have hl0:plen L≠0:=by
  rw [hL]
  intro e0
  obtain ⟨c,q,hc0,e⟩:=d2
  have:plen T=0:=by
   refine Classical.byContradiction fun hn=>?_
   refine (plen_cmul (p:=T) (r:=psc c T) hc0 (fun t=>ev_psc _ _ _)).2 hn ?_
   rw [plen_ev (r:=polymul q (lst T (rsq 20 ⟨S,T,-1,(-1)^(S.length-T.length+1)⟩))) fun t=>by rw [ev_psc,ev_mul,e]]
   exact rmul_zero (.inr e0)
  omega
 obtain ⟨U,V,c,c0,u1,u2,u3,u4,u5⟩:=SInv.uv ok hlow (fun j=>up (hb' j)) (fun j=>up (hd' j)) hb' hd' 20 _ _ hs (by show T.length≤20;omega) (by show 2≤T.length;omega) (by show plen (lst T _)=1;rw [← hL];omega)
 have hbd:((n+m)*BB^(k+1)+1)^(n+m)≤BB^(20*(k+3)):=by
  have x1:(n+m)*BB^(k+1)+1≤BB^(k+2):=by
   have:BB^(k+1)*20≤BB^(k+1)*BB:=Nat.mul_le_mul_left _ (by rw [BB_eq];decide)
   have h1:1≤BB^(k+1):=Nat.pow_pos BB_pos
   have h2:(n+m)*BB^(k+1)≤19*BB^(k+1):=Nat.mul_le_mul_right _ (by omega)
   have e9:BB^(k+2)=BB^(k+1)*BB:=Nat.pow_succ ..
   rw [e9]
   omega
  calc ((n+m)*BB^(k+1)+1)^(n+m)≤(BB^(k+2))^(n+m):=Nat.pow_le_pow_left x1 _
   _=BB^((k+2)*(n+m)):=by rw [← Nat.pow_mul]
   _≤BB^(20*(k+3)):=bbk_le (by
    have:(k+2)*(n+m)≤(k+2)*20:=Nat.mul_le_mul_left _ (by omega)
    omega)
 exact ⟨U,V,c,c0,by omega,by omega,fun j=>Nat.le_trans (u3 j) hbd,fun j=>Nat.le_trans (u4 j) hbd,u5⟩
theorem bez2 {S T:List Int} {k:Nat} (tS:ptrim S=S) (tT:ptrim T=T) (lS:2≤plen S) (lT:2≤plen T) (l10:plen S≤10) (t10:plen T≤10) (hb:∀ j,(S.getD j 0).natAbs≤BB^k) (hd:∀ j,(T.getD j 0).natAbs≤BB^k) (hk:k≤60) (hc:∀ p,Dvq p S→Dvq p T→plen p≤1) :
 ∃ (U V:List Int) (c:Int),c≠0∧U.length≤10∧V.length≤10∧(∀ j,(U.getD j 0).natAbs≤BB^(20*(k+3)))∧(∀ j,(V.getD j 0).natAbs≤BB^(20*(k+3)))∧∀ x,ev U x*ev S x+ev V x*ev T x=c:=by
 rcases Nat.le_total (plen T) (plen S) with h | h
 ·exact bez2o tS tT lT h l10 hb hd hk hc
 ·obtain ⟨U,V,c,c0,u1,u2,u3,u4,u5⟩:=bez2o tT tS lS h t10 hd hb hk (fun p p1 p2=>hc p p2 p1)
  exact ⟨V,U,c,c0,u2,u1,u4,u3,fun x=>by rw [← u5 x,Int.add_comm]⟩
theorem sep2o {S T:List Int} {k:Nat} (tS:ptrim S=S) (tT:ptrim T=T) (lS:2≤plen S) (lT:2≤plen T) (l10:plen S≤10) (t10:plen T≤10) (hbS:∀ j,(S.getD j 0).natAbs≤BB^(k+6)) (hbT:∀ j,(T.getD j 0).natAbs≤BB^(k+6)) (hk:k≤50) (hc:∀ p,Dvq p S→Dvq p T→plen p≤1) {M a b:Rat} (hM:1≤M) (ha:-M≤a) (hb:b≤M) {x y:Pt} (hx:sgp S x=0) (hy:sgp T y=0) (hxy:x<y) (hax:¬ x<Pt.of a) (hyb:¬ Pt.of b<y):1≤sepD k M*(b-a):=by
 obtain ⟨U,V,c,c0,u1,u2,u3,u4,u5⟩:=bez2 tS tT lS lT l10 t10 hbS hbT (by omega) hc
 refine Classical.byContradiction fun hcon=>?_
 have hid:∀ q,pv U q*pv S q+pv V q*pv T q=(c:Rat):=fun q=>by
  have e1:=pv_congr (padd (polymul U S) (polymul V T)) [c] (ev_inj (fun x=>by rw [ev_padd,ev_mul,ev_mul,ev_const,u5])) q
  rw [pv_padd,pv_polymul,pv_polymul] at e1
  rw [e1]
  show (c:Rat)+q*0=c
  grind
 obtain ⟨BU,hBU⟩:∃ B,B=10*((BB^(20*(k+9)):Nat):Rat)*M^10:=⟨_,rfl⟩
 obtain ⟨K,hK⟩:∃ K,K=100*((BB^(k+6):Nat):Rat)*M^10:=⟨_,rfl⟩
 have hp10:=pow_one_le hM 10
 have hBU0:1≤BU:=by
  have:(1:Rat)≤((BB^(20*(k+9)):Nat):Rat):=by
   have:1≤BB^(20*(k+9)):=Nat.pow_pos BB_pos
   exact_mod_cast this
  rw [hBU]
  have:=Rat.mul_le_mul_of_nonneg_left hp10 (show 0≤10*((BB^(20*(k+9)):Nat):Rat) by grind)
  grind
 have hK0:0≤K:=by
  rw [hK]
  have:(0:Rat)≤((BB^(k+6):Nat):Rat):=by exact_mod_cast Nat.zero_le _
  exact Rat.mul_nonneg (by grind) (by grind)
 have hD:sepD k M=2*BU*K+1:=by unfold sepD;rw [← hBU,← hK]
 rw [hD] at hcon
 obtain ⟨e,he⟩:∃ e:Rat,e=1 / (8*BU):=⟨_,rfl⟩
 have he0:0<e:=by rw [he,Rat.div_def,Rat.one_mul];exact Rat.inv_pos.2 (by grind)
 have heB:BU*e=1 / 8:=by rw [he,Rat.div_def,Rat.div_def];grind
 obtain ⟨l1,v1,n1,f1⟩:=sgf_sml (lp_pv S) hx e he0
 obtain ⟨l3,v3,n3,f3⟩:=sgf_sml (lp_pv T) hy e he0
 obtain ⟨y1,w1,w2,w3⟩:=Pt.two_up (x:=x) (a:=Pt.of v1) (b:=y) (Pt.lt_of.2 n1.2) hxy
 obtain ⟨r,r1,r2⟩:=Pt.mid w1
 obtain ⟨y2,w4,w5,w6⟩:=Pt.two_lo (x:=y) (a:=Pt.of l3) (b:=x) (Pt.of_lt.2 n3.1) hxy
 obtain ⟨q,q1,q2⟩:=Pt.mid w4
 have hlr:l1<r:=Pt.of_lt_of.1 (Pt.lt_trans (Pt.of_lt.2 n1.1) r1)
 have hrv:r<v1:=Pt.of_lt_of.1 (Pt.lt_trans r2 w2)
 have hlq:l3<q:=Pt.of_lt_of.1 (Pt.lt_trans w5 q1)
 have hqv:q<v3:=Pt.of_lt_of.1 (Pt.lt_trans q2 (Pt.lt_of.2 n3.2))
 have hle:∀ {s t:Pt},¬ s<t→∀ {r:Pt},s<r→t<r:=fun {s t} h {r} h1=>by
  rcases Pt.tri s t with c | c | c
  ·exact absurd c h
  ·rw [← c];exact h1
  ·exact Pt.lt_trans c h1
 have hge:∀ {s t:Pt},¬ s<t→∀ {r:Pt},r<t→r<s:=fun {s t} h {r} h1=>by
  rcases Pt.tri s t with c | c | c
  ·exact absurd c h
  ·rw [c];exact h1
  ·exact Pt.lt_trans h1 c
 have har:a<r:=Pt.of_lt_of.1 (hle hax r1)
 have hrb:r<b:=Pt.of_lt_of.1 (hge hyb (Pt.lt_trans r2 w3))
 have haq:a<q:=Pt.of_lt_of.1 (hle hax (Pt.lt_trans w6 q1))
 have hqb:q<b:=Pt.of_lt_of.1 (hge hyb q2)
 obtain ⟨s1,s2⟩:=f1 r hlr hrv
 obtain ⟨s3,s4⟩:=f3 q hlq hqv
 have hlS':S.length≤10:=by rw [← tS,ptrim_length];exact l10
 obtain ⟨p1,p2⟩:=pv_lip10 (w:=b-a) hM hlS' hbS (q:=q) (r:=r) (by grind) (by grind) (by grind) (by grind) (by grind) (by grind)
 rw [← hK] at p1 p2
 obtain ⟨b1,b2⟩:=pv_bd10 hM u1 u3 q (by grind) (by grind)
 obtain ⟨b3,b4⟩:=pv_bd10 hM u2 u4 q (by grind) (by grind)
 rw [show k+6+3=k+9 by omega,← hBU] at b1 b2 b3 b4
 have hs:=hid q
 obtain ⟨w,hw⟩:∃ w,w=b-a:=⟨_,rfl⟩
 rw [← hw] at p1 p2 hcon
 have hw0:0<w:=by rw [hw];grind
 have m1:=rmul_bd (a:=pv U q) (b:=pv S q) (e:=BU) (k:=e+K*w) b1 b2 (by grind) (by grind)
 have m2:=rmul_bd (a:=pv V q) (b:=pv T q) (e:=BU) (k:=e) b3 b4 s3 s4
 have hKw:0≤BU*(K*w):=Rat.mul_nonneg (by grind) (Rat.mul_nonneg hK0 (by grind))
 have ec:BU*(e+K*w)=1 / 8+BU*(K*w):=by rw [Rat.mul_add,heB]
 have hcc:(1:Rat)≤(c:Rat)∨(c:Rat)≤-1:=by
  rcases Int.lt_or_lt_of_ne c0 with h1 | h1
  ·right
   have:((c:Int):Rat)≤((-1:Int):Rat):=Rat.intCast_le_intCast.2 (by omega)
   exact this
  ·left
   have:((1:Int):Rat)≤((c:Int):Rat):=Rat.intCast_le_intCast.2 (by omega)
   exact this
 have hcon2:2*(BU*(K*w))+w<1:=by
  have:(2*BU*K+1)*w<1:=by grind
  grind
 rcases hcc with h1 | h1<;>grind
structure Cop (G T:List Int) (y:Pt):Prop where
 t:ptrim T=T
 n:plen T≠0
 d:∃ W:List Int,∀ x,ev G x=ev T x*ev W x
 r:sgp T y=0
theorem cop_ex {P G:List Int} {y:Pt} (h0:plen P≠0) (hP:sgp P y≠0):∀ (n:Nat) (T:List Int),plen T≤n→Cop G T y→∃ T',Cop G T' y∧∀ p,Dvq p P→Dvq p T'→plen p≤1:=by
 intro n
 induction n with
 | zero=>intro T hn hT;exact absurd hT.n (by omega)
 | succ n ih =>
   intro S hn hS
   by_cases hc:∀ p,Dvq p P→Dvq p S→plen p≤1
   ·exact ⟨S,hS,hc⟩
   ·obtain ⟨p,hp⟩:=Classical.not_forall.1 hc
    obtain ⟨p2,hp⟩:=Classical.not_imp.1 hp
    obtain ⟨p1,hp⟩:=Classical.not_imp.1 hp
    have p0:plen p≠0:=by omega
    obtain ⟨c,q,hc0,e⟩:=p1
    have hk:=gp_ne p0
    have e2:∀ x,ev p x=(sg (plead p)*(pcont p:Int))*ev (pprim p) x:=fun x=>by
     rw [← ev_psc]
     exact ev_congr (fun k=>by rw [psc_get];exact gp_get p0 k) x
    obtain ⟨s,hs⟩:=gauss_div (l:=pprim p) (f:=S) (r:=psc (sg (plead p)*(pcont p:Int)) q) (gp_cont p0) hc0 (fun x=>by rw [e,e2,ev_psc];grind)
    obtain ⟨T,hT⟩:∃ T,T=ptrim s:=⟨_,rfl⟩
    have hST:∀ x,ev S x=ev (pprim p) x*ev T x:=fun x=>by rw [hT,ev_ptrim];exact hs x
    have T0:plen T≠0:=fun e0=>hS.n (by rw [plen_ev (r:=polymul (pprim p) T) fun x=>by rw [ev_mul,hST]];exact rmul_zero (.inr e0))
    have q0:plen (pprim p)≠0:=by rw [gp_plen];exact p0
    have hl:plen S=plen (pprim p)+plen T-1:=by
     rw [plen_ev (r:=polymul (pprim p) T) fun x=>by rw [ev_mul,hST]]
     exact (plen_mul (by omega) (by omega)).1
    rw [gp_plen] at hl
    obtain ⟨W,hW⟩:=hS.d
    have hm:mult y S=mult y (pprim p)+mult y T:=mult_ev_mul hST q0 T0 y
    have hpm:mult y p=mult y (pprim p):=mult_cmul hk e2 q0 y
    refine ih T (by omega) ⟨by rw [hT,ptrim_ptrim],T0,⟨polymul (pprim p) W,fun x=>by rw [hW,hST,ev_mul];grind⟩,?_⟩
    have h5:=dvq_mult p2 h0 y
    have h6:mult y P=0:=(mult_zero h0).2 hP
    have h7:mult y S≠0:=fun e=>(mult_zero hS.n).1 e hS.r
    refine Classical.byContradiction fun hn=>?_
    have h8:=(mult_zero T0).2 hn
    omega
theorem sep_two {P G:List Int} {k:Nat} (h:SqF P k) (hk:k≤50) (tG:ptrim G=G) (lG:plen G≤10) (bG:∀ j,(G.getD j 0).natAbs≤BB^k) {M a b:Rat} (hM:1≤M) (ha:-M≤a) (hb:b≤M) {x y:Pt} (hx:sgp P x=0) (gx:sgp G x≠0) (hy:sgp G y=0) (x1:¬ x<Pt.of a) (x2:¬ Pt.of b<x) (y1:¬ y<Pt.of a) (y2:¬ Pt.of b<y):1≤sepD k M*(b-a):=by
 by_cases c:sgp P y=0
 ·rcases Pt.tri x y with t | t | t
  ·exact sep h hk hM ha hb hx c t x1 y2
  ·rw [t] at gx;exact absurd hy gx
  ·exact sep h hk hM ha hb c hx t y1 x2
 ·have g0:plen G≠0:=fun e=>gx (sgp_zero e x)
  obtain ⟨T,hT,hc⟩:=cop_ex (G:=G) h.q0 c (plen G) G (Nat.le_refl _) ⟨tG,g0,⟨[1],fun x=>by rw [ev_const,Int.mul_one]⟩,hy⟩
  obtain ⟨W,hW⟩:=hT.d
  have hbT:∀ j,(T.getD j 0).natAbs≤BB^(k+6):=factor_le (by omega) g0 bG (g:=W) (fun x=>by rw [hW,Int.mul_comm])
  have hbP:∀ j,(P.getD j 0).natAbs≤BB^(k+6):=fun j=>Nat.le_trans (h.b j) (bbk_le (by omega))
  have hlT:plen T≤10:=Nat.le_trans (dvq_plen ⟨1,W,by decide,fun x=>by rw [Int.one_mul,hW,Int.mul_comm]⟩ g0) lG
  have two:∀ {S:List Int},plen S≠0→∀ {x:Pt},sgp S x=0→2≤plen S:=fun {S} h1 {x} hx=>by
   refine Classical.byContradiction fun hn=>?_
   have h2:=sgp_one (p:=S) (by omega) x
   rw [hx] at h2
   exact sg_ne (plead_ne h1) h2.symm
  have lP:=two h.q0 hx
  have lT:=two hT.n hT.r
  rcases Pt.tri x y with t | t | t
  ·exact sep2o h.t hT.t lP lT h.len hlT hbP hbT hk hc hM ha hb hx hT.r t x1 y2
  ·rw [t] at gx;exact absurd hy gx
  ·exact sep2o hT.t h.t lT lP hlT h.len hbT hbP hk (fun p p1 p2=>hc p p2 p1) hM ha hb hT.r hx t y1 x2
end Go.Proofs.YtbfddopopajgaaaGreat
namespace Go.Proofs.YtbfddopopajgaaaGreat
open Go Go.RowKit
noncomputable def sgA (Q:List Int) (r:Fq×Fq) (g:List Int):Int:=if fcmp r.1 r.2=0 then r.1.sgn g else nquery Q g r.1.z r.1.q r.2.z r.2.q
theorem sgA_eq {f Q g:List Int} {r:Fq×Fq} {x:Pt} (h:P9 Q) (l6:plen Q≤6) (hg:G6 g) (h0:plen Q≠0) (e:∀ y,sgp f y=0↔sgp Q y=0) (ha:FqB r.1) (hb:FqB r.2) (hi:IsoV f x r.1 r.2):sgA Q r g=sgp g x:=by
 have hle:=hi.le
 unfold sgA
 by_cases c:fcmp r.1 r.2=0
 ·rw [if_pos c,sgn_pt ha.p]
  have:=(fcmp_zero ha.p hb.p).1 c
  rcases hi.2 with h2 | h2
  ·rw [h2.2]
  ·grind
 rw [if_neg c]
 have hlt:r.1.v<r.2.v:=by
  have:r.1.v≠r.2.v:=fun e=>c ((fcmp_zero ha.p hb.p).2 e)
  grind
 rcases hi.2 with h2 | ⟨_,n1,n2,x1,x2,hu⟩
 ·grind
 have hx:Lst (fun y=>sgp Q y=0∧Pt.of ((r.1.z:Rat) / (r.1.q:Rat))<y∧(y<Pt.of ((r.2.z:Rat) / (r.2.q:Rat))∨y=Pt.of ((r.2.z:Rat) / (r.2.q:Rat)))) [x]:=by
  refine ⟨List.pairwise_singleton _ _,fun y=>?_⟩
  rw [List.mem_singleton]
  refine ⟨fun ey=>by rw [ey];exact ⟨(e x).1 hi.1,x1,.inl x2⟩,fun ⟨y1,y2,y3⟩=>hu y ((e y).2 y1) y2 (y3.resolve_right fun ey=>n2 ?_)⟩
  have:sgp f y=0:=(e y).2 y1
  rw [ey] at this
  exact this
 rw [nquery_sum h l6 hg h0 ha.p hb.p ha.z ha.q hb.z hb.q ((vld_lt ha.p hb.p).2 hlt) (Pt.of_lt_of.2 hlt) hx]
 show sgp g x+0=_
 omega
set_option maxRecDepth 100000 in
set_option maxHeartbeats 4000000 in
theorem tsign_any {I J:IntPred} (hI:IK I) (hJ:IK J) {w:World} {Ap:Option Addr} {lp cp:Nat} {Q:List Int} {Ag:Option Addr} {lg cg:Nat} {g:List Int} {r:Fq×Fq} {n:Bool} {A:Option Addr} {l c:Nat} {B:Option Addr} {m d:Nat} {n':Bool} {A':Option Addr} {l' c':Nat} {B':Option Addr} {m' d':Nat}
 (hp:PolyP I w Ap lp cp Q) (hlp:lp≤1000000) (h9:P9 Q) (l6:plen Q≤6) (hg:PolyP J w Ag lg cg g) (g6:G6 g) (hz:IntN w n A l c r.1.z) (hq:NatN w B m d r.1.q) (hz':IntN w n' A' l' c' r.2.z) (hq':NatN w B' m' d' r.2.q) (ha:FqB r.1) (hb:FqB r.2) :
 Calls Tryz.prog 53 #[.slice Ap lp cp,.agg #[.bool n,.slice A l c,.slice B m d,.bool n',.slice A' l' c',.slice B' m' d'],.slice Ag lg cg] w fun e w'=>e=.returned (.int .i64 (sgA Q r g))∧Below w.heap.size w w':=by
 have o1:=below_new w (tbox n A l c B m d n' A' l' c' B' m' d')
 have T:=Lib.hid (TBox.make hz hq hz' hq')
 have HP:=Lib.hid (hp.below hI o1)
 have HG:=Lib.hid (hg.below hJ o1)
 have Hb:=Lib.hid o1
 have hlg:lg≤6:=by have:=hg.length;have:=g6.len;omega
 have p1:=ha.p
 have p2:=hb.p
 have cg:CP g:=⟨by have:=g6.plen;omega,fun j=>Nat.le_trans (g6.b j) (by have:=bbk_le (show 1≤32 by decide);rw [Nat.pow_one] at this;exact this)⟩
 have pg:=cg.at (z:=r.1.z) (q:=r.1.q) (by have:=g6.len;omega) ha.z ha.q
 obtain ⟨V,hV⟩:∃ V,V=sgA Q r g:=⟨_,rfl⟩
 rw [← hV]
 unfold sgA at hV
 obtain ⟨S,hS⟩:∃ S,S=r.1.sgn g:=⟨_,rfl⟩
 obtain ⟨U,hU⟩:∃ U,U=nquery Q g r.1.z r.1.q r.2.z r.2.q:=⟨_,rfl⟩
 rw [← hS,← hU] at hV
 have HV:=Lib.hid hV
 have HS:=Lib.hid hS
 have HU:=Lib.hid hU
 clear hz hq hz' hq' o1 hp hg hV hS hU cg
 go_enter Tryz.func53,Tryz.ntmps53
 have x0:=T.out.r.c0;have x1:=T.out.r.c1;have x2:=T.out.r.c2;have x3:=T.out.c3;have x4:=T.out.c4;have x5:=T.out.c5
 go_wp2_with fail
 refine (rcmp_any _ _ _ _ _ _ _ _ _ _ _ _ _ _ _ _ _ _ _ T.out.r.hz.at_ T.out.r.hq.at_ T.out.hz.at_ T.out.hq.at_ (by omega) (by omega) ha.fz ha.fq hb.fz hb.fq).mono ?_
 rintro e w1 ⟨rfl,hb1⟩
 obtain ⟨C,hC⟩:∃ C,C=fcmp r.1 r.2:=⟨_,rfl⟩
 rw [show cmpz (r.1.z*(r.2.q:Int)) (r.2.z*(r.1.q:Int))=C from hC.symm]
 have hV:=HV.out
 rw [← hC] at hV
 replace HV:=Lib.hid hV
 replace T:=Lib.hid (T.out.move hb1)
 replace HP:=Lib.hid (HP.out.below hI hb1)
 replace HG:=Lib.hid (HG.out.below hJ hb1)
 replace Hb:=Lib.hid (Hb.out.trans (hb1.mono Hb.out.size))
 clear hb1 hC hV x0 x1 x2 x3 x4 x5
 have x0:=T.out.r.c0;have x1:=T.out.r.c1;have x2:=T.out.r.c2;have x3:=T.out.c3;have x4:=T.out.c4;have x5:=T.out.c5
 by_cases c0:C=0
 ·have b1:(C == 0)=true:=by rw [c0];rfl
  have EV:=Lib.hid (show V=S by rw [HV.out,if_pos c0])
  clear c0
  go_wp2_with fail
  refine (signat_any hJ _ _ _ g _ _ _ _ _ _ _ _ _ _ HG.out pg.fit (by omega) T.out.r.hz T.out.r.hq ha.at.u ha.at.v ha.at.pos pg.ok ha.at.fz ha.at.fq).mono ?_
  rintro e w4 ⟨he,hb4⟩
  have he2:e=.returned (.int .i64 S):=by rw [HS.out];exact he
  subst he2
  replace Hb:=Lib.hid (Hb.out.trans (hb4.mono Hb.out.size))
  clear he hb4 T HP HG x0 x1 x2 x3 x4 x5
  go_wp2
  go_ret
  exact ⟨by first | (rw [EV.out];done) | (rw [EV.out];rfl),Hb.out⟩
 ·have b1:(C == 0)=false:=by rw [beq_eq_false_iff_ne];exact c0
  have EV:=Lib.hid (show V=U by rw [HV.out,if_neg c0])
  clear c0
  go_wp2_with fail
  refine (query_any hI hJ _ _ _ Q _ _ _ g _ _ _ _ _ _ _ _ _ _ _ _ _ _ _ _ _ _ _ HP.out HG.out hlp h9 l6 g6 T.out.r.hz T.out.r.hq T.out.hz T.out.hq ha.at hb.at ha.z ha.q hb.z hb.q).mono ?_
  rintro e w4 ⟨he,hb4⟩
  have he2:e=.returned (.int .i64 U):=by rw [HU.out];exact he
  subst he2
  replace Hb:=Lib.hid (Hb.out.trans (hb4.mono Hb.out.size))
  clear he hb4 T HP HG x0 x1 x2 x3 x4 x5
  go_wp2
  go_ret
  exact ⟨by first | (rw [EV.out];done) | (rw [EV.out];rfl),Hb.out⟩
def SlC (u:Value):Prop:=∃ A l c,u=.slice A l c
theorem slC_nd (u:Value) (h:SlC u):Nd u:=by obtain ⟨A,l,c,rfl⟩:=h;exact nd_slice _ _ _
def PolR (w:World) (p:List Int) (vs:List Value):Prop:=∃ A l c,vs=[.slice A l c]∧PolyN w A l c p
def CodR (w:World) (xs:List Int) (vs:List Value):Prop:=∃ A l c,vs=[.slice A l c]∧I64At w A l c xs
section
variable {w w':World} {p xs:List Int} {vs:List Value} {g:Nat}
theorem PolR.below (h:PolR w p vs) (hb:Below w.heap.size w w'):PolR w' p vs:=by
 obtain ⟨A,l,c,e,h1⟩:=h
 exact ⟨A,l,c,e,h1.below ikN hb⟩
theorem PolR.len (h:PolR w p vs):vs.length=1:=by obtain ⟨A,l,c,e,h1⟩:=h;rw [e];rfl
theorem PolR.sl (h:PolR w p vs):∀ v∈vs,SlC v:=by
 obtain ⟨A,l,c,e,h1⟩:=h
 intro v hv
 rw [e,List.mem_singleton] at hv
 exact ⟨A,l,c,hv⟩
theorem PolR.frs (h:PolR w p vs) (hf:FrS g g w w') (hc:∀ o u,w.cell? ⟨g,o,none⟩=some u→SlC u):PolR w' p vs:=by
 obtain ⟨A,l,c,e,h1⟩:=h
 have hnd:NdB w g:=fun o u hu=>(slC_nd u (hc o u hu)).1
 refine ⟨A,l,c,e,PolyG.frs (g:=g) (g':=g) ⟨h1,?_⟩ hf hnd hnd⟩
 rcases h1.elems with h0 | ⟨b,o,hA,hlt,he⟩
 ·exact .inl h0
 ·rcases Nat.eq_zero_or_pos l with h0 | h0
  ·exact .inl h0
  ·have hne:b≠g:=fun e=>by
    subst e
    obtain ⟨neg,_,_,_,f1,_,_⟩:=he 0 h0
    obtain ⟨_,_,_,e2⟩:=hc _ _ f1
    cases e2
   exact .inr ⟨b,o,hA,hne,hne⟩
theorem CodR.below (h:CodR w xs vs) (hb:Below w.heap.size w w'):CodR w' xs vs:=by
 obtain ⟨A,l,c,e,h1⟩:=h
 exact ⟨A,l,c,e,h1.below hb⟩
theorem CodR.len (h:CodR w xs vs):vs.length=1:=by obtain ⟨A,l,c,e,h1⟩:=h;rw [e];rfl
theorem CodR.sl (h:CodR w xs vs):∀ v∈vs,SlC v:=by
 obtain ⟨A,l,c,e,h1⟩:=h
 intro v hv
 rw [e,List.mem_singleton] at hv
 exact ⟨A,l,c,hv⟩
theorem CodR.frs (h:CodR w xs vs) (hf:FrS g g w w') (hc:∀ o u,w.cell? ⟨g,o,none⟩=some u→SlC u):CodR w' xs vs:=by
 obtain ⟨A,l,c,e,h1⟩:=h
 refine ⟨A,l,c,e,h1.length,h1.cap,?_⟩
 rcases h1.cells with h0 | ⟨b,o,hA,hlt,he⟩
 ·exact .inl h0
 ·rcases Nat.eq_zero_or_pos l with h0 | h0
  ·exact .inl h0
  ·have hne:b≠g:=fun e=>by
    subst e
    obtain ⟨_,_,_,e2⟩:=hc _ _ (he 0 h0)
    cases e2
   exact .inr ⟨b,o,hA,Nat.lt_of_lt_of_le hlt hf.size,fun j hj=>(hf.cell hlt hne hne _).trans (he j hj)⟩
end
theorem wpList_app_own {w:World} {ops:Array Oper} {rest:List Oper} {o:Oper} {a:Act} {Q:Exit→Act→World→Prop} (hgd:o.guard=none) (s x:Operand) (t e:TypeId)
 (ho:o.op=.call { callee:=.builtin .append,args:=#[s,x],argTypes:=#[t,t] }) (E:Nat) (i0:TypeInfo) (z:Value) (ht:Tryz.prog.underlying t=some (.slice e)) (hi:Tryz.prog.info? e=some i0) (hz0:i0.zero=some z) (hz1:i0.size=E) (hz2:i0.bytes≤200) (hzs:z.cells.size=E) (C:Value→Prop) (hC:∀ u,C u→Nd u) (hzn:∀ j,j<E→C (z.cells[j]!)) (hE:0<E)
 (base:Nat) (v:Value) (us vs:List Value) (hs:a.eval s=v) (hown:OwnE C E e base w v us) (hB:base≤w.heap.size)
 (ax:Addr) (m c:Nat) (hx:a.eval x=.slice (some ax) m c) (hvl:vs.length=m*E) (hxc:∀ (j:Nat) (u:Value),vs[j]?=some u→w.cell? (ax.add j)=some u) (hvn:∀ u∈vs,C u) (hm:0<m∨v≠.slice none 0 0) (hn:us.length+vs.length≤100000000)
 (dd:Nat) (hdd:o.dst=some dd) (h:∀ v' w',GrE C E e base w v us vs v' w'→wpList Tryz.prog ops Q rest (a.put (some dd) v') w') :
 wpList Tryz.prog ops Q (o :: rest) a w :=
 wpList_plain hgd fun _ hK'=>oper_append_own s x t e ho E i0 z ht hi hz0 hz1 hz2 hzs C hC hzn hE base v us vs hs hown hB ax m c hx hvl hxc hvn hm hn dd hdd fun v' w' hg=>hK' _ _ (h v' w' hg)
theorem one_cell {w:World} {u:Value} (t:TypeId):∀ (j:Nat) (v:Value),[u][j]?=some v→(w.alloc (.cells #[u] t)).cell? ((⟨w.heap.size,0,none⟩:Addr).add j)=some v:=fun j v hv=>by
 match j,hv with
 | 0,hv=>simp at hv;subst hv;simp [Addr.add]
end Go.Proofs.YtbfddopopajgaaaGreat
namespace Go.Proofs.YtbfddopopajgaaaGreat
open Go Go.RowKit
section
variable {α:Type} {C:Value→Prop} {E t base:Nat} {R:World→α→List Value→Prop} {w w':World} {v v':Value} {us vs:List Value}
theorem GrE.mv (h:GrE C E t base w v us vs v' w') (hb:∀ x vs,Below w.heap.size w w'→R w x vs→R w' x vs) (hf:∀ g x vs,FrS g g w w'→(∀ o u,w.cell? ⟨g,o,none⟩=some u→C u)→R w x vs→R w' x vs) (x:α) (ys:List Value) (hx:R w x ys):R w' x ys:=by
 rcases h.2 with ⟨g,n,n',cap,_,_,_,_,k,f⟩ | ⟨k,_⟩
 ·exact hf g x ys f k hx
 ·exact hb x ys k hx
end
theorem polr_mv {B:Nat} {t:TypeId} {w w':World} {v v':Value} {us vs:List Value} (h:GrE SlC 1 t B w v us vs v' w') (p:List Int) (ys:List Value):PolR w p ys→PolR w' p ys:=h.mv (fun _ _ hb hx=>hx.below hb) (fun _ _ _ hf hc hx=>hx.frs hf hc) p ys
theorem codr_mv {B:Nat} {t:TypeId} {w w':World} {v v':Value} {us vs:List Value} (h:GrE SlC 1 t B w v us vs v' w') (p:List Int) (ys:List Value):CodR w p ys→CodR w' p ys:=h.mv (fun _ _ hb hx=>hx.below hb) (fun _ _ _ hf hc hx=>hx.frs hf hc) p ys
theorem slz:∀ j,j<1→SlC ((Value.slice none 0 0).cells[j]!):=fun j hj=>by
 match j,hj with
 | 0,_=>exact ⟨none,0,0,rfl⟩
theorem dk_out:∀ (m:Nat) (g:List Int),dk (m+1) g=pder (dk m g)
 | 0,_=>rfl
 | m+1,g=>dk_out m (pder g)
theorem pder_plen1 (p:List Int):plen (pder p)=plen p-1:=by
 rcases Nat.lt_or_ge (plen p) 2 with h | h
 ·have h1:=plen_le (pder p)
  rw [pder_length] at h1
  omega
 ·exact pder_plen h
theorem dk_plen:∀ (m:Nat) (g:List Int),plen (dk m g)=plen g-m
 | 0,_=>rfl
 | m+1,g=>by rw [dk_out,pder_plen1,dk_plen m g];omega
theorem dk_length (m:Nat) (g:List Int):(dk (m+1) g).length=plen g-(m+1):=by rw [dk_out,pder_length,dk_plen];omega
theorem dk_len6 {f:List Int} (hl:f.length≤6) (m:Nat):(dk m f).length≤6-m:=by
 have:=plen_le f
 match m with
 | 0=>exact hl
 | m+1=>rw [dk_length];omega
def dkl (f:List Int) (k:Nat):List (List Int):=(List.range k).map fun i=>dk (i+1) f
theorem dkl_succ (f:List Int) (k:Nat):dkl f (k+1)=dkl f k ++ [dk (k+1) f]:=by
 unfold dkl
 rw [List.range_succ,List.map_append]
 rfl
theorem dkl_len (f:List Int) (k:Nat):(dkl f k).length=k:=by unfold dkl;simp
def ders (f:List Int):List (List Int):=dkl f (plen f-1)
theorem dk_bd {M:Nat} {f:List Int} (hl:f.length≤6) (hM:∀ j,(f.getD j 0).natAbs≤M):∀ m j,((dk m f).getD j 0).natAbs≤M*5^m
 | 0,j=>by rw [Nat.pow_zero,Nat.mul_one];exact hM j
 | m+1,j=>by
   have ih:=dk_bd hl hM m (j+1)
   have hlen:=dk_len6 hl m
   rw [dk_out,pder_getD,Int.natAbs_mul]
   rcases Nat.lt_or_ge (j+1) (dk m f).length with h | h
   ·have h5:((j:Int)+1).natAbs≤5:=by omega
    rw [Nat.pow_succ,← Nat.mul_assoc]
    exact Nat.mul_le_mul ih h5
   ·rw [getD_out _ h];simp
theorem dk_g6 {f:List Int} (hl:f.length≤6) (hM:∀ j,(f.getD j 0).natAbs≤32768) {m:Nat} (hm:m≤6):G6 (dk m f):=by
 refine ⟨by have:=dk_len6 hl m;omega,fun j=>Nat.le_trans (dk_bd hl hM m j) ?_⟩
 have:5^m≤5^6:=Nat.pow_le_pow_right (by decide) hm
 have h2:=Nat.mul_le_mul_left 32768 this
 refine Nat.le_trans h2 ?_
 rw [BB_eq]
 decide
def lenv:Value→Nat
 | .slice _ l _=>l
 | _=>0
set_option maxRecDepth 100000 in
set_option maxHeartbeats 4000000 in
theorem ders_any {I:IntPred} (hI:IK I) {w:World} {Af:Option Addr} {lf cf:Nat} {f:List Int} (hf:PolyP I w Af lf cf f) (hl:f.length≤6) (hM:∀ j,(f.getD j 0).natAbs≤32768) :
 Calls Tryz.prog 81 #[.slice Af lf cf] w fun e w'=>(∃ A l c,e=.returned (.slice A l c)∧SlE 1 PolR w' A l c (ders f))∧Below w.heap.size w w':=by
 obtain ⟨i0,hi,hz0,hz1,hz2⟩:=info_parts info_poly
 have hlf:lf≤6:=by have:=hf.length;omega
 have g0:=dk_g6 hl hM (m:=0) (by omega)
 have HM:=Lib.hid hM
 have HF:=Lib.hid hf
 clear hf hM
 go_enter Tryz.func81,Tryz.ntmps81
 go_wp2_with fail
 refine (derivative_any hI _ _ _ f _ HF.out (show SmP f from g0.fit.smp) (by omega)).mono ?_
 rintro e w1 ⟨A1,l1,c1,rfl,h1,hb1⟩
 have H1:=Lib.hid h1
 have Hb1:=Lib.hid hb1
 clear h1 hb1 HF g0
 go_wp2_with fail
 go_loopw [3,4] (fun s3 s4 wr=>∃ k A l c,k≤plen f-1∧s4=.slice A l c∧PolyN wr A l c (dk (k+1) f)∧(∃ us,OwnE SlC 1 26 w.heap.size wr s3 us∧Lay (PolR wr) (dkl f k) us)∧Below w.heap.size w wr) (fun _ s4 _=>lenv s4)
 case atStart=>exact ⟨0,A1,l1,c1,Nat.zero_le _,rfl,H1.out,⟨[],OwnE.nil _ _ _ _ _,rfl⟩,Hb1.out⟩
 case round =>
  clear H1 Hb1
  obtain ⟨k,A,l,c,hk,rfl,hp,⟨us,ho,hly⟩,hbw⟩:=hrel
  have hlen:=hp.length
  rw [dk_length] at hlen
  have hpf:=plen_le f
  have hl6:l≤6:=by omega
  have g6:=dk_g6 hl HM.out (m:=k+1) (by omega)
  obtain ⟨P,hP⟩:∃ P,P=dk (k+1) f:=⟨_,rfl⟩
  rw [← hP] at hp g6
  have HPe:=Lib.hid hP
  have Hbw:=Lib.hid hbw
  have HP:=Lib.hid hp
  by_cases hl0:0<l
  ·have b1:decide (0<(l:Int))=true:=decide_eq_true (by omega)
   have b2:decide (0<l)=true:=decide_eq_true hl0
   have jb:=below_new wr (.cells #[.slice A l c] 26)
   have ho2:=ho.below jb
   have hly2:Lay (PolR (wr.alloc (.cells #[.slice A l c] 26))) (dkl f k) us:=hly.mono fun _ _ hx=>hx.below jb
   have hul:us.length=k*1:=by rw [hly.len fun x vs hx=>hx.len,dkl_len]
   have hx2:PolR (wr.alloc (.cells #[.slice A l c] 26)) P [.slice A l c]:=⟨A,l,c,rfl,hp.below ikN jb⟩
   have hsz:w.heap.size≤(wr.alloc (.cells #[.slice A l c] 26)).heap.size:=by have:=hbw.size;simp;omega
   have O:=Lib.hid (And.intro ho2 (And.intro hly2 hx2))
   have Hsz:=Lib.hid hsz
   have HB2:=Lib.hid (hbw.trans (jb.mono hbw.size))
   have Hlen:=Lib.hid hlen
   clear ho ho2 hly hly2 hx2 hsz jb hp hP hbw hlen
   go_wp2_with (at_builtin;refine wpList_app_own rfl (.tmp 12) (.tmp 14) 98 26 rfl 1 i0 (.slice none 0 0) Tryz.underlying98 hi hz0 hz1 (by rw [hz2];omega) rfl SlC slC_nd slz (by decide) w.heap.size _ us [.slice A l c] rfl O.out.1 Hsz.out ⟨wr.heap.size,0,none⟩ 1 1 rfl rfl (one_cell _) O.out.2.2.sl (.inl (by decide)) (by rw [hul];simp;omega) 15 rfl ?_)
   intro v2 w9 hgr
   have hb9:=hgr.below Hsz.out
   have hn:=polr_mv hgr _ _ O.out.2.2
   have hly9:Lay (PolR w9) (dkl f (k+1)) (us ++ [.slice A l c]):=by
    rw [dkl_succ,← HPe.out]
    exact hgr.lay O.out.2.1 (show Lay (PolR (wr.alloc (.cells #[.slice A l c] 26))) [P] [.slice A l c] from ⟨_,[],O.out.2.2,by simp,rfl⟩) (fun _ _ hb hx=>hx.below hb) (fun _ _ _ hf hc hx=>hx.frs hf hc)
   obtain ⟨_,_,_,e9,hn9⟩:=hn
   cases e9
   have O9:=Lib.hid (And.intro hgr.1 hly9)
   have HN:=Lib.hid hn9
   have Hb9:=Lib.hid (HB2.out.trans hb9)
   clear hgr hb9 hly9 hn9 O HB2 Hsz
   go_wp2_with fail
   refine (derivative_any ikN _ _ _ P _ HN.out g6.fit.smp (by omega)).mono ?_
   rintro e w10 ⟨A10,l10,c10,rfl,h10,hb10⟩
   have HN2:=Lib.hid h10
   have O10:=Lib.hid (And.intro (O9.out.1.below hb10) (O9.out.2.mono fun _ _ hx=>PolR.below hx hb10))
   have Hb10:=Lib.hid (Hb9.out.trans (hb10.mono Hb9.out.size))
   have hl10:l10<l:=by
    have h1:=h10.length
    rw [pder_length,HPe.out,dk_plen] at h1
    have:=Hlen.out
    omega
   clear h10 hb10 O9 HN Hb9
   go_wp2_with fail
   go_roundw
   case rel=>exact ⟨k+1,A10,l10,c10,by have:=Hlen.out;omega,rfl,by rw [dk_out,← HPe.out];exact HN2.out,⟨_,O10.out.1,O10.out.2⟩,Hb10.out⟩
   case measure=>exact hl10
  ·have b1:decide (0<(l:Int))=false:=decide_eq_false (by omega)
   have b2:decide (0<l)=false:=decide_eq_false hl0
   have hk2:k=plen f-1:=by omega
   obtain ⟨A9,l9,c9,e9,h9⟩:=ho.sle (by decide) hly fun x vs hx=>hx.len
   subst e9
   have FX:=Lib.hid (show SlE 1 PolR wr A9 l9 c9 (ders f) by unfold ders;rw [← hk2];exact h9)
   clear ho hly hp hP hlen h9 hk2 HPe HP
   go_wp2_with fail
   go_ret
   exact ⟨⟨_,_,_,rfl,FX.out⟩,Hbw.out⟩
end Go.Proofs.YtbfddopopajgaaaGreat
namespace Go.Proofs.YtbfddopopajgaaaGreat
open Go Go.RowKit
theorem SlE.getp {w:World} {A:Option Addr} {l c:Nat} {gs:List (List Int)} (h:SlE 1 PolR w A l c gs) {k:Nat} (hk:k<l) :
 ∃ b o A1 l1 c1,A=some ⟨b,o,none⟩∧b<w.heap.size∧w.cell? ⟨b,o+k,none⟩=some (.slice A1 l1 c1)∧PolyN w A1 l1 c1 (gs.getD k []):=by
 rcases h.elems with ⟨h0,_⟩ | ⟨b,o,e,hb,hv⟩
 ·omega
 ·have hkl:k<gs.length:=by rw [h.length];exact hk
  have eg:gs[k]?=some (gs.getD k []):=by rw [List.getD_eq_getElem?_getD,List.getElem?_eq_getElem hkl];rfl
  obtain ⟨vs,⟨A1,l1,c1,ev,h1⟩,hc⟩:=hv k _ eg
  subst ev
  have:=hc 0 _ rfl
  rw [Nat.mul_one,Nat.add_zero] at this
  exact ⟨b,o,A1,l1,c1,e,hb,this,h1⟩
theorem SlE.belowp {w w':World} {A:Option Addr} {l c:Nat} {gs:List (List Int)} (h:SlE 1 PolR w A l c gs) (hb:Below w.heap.size w w'):SlE 1 PolR w' A l c gs:=h.below hb fun _ _ hx=>hx.below hb
def updl (S:List Int) (k:Nat):List Int:=S.take k ++ List.replicate (S.length-k) 0
theorem updl_len (S:List Int) {k:Nat} (h:k≤S.length):(updl S k).length=S.length:=by
 unfold updl
 rw [List.length_append,List.length_take,List.length_replicate]
 omega
theorem updl_zero (S:List Int):updl S 0=List.replicate S.length 0:=rfl
theorem updl_all (S:List Int):updl S S.length=S:=by
 unfold updl
 rw [List.take_length,Nat.sub_self]
 simp
theorem updl_set (S:List Int) {k:Nat} (h:k<S.length):(updl S k).set k (S.getD k 0)=updl S (k+1):=by
 unfold updl
 have hl:(S.take k).length=k:=by rw [List.length_take];omega
 obtain ⟨m,hm⟩:∃ m,S.length-k=m+1:=⟨S.length-k-1,by omega⟩
 rw [List.set_append_right _ _ (by omega),hl,Nat.sub_self,hm,show S.length-(k+1)=m by omega,List.replicate_succ,List.set_cons_zero,List.getD_eq_getElem?_getD,List.getElem?_eq_getElem h]
 show S.take k ++ S[k] :: List.replicate m 0=_
 rw [List.take_succ_eq_append_getElem h,List.append_assoc]
 rfl
set_option maxRecDepth 100000 in
set_option maxHeartbeats 4000000 in
theorem tsigns_any {I:IntPred} (hI:IK I) {w:World} {Ap:Option Addr} {lp cp:Nat} {Q:List Int} {Al:Option Addr} {ll cl:Nat} {gs:List (List Int)} {r:Fq×Fq} {n:Bool} {A:Option Addr} {l c:Nat} {B:Option Addr} {m d:Nat} {n':Bool} {A':Option Addr} {l' c':Nat} {B':Option Addr} {m' d':Nat}
 (hp:PolyP I w Ap lp cp Q) (hlp:lp≤1000000) (h9:P9 Q) (l6:plen Q≤6) (hl:SlE 1 PolR w Al ll cl gs) (hg:∀ k,k<gs.length→G6 (gs.getD k [])) (hll:ll≤1000) (hz:IntN w n A l c r.1.z) (hq:NatN w B m d r.1.q) (hz':IntN w n' A' l' c' r.2.z) (hq':NatN w B' m' d' r.2.q) (ha:FqB r.1) (hb:FqB r.2) :
 Calls Tryz.prog 54 #[.slice Ap lp cp,.agg #[.bool n,.slice A l c,.slice B m d,.bool n',.slice A' l' c',.slice B' m' d'],.slice Al ll cl] w fun e w'=>(∃ A c,e=.returned (.slice A ll c)∧I64At w' A ll c (gs.map (sgA Q r)))∧Below w.heap.size w w':=by
 have o1:=below_new w (tbox n A l c B m d n' A' l' c' B' m' d')
 have T:=Lib.hid (TBox.make hz hq hz' hq')
 have HP:=Lib.hid (hp.below hI o1)
 have HL:=Lib.hid (hl.belowp o1)
 have Hb:=Lib.hid o1
 have hgl:=hl.length
 obtain ⟨S,hS⟩:∃ S,S=gs.map (sgA Q r):=⟨_,rfl⟩
 have hSl:S.length=ll:=by rw [hS,List.length_map];exact hgl
 have hSg:∀ k,k<ll→S.getD k 0=sgA Q r (gs.getD k []):=fun k hk=>by
  rw [hS,List.getD_eq_getElem?_getD,List.getElem?_map,List.getElem?_eq_getElem (by omega),List.getD_eq_getElem?_getD,List.getElem?_eq_getElem (by omega)]
  rfl
 rw [← hS]
 have HSl:=Lib.hid hSl
 have HSg:=Lib.hid hSg
 have HGL:=Lib.hid hgl
 have HG:=Lib.hid hg
 clear hz hq hz' hq' o1 hp hl hS hSl hSg hgl hg
 go_enter Tryz.func54,Tryz.ntmps54
 obtain ⟨wa,hwa⟩:∃ wa,wa=w.alloc (tbox n A l c B m d n' A' l' c' B' m' d'):=⟨_,rfl⟩
 have hsa:wa.heap.size=w.heap.size+1:=by rw [hwa];simp
 rw [← hwa] at T HP HL Hb
 go_wp2_with (at_make;refine wpList_make_int _ rfl (.tmp 11) (.tmp 11) rfl ll rfl rfl (by omega) ?_)
 (try rw [← hwa])
 clear hwa
 intro w1 hz1 hb1 hs1
 rw [← hsa] at hz1 hs1 ⊢
 (try rw [← hsa] at hb1)
 have HZ:=Lib.hid (show IRow w1 wa.heap.size (updl S 0) by rw [updl_zero,HSl.out];exact hz1)
 obtain ⟨gI,hgI⟩:∃ g,g=wa.heap.size:=⟨_,rfl⟩
 obtain ⟨gT,hgT⟩:∃ g,g=w.heap.size:=⟨_,rfl⟩
 have HB1:=Lib.hid hb1
 rw [← hgI] at HZ ⊢
 rw [← hgT] at T
 have hTI:gT<gI:=by omega
 have HgI:=Lib.hid hgI
 have HgT:=Lib.hid hgT
 clear hz1 hb1 hs1 hgI hgT hsa
 go_wp2_with fail
 rw [← HgT.out]
 go_loopw [15] (fun s15 wr=>∃ k:Nat,k≤ll∧s15=.int .i64 (k:Int)∧IRow wr gI (updl S k)∧Below wa.heap.size wa wr) (fun s15 _=>ll-(intOf s15).toNat)
 case atStart=>exact ⟨0,Nat.zero_le _,rfl,HZ.out,HB1.out⟩
 case round =>
  clear HZ HB1
  obtain ⟨k,hk,rfl,hrow,hbw⟩:=hrel
  have HR:=Lib.hid hrow
  have Hbw:=Lib.hid hbw
  have hIr:gI<wr.heap.size:=hrow.lt
  by_cases hlt:k<ll
  ·have ka:(k:Int)<(ll:Int):=by omega
   have i1:IntKind.i64.wrap ((k:Int)+1)=(k:Int)+1:=IntWalk.i64_in _ (by omega)
   obtain ⟨b,o,A1,l1,c1,rfl,hb0,e0,hp1⟩:=(HL.out.belowp hbw).getp hlt
   have g6:=HG.out k (by rw [HGL.out];exact hlt)
   have T2:=Lib.hid (T.out.move hbw)
   have HPr:=Lib.hid (HP.out.below hI hbw)
   have HSk:=Lib.hid (HSg.out k hlt)
   obtain ⟨G,hG⟩:∃ G,G=gs.getD k []:=⟨_,rfl⟩
   obtain ⟨V,hV⟩:∃ V,V=S.getD k 0:=⟨_,rfl⟩
   rw [← hG] at hp1 g6
   have HEV:=Lib.hid (show sgA Q r G=V by rw [hV,HSk.out,hG])
   have HVV:=Lib.hid hV
   have H1:=Lib.hid hp1
   have Hkl:=Lib.hid hlt
   have x0:=T2.out.r.c0;have x1:=T2.out.r.c1;have x2:=T2.out.r.c2;have x3:=T2.out.c3;have x4:=T2.out.c4;have x5:=T2.out.c5
   clear hrow hbw hp1 hG hV hlt hk
   go_wp2_with fail
   refine (tsign_any hI ikN (r:=r) HPr.out hlp h9 l6 H1.out g6 T2.out.r.hz T2.out.r.hq T2.out.hz T2.out.hq ha hb).mono ?_
   rintro e w5 ⟨he,hb5⟩
   have he2:e=.returned (.int .i64 V):=by rw [← HEV.out];exact he
   subst he2
   have r5:=HR.out.below hb5 hIr
   have kc:=r5.cell (i:=k) (by rw [updl_len S (by rw [HSl.out];exact Nat.le_of_lt Hkl.out),HSl.out];exact Hkl.out)
   have kf:=r5.frozen k
   have RN:=Lib.hid (show IRow (w5.setCell ⟨gI,k,none⟩ (.int .i64 V)) gI (updl S (k+1)) by
    have h:=r5.set_ k V
    rw [HVV.out,updl_set S (by rw [HSl.out];exact Hkl.out),← HVV.out] at h
    exact h)
   have HBN:=Lib.hid (show Below wa.heap.size wa (w5.setCell ⟨gI,k,none⟩ (.int .i64 V)) from (Hbw.out.trans (hb5.mono Hbw.out.size)).setCell (by rw [HgI.out];exact Nat.le_refl _) _)
   clear he hb5 r5 x0 x1 x2 x3 x4 x5 T2 HPr H1 HR Hbw e0
   go_wp2_with fail
   go_roundw
   case rel=>exact ⟨k+1,Hkl.out,by go_num,RN.out,HBN.out⟩
   case measure=>have:=Hkl.out;simp [intOf];omega
  ·have hk2:k=ll:=by omega
   have t1:¬ (k:Int)<(ll:Int):=by omega
   have FX:=Lib.hid (show I64At wr (some ⟨gI,0,none⟩) ll ll S by
    have h:=hrow
    rw [hk2,← HSl.out,updl_all] at h
    have h2:=h.at_ (cap:=S.length) (Nat.le_refl _)
    rw [HSl.out] at h2
    exact h2)
   clear hrow hlt HR hk2
   go_wp2_with fail
   go_ret
   exact ⟨⟨_,_,rfl,FX.out⟩,Hb.out.trans (Hbw.out.mono Hb.out.size)⟩
end Go.Proofs.YtbfddopopajgaaaGreat
namespace Go.Proofs.YtbfddopopajgaaaGreat
open Go Go.RowKit
structure S6 (f:List Int):Prop where
 len:f.length≤6
 t:ptrim f=f
 b:∀ j,(f.getD j 0).natAbs≤32768
section
variable {f:List Int}
theorem S6.p9 (h:S6 f):P9 f:=⟨by have:=plen_le f;have:=h.len;omega,fun j=>Nat.le_trans (h.b j) (Nat.le_trans (by rw [Nat.pow_one,BB_eq];decide) (bbk_le (show 1≤10 by decide)))⟩
theorem S6.pl (h:S6 f):plen f≤6:=by have:=plen_le f;have:=h.len;omega
theorem S6.q9 (h:S6 f):P9 (qpart f):=by
 by_cases h0:plen f=0
 ·rw [qpart_nil h0]
  exact ⟨by decide,fun j=>by simp⟩
 ·have hq:=q_facts h.p9.q h0
  refine ⟨by have:=hq.l;have:=h.pl;omega,fun j=>Nat.le_trans (hq.b 1 (fun j=>Nat.le_trans (pprim_abs f j) (Nat.le_trans (h.b j) (by rw [Nat.pow_one,BB_eq];decide))) j) (bbk_le (by decide))⟩
theorem S6.ql (h:S6 f):plen (qpart f)≤6:=by have:=h.p9.part_l;have:=h.pl;omega
theorem S6.qlen (h:S6 f):(qpart f).length≤6:=by rw [← h.p9.part_t,ptrim_length];exact h.ql
theorem S6.g6 (h:S6 f):G6 f:=⟨h.len,fun j=>Nat.le_trans (h.b j) (by rw [BB_eq];decide)⟩
end
noncomputable def tabl (f:List Int) (gs:List (List Int)):List (List Int):=(proots f).map fun r=>gs.map (sgA (qpart f) r)
noncomputable def codes (f:List Int):List (List Int):=tabl f (ders f)
noncomputable def tsgs (f g:List Int):List Int:=(proots f).map fun r=>sgA (qpart f) r g
theorem lay_take {α β:Type} {R:β→List Value→Prop} {F:α→β} {l:List α} {k:Nat} {us vs:List Value} {d:α} (h:Lay R ((l.take k).map F) us) (hk:k<l.length) (hx:R (F (l.getD k d)) vs):Lay R ((l.take (k+1)).map F) (us ++ vs):=by
 have e:l.take (k+1)=l.take k ++ [l.getD k d]:=by
  rw [List.take_succ_eq_append_getElem hk,List.getD_eq_getElem?_getD,List.getElem?_eq_getElem hk]
  rfl
 rw [e,List.map_append]
 exact h.app hx
theorem info_code:(Tryz.prog.info? 75).map (fun i=>(i.zero,i.size,i.bytes))=some (some (.slice none 0 0),1,24):=by kernel_rfl
theorem info_in1:(Tryz.prog.info? 3).map (fun i=>(i.zero,i.size,i.bytes))=some (some (.int .i64 0),1,8):=by kernel_rfl
def InC (u:Value):Prop:=∃ x,u=.int .i64 x
theorem inC_nd (u:Value) (h:InC u):Nd u:=by obtain ⟨x,rfl⟩:=h;exact ⟨(fun _ h=>by cases h),rfl⟩
def InR (_:World) (x:Int) (vs:List Value):Prop:=vs=[.int .i64 x]
theorem inz:∀ j,j<1→InC ((Value.int .i64 0).cells[j]!):=fun j hj=>by
 match j,hj with
 | 0,_=>exact ⟨0,rfl⟩
theorem Vals.getv {w:World} {g o:Nat} {rs:List (Fq×Fq)} (h:Vals w g o rs) {k:Nat} (hk:k<rs.length) :
 ∃ n A l c B m d n' A' l' c' B' m' d',w.cell? ⟨g,o+k*6,none⟩=some (.bool n)∧w.cell? ⟨g,o+k*6+1,none⟩=some (.slice A l c)∧w.cell? ⟨g,o+k*6+2,none⟩=some (.slice B m d)∧w.cell? ⟨g,o+k*6+3,none⟩=some (.bool n')∧w.cell? ⟨g,o+k*6+4,none⟩=some (.slice A' l' c')∧w.cell? ⟨g,o+k*6+5,none⟩=some (.slice B' m' d') ∧
   IntN w n A l c (rs.getD k r00).1.z∧NatN w B m d (rs.getD k r00).1.q∧IntN w n' A' l' c' (rs.getD k r00).2.z∧NatN w B' m' d' (rs.getD k r00).2.q:=by
 have e:rs[k]?=some (rs.getD k r00):=by rw [List.getD_eq_getElem?_getD,List.getElem?_eq_getElem hk];rfl
 obtain ⟨vs,⟨n,A,l,c,B,m,d,n',A',l',c',B',m',d',hv,h1,h2,h3,h4⟩,hc⟩:=h k _ e
 subst hv
 exact ⟨n,A,l,c,B,m,d,n',A',l',c',B',m',d',hc 0 _ rfl,hc 1 _ rfl,hc 2 _ rfl,hc 3 _ rfl,hc 4 _ rfl,hc 5 _ rfl,h1,h2,h3,h4⟩
theorem SlE.ints {w:World} {A:Option Addr} {l c:Nat} {xs:List Int} (h:SlE 1 InR w A l c xs):I64At w A l c xs:=by
 refine ⟨h.length,h.cap,?_⟩
 rcases h.elems with ⟨h0,_⟩ | ⟨b,o,e,hb,hv⟩
 ·exact .inl h0
 ·refine .inr ⟨b,o,e,hb,fun j hj=>?_⟩
  have hjl:j<xs.length:=by rw [h.length];exact hj
  obtain ⟨vs,ev,hc⟩:=hv j (xs.getD j 0) (by rw [List.getD_eq_getElem?_getD,List.getElem?_eq_getElem hjl];rfl)
  rw [show vs=_ from ev] at hc
  have:=hc 0 _ rfl
  rw [Nat.mul_one,Nat.add_zero] at this
  exact this
set_option maxRecDepth 100000 in
set_option maxHeartbeats 8000000 in
theorem codes_any {w:World} {Af:Option Addr} {lf cf:Nat} {f:List Int} (hf:PolyN w Af lf cf f) (s6:S6 f) :
 Calls Tryz.prog 37 #[.slice Af lf cf] w fun e w'=>(∃ A l c,e=.returned (.slice A l c)∧SlE 1 CodR w' A l c (codes f))∧Below w.heap.size w w':=by
 obtain ⟨i0,hi,hz0,hz1,hz2⟩:=info_parts info_code
 have hlf:lf≤6:=by have:=hf.length;have:=s6.len;omega
 have h9:=s6.p9
 have hq9:=s6.q9
 have hql:=s6.ql
 have hqlen:=s6.qlen
 have HP:=Lib.hid hf
 have S6H:=Lib.hid s6
 have hlen6:=s6.len
 have HB:=Lib.hid s6.b
 clear hf s6
 go_enter Tryz.func37,Tryz.ntmps37
 go_wp2_with fail
 refine (part_q ikN _ _ _ f _ HP.out h9.cp.fit.smp (fun _=>h9.q) (by omega)).mono ?_
 rintro e w1 ⟨A1,l1,c1,rfl,h1,hb1⟩
 obtain ⟨Q,hQ⟩:∃ Q,Q=qpart f:=⟨_,rfl⟩
 rw [← hQ] at h1 hq9 hql hqlen
 have hl1:l1≤6:=by have:=h1.length;omega
 have HQ:=Lib.hid h1
 have HQe:=Lib.hid hQ
 replace HP:=Lib.hid (HP.out.below ikN hb1)
 have Hb:=Lib.hid hb1
 clear h1 hb1 hQ
 go_wp2_with fail
 refine (ders_any ikN HP.out hlen6 HB.out).mono ?_
 rintro e w2 ⟨⟨A2,l2,c2,rfl,h2⟩,hb2⟩
 have hgl:=h2.length
 have hder:(ders f).length=plen f-1:=dkl_len _ _
 have hpl:=S6H.out.pl
 have HG:=Lib.hid (show ∀ k,k<(ders f).length→G6 ((ders f).getD k []) from fun k hk=>by
  unfold ders dkl at hk ⊢
  rw [List.length_map,List.length_range] at hk
  rw [List.getD_eq_getElem?_getD,List.getElem?_map,List.getElem?_range hk]
  exact dk_g6 hlen6 HB.out (by omega))
 have hl2:l2≤1000:=by omega
 have HL:=Lib.hid h2
 replace HP:=Lib.hid (HP.out.below ikN hb2)
 replace HQ:=Lib.hid (HQ.out.below ikN hb2)
 replace Hb:=Lib.hid (Hb.out.trans (hb2.mono Hb.out.size))
 clear h2 hb2 hgl hder hpl
 go_wp2_with fail
 refine (roots_any ikN _ _ _ f _ HP.out h9.cp.fit.smp (fun _=>h9.q) (fun h=>SqF.of9 h9 h) (by omega)).mono ?_
 rintro e w3 ⟨⟨A3,l3,c3,rfl,h3⟩,hb3⟩
 have hn9:=proots_le9 h9
 obtain ⟨RS,hRS⟩:∃ R,R=proots f:=⟨_,rfl⟩
 have hfq:=proots_fqb h9
 rw [← hRS] at h3 hn9 hfq
 have HRS:=Lib.hid hRS
 have Hrl:=Lib.hid h3.length
 have HR:=Lib.hid h3
 have Hfq:=Lib.hid hfq
 replace HQ:=Lib.hid (HQ.out.below ikN hb3)
 replace HL:=Lib.hid (HL.out.belowp hb3)
 replace Hb:=Lib.hid (Hb.out.trans (hb3.mono Hb.out.size))
 have hl3:l3≤9:=by rw [← h3.length];exact hn9
 clear hb3 h3 hRS hfq HP
 obtain ⟨F,hF⟩:∃ F:Fq×Fq→List Int,F=fun r=>(ders f).map (sgA Q r):=⟨_,rfl⟩
 have HF:=Lib.hid hF
 clear hF
 obtain ⟨wo,hwo⟩:∃ wo,wo=w3:=⟨_,rfl⟩
 rw [← hwo] at HR HQ Hb HL ⊢
 clear hwo
 go_wp2_with fail
 go_loopw [5,15] (fun s s15 wr=>∃ k:Nat,k≤l3∧s15=.int .i64 (k:Int)∧(∃ us,OwnE SlC 1 75 wo.heap.size wr s us∧Lay (CodR wr) ((RS.take k).map F) us)∧Below wo.heap.size wo wr) (fun _ s15 _=>l3-(intOf s15).toNat)
 case atStart=>exact ⟨0,Nat.zero_le _,rfl,⟨[],OwnE.nil _ _ _ _ _,rfl⟩,Bel.go⟩
 case round =>
  obtain ⟨k,hk,rfl,⟨us,ho,hly⟩,hbw⟩:=hrel
  by_cases hlt:k<l3
  ·have ka:(k:Int)<(l3:Int):=by omega
   have i1:IntKind.i64.wrap ((k:Int)+1)=(k:Int)+1:=IntWalk.i64_in _ (by omega)
   obtain ⟨b,o,rfl,hb0,hv⟩:∃ b o,A3=some ⟨b,o,none⟩∧b<wr.heap.size∧Vals wr b o RS:=by
    rcases (HR.out.below hbw).elems with ⟨h,_⟩ | h
    ·omega
    ·exact h
   have hkl:k<RS.length:=by rw [Hrl.out];exact hlt
   obtain ⟨n,A,l,c,B,m,d,n',A',l',c',B',m',d',e0,e1,e2,e3,e4,e5,z1,z2,z3,z4⟩:=hv.getv hkl
   obtain ⟨fa,fb⟩:=Hfq.out _ (getD_mem hkl r00)
   obtain ⟨r,hr⟩:∃ r,r=RS.getD k r00:=⟨_,rfl⟩
   rw [← hr] at z1 z2 z3 z4 fa fb
   have HRe:=Lib.hid hr
   have HKL:=Lib.hid hkl
   have jb:=below_new wr (tbox n A l c B m d n' A' l' c' B' m' d')
   have T:=Lib.hid (TBox.make z1 z2 z3 z4)
   have O:=Lib.hid (And.intro (ho.below jb) (show Lay (CodR (wr.alloc (tbox n A l c B m d n' A' l' c' B' m' d'))) ((RS.take k).map F) us from hly.mono fun _ _ hx=>hx.below jb))
   have hul:us.length=k*1:=by rw [hly.len fun x vs hx=>hx.len,List.length_map,List.length_take];omega
   have Hbw:=Lib.hid (hbw.trans (jb.mono hbw.size))
   have HQr:=Lib.hid ((HQ.out.below ikN hbw).below ikN jb)
   have HLr:=Lib.hid ((HL.out.belowp hbw).belowp jb)
   have x0:=T.out.r.c0;have x1:=T.out.r.c1;have x2:=T.out.r.c2;have x3:=T.out.c3;have x4:=T.out.c4;have x5:=T.out.c5
   have Hlt:=Lib.hid hlt
   clear z1 z2 z3 z4 hv hr ho hly hbw jb hlt hkl hk
   go_wp2_with fail
   refine (tsigns_any ikN (r:=r) HQr.out (by omega) hq9 hql HLr.out HG.out (by omega) T.out.r.hz T.out.r.hq T.out.hz T.out.hq fa fb).mono ?_
   rintro e w5 ⟨⟨A5,c5,rfl,h5⟩,hb5⟩
   have jb:=below_new w5 (.cells #[.slice A5 l2 c5] 75)
   have b6:=hb5.trans (jb.mono hb5.size)
   have HX6:=Lib.hid (show CodR (w5.alloc (.cells #[.slice A5 l2 c5] 75)) (F r) [.slice A5 l2 c5] from ⟨_,_,_,rfl,by rw [HF.out];exact h5.below jb⟩)
   have HC6:=Lib.hid (show ∀ (j:Nat) (v:Value),[Value.slice A5 l2 c5][j]?=some v→(w5.alloc (.cells #[.slice A5 l2 c5] 75)).cell? ((⟨w5.heap.size,0,none⟩:Addr).add j)=some v from one_cell _)
   have O5:=Lib.hid (And.intro (O.out.1.below b6) (show Lay (CodR (w5.alloc (.cells #[.slice A5 l2 c5] 75))) ((RS.take k).map F) us from O.out.2.mono fun _ _ hx=>hx.below b6))
   have Hb6:=Lib.hid (Hbw.out.trans (b6.mono Hbw.out.size))
   have Hsz:=Lib.hid (show wo.heap.size≤(w5.alloc (.cells #[.slice A5 l2 c5] 75)).heap.size from Hb6.out.size)
   clear hb5 jb b6 O Hbw HQr T x0 x1 x2 x3 x4 x5 HLr h5
   go_wp2_with (at_builtin;refine wpList_app_own rfl (.tmp 19) (.tmp 24) 70 75 rfl 1 i0 (.slice none 0 0) Tryz.underlying70 hi hz0 hz1 (by rw [hz2];omega) rfl SlC slC_nd slz (by decide) wo.heap.size _ us [.slice A5 l2 c5] rfl O5.out.1 Hsz.out ⟨w5.heap.size,0,none⟩ 1 1 rfl rfl HC6.out (fun u hu=>HX6.out.sl u hu) (.inl (by decide)) (by rw [hul];simp;omega) 25 rfl ?_)
   intro v2 w9 hgr
   have hb9:=hgr.below Hsz.out
   have hn:CodR w9 (F r) [.slice A5 l2 c5]:=codr_mv hgr _ _ HX6.out
   have hly9:Lay (CodR w9) ((RS.take (k+1)).map F) (us ++ [.slice A5 l2 c5]):=by
    have h1:Lay (CodR w9) ((RS.take k).map F) us:=O5.out.2.mono fun p ys hp=>codr_mv hgr p ys hp
    exact lay_take (d:=r00) h1 HKL.out (by rw [← HRe.out];exact hn)
   have O9:=Lib.hid (And.intro hgr.1 hly9)
   have Hb9:=Lib.hid (Hb6.out.trans hb9)
   clear hgr hb9 hly9 hn O5 Hb6 Hsz HC6
   go_wp2_with fail
   go_roundw
   case rel=>exact ⟨k+1,Hlt.out,by go_num,⟨_,O9.out.1,O9.out.2⟩,Hb9.out⟩
   case measure=>have:=Hlt.out;simp [intOf];omega
  ·have hk2:k=l3:=by omega
   have t1:¬ (k:Int)<(l3:Int):=by omega
   obtain ⟨A9,l9,c9,e9,h9'⟩:=ho.sle (by decide) hly fun x vs hx=>hx.len
   subst e9
   have FX:=Lib.hid (show SlE 1 CodR wr A9 l9 c9 (codes f) by
    rw [hk2,← Hrl.out,List.take_length,HF.out] at h9'
    unfold codes tabl
    rw [← HRS.out,← HQe.out]
    exact h9')
   clear ho hly h9' hk2 hlt
   go_wp2_with fail
   go_ret
   exact ⟨⟨_,_,_,rfl,FX.out⟩,Hb.out.trans (hbw.mono Hb.out.size)⟩
end Go.Proofs.YtbfddopopajgaaaGreat
namespace Go.Proofs.YtbfddopopajgaaaGreat
open Go.RowKit
section
variable {f g G Q:List Int} {x:Pt} {a b:Fq} {s r:Fq×Fq} {i:Nat}
def Free (G:List Int) (s:Fq×Fq):Prop:=∀ y,sgp G y=0→y<s.1.p∨s.2.p<y
theorem Free.congr (h:Free Q s) (e:∀ y,sgp G y=0↔sgp Q y=0):Free G s:=fun y hy=>h y ((e y).1 hy)
theorem IsoV.free_pt (h:IsoV f x s.1 s.2) (e:s.1.v=s.2.v) (gx:sgp G x≠0):Free G s:=fun y hy=>by
 have e2:s.1.p=s.2.p:=by unfold Fq.p;rw [e]
 have ex:x=s.1.p:=by
  rcases h.2 with h | h
  ·exact h.2
  ·grind
 rcases Pt.tri y s.1.p with c | c | c
 ·exact .inl c
 ·rw [c,← ex] at hy;exact absurd hy gx
 ·exact .inr (by rw [← e2];exact c)
theorem IsoV.free_sg (h:IsoV f x s.1 s.2) (hf:Free G s):sgp G s.1.p=sgp G x:=by
 rcases h.2 with h | ⟨_,_,_,l1,l2,_⟩
 ·rw [h.2]
 ·have na:sgp G s.1.p≠0:=fun c=>by
   rcases hf _ c with d | d
   ·exact Pt.irr _ d
   ·exact Pt.asym d (Pt.lt_trans l1 l2)
  have nx:sgp G x≠0:=fun c=>by
   rcases hf _ c with d | d
   ·exact Pt.asym d l1
   ·exact Pt.asym d l2
  exact sgp_stay l1 (fun z z1 z2 c=>by
   rcases hf _ c with d | d
   ·exact Pt.asym d z1
   ·exact Pt.asym d (Pt.lt_trans z2 l2)) na nx
theorem chg_free {k:Nat} (h:SqF Q k) (hk:k≤31) (ha:0<s.1.q) (hb:0<s.2.q) (hab:s.1.v<s.2.v) (na:sgp Q s.1.p≠0) (nb:sgp Q s.2.p≠0):(s.1.chg (pchain 12 Q (pder Q)):Int)=(s.2.chg (pchain 12 Q (pder Q)):Int)↔Free Q s:=by
 obtain ⟨xs,hx⟩:=roots_lst h.q0 (fun x=>s.1.p<x∧x<s.2.p)
 have hc:=op_count h hk ha hb hab hx
 rw [sgn_pt hb,if_neg nb] at hc
 constructor
 ·intro e y hy
  have hl:xs.length=0:=by omega
  have hn:=List.eq_nil_of_length_eq_zero hl
  rcases Pt.tri y s.1.p with c | c | c
  ·exact .inl c
  ·rw [c] at hy;exact absurd hy na
  ·rcases Pt.tri y s.2.p with d | d | d
   ·have:=(hx.2 y).2 ⟨hy,c,d⟩
    rw [hn] at this;cases this
   ·rw [d] at hy;exact absurd hy nb
   ·exact .inr d
 ·intro hf
  have hn:xs.length=0:=by
   match xs,hx with
   | [],_=>rfl
   | y :: ys,hx =>
     obtain ⟨h1,h2,h3⟩:=(hx.2 y).1 (List.mem_cons_self ..)
     rcases hf y h1 with c | c
     ·exact absurd c (Pt.asym h2)
     ·exact absurd c (Pt.asym h3)
  omega
structure ASt (f:List Int) (x:Pt) (i:Nat) (s:Fq×Fq):Prop where
 iso:IsoV f x s.1 s.2
 d:DyW (cbn (qpart f)) (2*((cbn (qpart f):Nat):Rat)) i s
theorem ASt.half (h9:P9 f) (h0:plen f≠0) (h:ASt f x i s):ASt f x (i+1) (hlf (qpart f) s)∧Half s (hlf (qpart f) s):=by
 have hq:=q_facts h9.q h0
 have hs:=hlf_spec hq.q0 hq.simple (fun y=>(hq.root y).symm) h.d.d.1.p h.d.d.2.p h.iso
 exact ⟨⟨hs.1,hlf_dw h.d⟩,hs.2⟩
theorem ASt.fqb (h9:P9 f) (h0:plen f≠0) (h:ASt f x i s) (hi:i≤NN+1):FqB s.1∧FqB s.2∧FqB (s.1.mid s.2):=by
 have h1:i≤NN+2500:=Nat.le_trans hi (Nat.add_le_add_left (by decide) NN)
 have h2:i+1≤NN+2500:=Nat.le_trans (Nat.succ_le_succ hi) (Nat.add_le_add_left (show 2≤2500 by decide) NN)
 have:=h.d.d.fqb h1 (nn_zb2 (SqF.of9 h9 h0))
 exact ⟨this.1,this.2.1,this.2.2 h2⟩
theorem proots_ast {xs:List Pt} {k:Nat} (hx:RF f xs (proots f)) (hk:k<xs.length):∃ i,i≤NN+1∧ASt f (xs.getD k default) i ((proots f).getD k r00):=by
 obtain ⟨i,i1,i2⟩:=proots_dw f _ (getD_mem (by rw [hx.len];exact hk) r00)
 exact ⟨i,i1,hx.iso k hk,i2⟩
theorem Dy.abs_v {K:Nat} (h:Dy K i a):-((K:Nat):Rat)≤a.v∧a.v≤((K:Nat):Rat):=by
 obtain ⟨h1,h2⟩:=int_abs_rat h.z
 have hq:(0:Rat)<((a.q:Nat):Rat):=by exact_mod_cast h.p
 rw [Rat.natCast_mul] at h1 h2
 have hv:a.v*((a.q:Nat):Rat)=(a.z:Rat):=by
  unfold Fq.v
  rw [Rat.div_mul_cancel (by grind)]
 constructor
 ·refine Rat.not_lt.1 fun c=>?_
  have:=Rat.mul_lt_mul_of_pos_right c hq
  grind
 ·refine Rat.not_lt.1 fun c=>?_
  have:=Rat.mul_lt_mul_of_pos_right c hq
  grind
theorem ASt.more (h9:P9 f) (h0:plen f≠0) (h:ASt f x i s) (tG:ptrim G=G) (lG:plen G≤10) (bG:∀ j,(G.getD j 0).natAbs≤BB^16) (gx:sgp G x≠0) (hne:s.1.v≠s.2.v) (hf:¬ Free G s):i<NN:=by
 obtain ⟨y,hy⟩:=Classical.not_forall.1 hf
 obtain ⟨hy,hn⟩:=Classical.not_imp.1 hy
 have hs:=SqF.of9 h9 h0
 have hq:=q_facts h9.q h0
 have hc1:(1:Rat)≤((cbn (qpart f):Nat):Rat):=by exact_mod_cast cbn_pos _
 have h1:=sep_two hs (by decide) tG lG bG hc1 (h.d.d.1.abs_v).1 (h.d.d.2.abs_v).2 (x:=x) (y:=y) ((hq.root x).2 h.iso.1) gx hy h.iso.lo h.iso.hi (fun c=>hn (.inl c)) (fun c=>hn (.inr c))
 refine Nat.lt_of_not_le fun hc=>?_
 have hw:=h.d.w.resolve_left hne
 have h2:=nn_sep hs
 have hp:(2:Rat)^NN≤2^i:=pow_up (by grind) hc
 have hp1:(1:Rat)≤2^i:=pow_one_le (by grind) i
 generalize sepD 16 ((cbn (qpart f):Nat):Rat)=D at *
 generalize ((cbn (qpart f):Nat):Rat)=K at *
 generalize (2:Rat)^i=P at *
 generalize (2:Rat)^NN=N at *
 generalize s.2.v-s.1.v=w at *
 have h5:=Rat.mul_le_mul_of_nonneg_right h1 (show 0≤P by grind)
 have h6:D*w*P=D*(2*K):=by rw [Rat.mul_assoc,hw]
 have h7:D*(K - -K)=D*(2*K):=by grind
 grind
theorem ppos_abs (p:List Int) (j:Nat):((ppos p).getD j 0).natAbs=(p.getD j 0).natAbs:=by
 unfold ppos
 split
 ·rw [pmn_getD,ptrim_getD,Int.natAbs_neg]
 ·rw [ptrim_getD]
theorem gcd_p9 (h:S6 f) (h0:plen f≠0) (hg:G6 g):P9 (gres (qpart f) g):=by
 have hq:=q_facts h.p9.q h0
 have hd:=gd_facts h.q9 h.ql hg hq.q0
 refine ⟨by have:=hd.len;omega,fun j=>?_⟩
 by_cases g0:plen g=0
 ·unfold gres
  rw [if_neg hq.q0,if_pos g0,ppos_abs]
  exact h.q9.b j
 ·have hi:IsGcd (qpart f) g (gres (qpart f) g):=(gres_is hd.ga).resolve_left (fun h=>hq.q0 h.1) |>.2
  have hk:=gp_ne hi.ne
  have e2:∀ x,ev (gres (qpart f) g) x=(sg (plead (gres (qpart f) g))*(pcont (gres (qpart f) g):Int))*ev (pprim (gres (qpart f) g)) x:=fun x=>by
   rw [← ev_psc]
   exact ev_congr (fun k=>by rw [psc_get];exact gp_get hi.ne k) x
  obtain ⟨c,q,hc,e⟩:=hi.r
  obtain ⟨t,ht⟩:=gauss_div (l:=pprim (gres (qpart f) g)) (f:=g) (r:=psc (sg (plead (gres (qpart f) g))*(pcont (gres (qpart f) g):Int)) q) (gp_cont hi.ne) hc (fun x=>by rw [e,e2,ev_psc];grind)
  have hb1:∀ j,(g.getD j 0).natAbs≤BB^1:=fun j=>by rw [Nat.pow_one];exact hg.b j
  have h1:=factor_le (g:=t) (k:=1) (by have:=hg.plen;omega) g0 hb1 (fun x=>(ht x).trans (Int.mul_comm _ _)) j
  have hc1:pcont (gres (qpart f) g)≤BB:=by
   rw [hi.cont]
   exact Nat.le_trans (Nat.le_of_dvd (Nat.pos_of_ne_zero (pcont_ne g0)) (Nat.gcd_dvd_right _ _)) (pcont_le g0 hg.b)
  rw [gp_get hi.ne j,Int.natAbs_mul,Int.natAbs_mul,Int.natAbs_natCast]
  have hs:(sg (plead (gres (qpart f) g))).natAbs≤1:=by rcases sg_cases (plead (gres (qpart f) g)) with ⟨_,e⟩ | ⟨_,e⟩ | ⟨_,e⟩<;>omega
  have h3:(sg (plead (gres (qpart f) g))).natAbs*pcont (gres (qpart f) g)≤1*BB:=Nat.mul_le_mul hs hc1
  rw [Nat.one_mul] at h3
  refine Nat.le_trans (Nat.mul_le_mul h3 h1) ?_
  rw [show BB*BB^(1+6)=BB^8 by rw [Nat.mul_comm,← Nat.pow_succ]]
  exact bbk_le (by decide)
theorem zero_count (h:S6 f) (h0:plen f≠0) (hg:G6 g) (ha:0<a.q) (hb:0<b.q) (hi:IsoV f x a b) (hlt:a.v<b.v):0<ncount (gres (qpart f) g) a.z a.q b.z b.q↔sgp g x=0:=by
 have hq:=q_facts h.p9.q h0
 have hd:=gd_facts h.q9 h.ql hg hq.q0
 obtain ⟨xs,hx⟩:=roots_lst hd.g0 (fun y=>a.p<y∧(y<b.p∨y=b.p))
 rw [ncount_half (gcd_p9 h h0 hg) hd.g0 ha hb ((vld_lt ha hb).2 hlt) hx]
 rcases hi.2 with h2 | ⟨_,n1,n2,l1,l2,hu⟩
 ·grind
 constructor
 ·intro hl
  match xs,hx,hl with
  | y :: ys,hx,_ =>
    obtain ⟨h1,h2,h3⟩:=(hx.2 y).1 (List.mem_cons_self ..)
    obtain ⟨k1,k2⟩:=(hd.r y).1 h1
    have k3:=(hq.root y).1 k1
    rcases h3 with h3 | h3
    ·rw [← hu y k3 h2 h3];exact k2
    ·rw [h3] at k3;exact absurd k3 n2
 ·intro hg0
  have:=(hx.2 x).2 ⟨(hd.r x).2 ⟨(hq.root x).2 hi.1,hg0⟩,l1,.inl l2⟩
  have:=List.length_pos_of_mem this
  omega
end
end Go.Proofs.YtbfddopopajgaaaGreat
namespace Go.Proofs.YtbfddopopajgaaaGreat
open Go Go.RowKit
def RootE (r:Fq×Fq) (e:Ending) (w:World):Prop :=
 ∃ n A l c B m d n' A' l' c' B' m' d',e=.returned (.agg #[.bool n,.slice A l c,.slice B m d,.bool n',.slice A' l' c',.slice B' m' d'])∧IntN w n A l c r.1.z∧NatN w B m d r.1.q∧IntN w n' A' l' c' r.2.z∧NatN w B' m' d' r.2.q
def pu6 (w:World) (g:Nat) (v0 v1 v2 v3 v4 v5:Value):World:=(((((w.setCell ⟨g,0,none⟩ v0).setCell ⟨g,1,none⟩ v1).setCell ⟨g,2,none⟩ v2).setCell ⟨g,3,none⟩ v3).setCell ⟨g,4,none⟩ v4).setCell ⟨g,5,none⟩ v5
theorem pu6_frs (w:World) (g:Nat) (v0 v1 v2 v3 v4 v5:Value):FrS g g w (pu6 w g v0 v1 v2 v3 v4 v5):=frs_set (frs_set (frs_set (frs_set (frs_set (frs_set (FrS.refl g g w) 0 v0) 1 v1) 2 v2) 3 v3) 4 v4) 5 v5
abbrev rtObj:Obj:=.cells #[.bool false,.slice none 0 0,.slice none 0 0,.bool false,.slice none 0 0,.slice none 0 0] 44
abbrev rz6:Array Value:=#[.bool false,.slice none 0 0,.slice none 0 0,.bool false,.slice none 0 0,.slice none 0 0]
theorem rz6_ndb {w:World} {g t:Nat} (h:Blk w g t rz6):NdB w g:=blk_ndb h fun j v hv=>by
 match j,hv with
 | 0,hv=>simp at hv;subst hv;exact noDigit_bool _
 | 1,hv=>simp at hv;subst hv;exact noDigit_slice _ _ _
 | 2,hv=>simp at hv;subst hv;exact noDigit_slice _ _ _
 | 3,hv=>simp at hv;subst hv;exact noDigit_bool _
 | 4,hv=>simp at hv;subst hv;exact noDigit_slice _ _ _
 | 5,hv=>simp at hv;subst hv;exact noDigit_slice _ _ _
 | j+6,hv=>simp at hv
section
variable {I:IntPred} {w w9:World} {g t:Nat} {a b:Fq} {r:Fq×Fq} {n:Bool} {A:Option Addr} {l c:Nat} {B:Option Addr} {m d:Nat} {n':Bool} {A':Option Addr} {l' c':Nat} {B':Option Addr} {m' d':Nat}
theorem root_fin (hw:Below w.heap.size w w9) (hk:Blk w9 g t rz6) (hg:w.heap.size≤g) (hz:IntN w9 n A l c r.1.z) (hq:NatN w9 B m d r.1.q) (hz':IntN w9 n' A' l' c' r.2.z) (hq':NatN w9 B' m' d' r.2.q) :
 RootE r (.returned (.agg #[.bool n,.slice A l c,.slice B m d,.bool n',.slice A' l' c',.slice B' m' d'])) (pu6 w9 g (.bool n) (.slice A l c) (.slice B m d) (.bool n') (.slice A' l' c') (.slice B' m' d'))∧Below w.heap.size w (pu6 w9 g (.bool n) (.slice A l c) (.slice B m d) (.bool n') (.slice A' l' c') (.slice B' m' d')):=by
 have hf:=pu6_frs w9 g (.bool n) (.slice A l c) (.slice B m d) (.bool n') (.slice A' l' c') (.slice B' m' d')
 have nd:=rz6_ndb hk
 exact ⟨⟨n,A,l,c,B,m,d,n',A',l',c',B',m',d',rfl,hz.frs hf nd nd,hq.frs hf nd nd,hz'.frs hf nd nd,hq'.frs hf nd nd⟩,hf.mono hw hg hg hw.size⟩
theorem isexact_any (hz:IntN w n A l c r.1.z) (hq:NatN w B m d r.1.q) (hz':IntN w n' A' l' c' r.2.z) (hq':NatN w B' m' d' r.2.q) (ha:FqB r.1) (hb:FqB r.2) :
 Calls Tryz.prog 80 #[.agg #[.bool n,.slice A l c,.slice B m d,.bool n',.slice A' l' c',.slice B' m' d']] w fun e w'=>e=.returned (.bool (fcmp r.1 r.2 == 0))∧Below w.heap.size w w':=by
 have o1:=below_new w (tbox n A l c B m d n' A' l' c' B' m' d')
 have T:=Lib.hid (TBox.make hz hq hz' hq')
 have Hb:=Lib.hid o1
 have p1:=ha.p
 have p2:=hb.p
 clear hz hq hz' hq' o1
 go_enter Tryz.func80,Tryz.ntmps80
 have x0:=T.out.r.c0;have x1:=T.out.r.c1;have x2:=T.out.r.c2;have x3:=T.out.c3;have x4:=T.out.c4;have x5:=T.out.c5
 go_wp2_with fail
 refine (rcmp_any _ _ _ _ _ _ _ _ _ _ _ _ _ _ _ _ _ _ _ T.out.r.hz.at_ T.out.r.hq.at_ T.out.hz.at_ T.out.hq.at_ (by omega) (by omega) ha.fz ha.fq hb.fz hb.fq).mono ?_
 rintro e w3 ⟨rfl,hb3⟩
 replace Hb:=Lib.hid (Hb.out.trans (hb3.mono Hb.out.size))
 obtain ⟨C,hC⟩:∃ C,C=fcmp r.1 r.2:=⟨_,rfl⟩
 rw [show cmpz (r.1.z*(r.2.q:Int)) (r.2.z*(r.1.q:Int))=C from hC.symm]
 have HC:=Lib.hid hC
 clear hb3 hC T
 clear x0 x1 x2 x3 x4 x5
 go_wp2
 go_ret
 exact ⟨by first | (rw [HC.out];done) | (rw [HC.out];rfl),Hb.out⟩
set_option maxRecDepth 100000 in
set_option maxHeartbeats 4000000 in
theorem exact_rt (hz:IntN w n A l c a.z) (hq:NatN w B m d a.q) (ha:FqB a) :
 Calls Tryz.prog 111 #[.agg #[.bool n,.slice A l c,.slice B m d]] w fun e w'=>RootE (a.nf,a.nf) e w'∧Below w.heap.size w w':=by
 have o1:=below_new w (rbox n A l c B m d)
 have o2:=below_new (w.alloc (rbox n A l c B m d)) rtObj
 have b2:Below w.heap.size w ((w.alloc (rbox n A l c B m d)).alloc rtObj):=o1.alloc (by simp) _
 have R1:=(RBox.make hz hq).move o2
 have K3:Blk ((w.alloc (rbox n A l c B m d)).alloc rtObj) (w.alloc (rbox n A l c B m d)).heap.size 44 rz6:=Blk.new _ _ _
 simp only [World.size_alloc] at K3
 have a0:=R1.c0
 have a1:=R1.c1
 have a2:=R1.c2
 replace R1:=Lib.hid R1
 have K4:=Lib.hid K3
 have Hb:=Lib.hid b2
 have hl3:=K3.lt
 obtain ⟨wb,hwb⟩:∃ wb,wb=(w.alloc (rbox n A l c B m d)).alloc rtObj:=⟨_,rfl⟩
 clear o1 o2 b2 hz hq K3
 go_enter Tryz.func111,Tryz.ntmps111
 go_wp2_with fail
 rw [← hwb] at R1 K4 Hb a0 a1 a2 hl3 ⊢
 clear hwb
 obtain ⟨g1,hg1⟩:∃ g,g=w.heap.size:=⟨_,rfl⟩
 obtain ⟨g3,hg3⟩:∃ g,g=w.heap.size+1:=⟨_,rfl⟩
 rw [← hg1] at R1 a0 a1 a2
 rw [← hg3] at K4 hl3
 rw [← hg3,← hg1]
 have l1:g1<wb.heap.size:=by omega
 have Hg:=Lib.hid (show w.heap.size≤g3 by omega)
 clear hg1 hg3
 refine wp_region_lastT (S:=fun w'=>w'.cell? ⟨g1,0,none⟩=some (.bool n)∧w'.cell? ⟨g1,1,none⟩=some (.slice A l c)∧w'.cell? ⟨g1,2,none⟩=some (.slice B m d)) (by kernel_rfl) (by kernel_rfl) (by (try dsimp only);go_keep) (fun hHeld=>?_)
 simp only [List.pop_toArray,List.dropLast]
 (refine tk (i:=0) (v:=?_) rfl rfl (Or.inl ⟨by rfl,?_⟩) ?_;rotate_left;(focus (intro w hSw;(try dsimp only at hSw);go_simp;(try with_reducible rfl)));(simp only [put_lit,List.set]))
 (refine tk (i:=2) (v:=?_) rfl rfl (Or.inl ⟨by rfl,?_⟩) ?_;rotate_left;(focus (intro w hSw;(try dsimp only at hSw);go_simp;(try with_reducible rfl)));(simp only [put_lit,List.set]))
 refine wpAnyH_ready (rs:=[1]) (by kernel_rfl) (by simp) ?_
 refine AllReadyH.cons rfl (fun K hK=>?_) AllReadyH.nil;go_simp
 refine (rnormal_any _ _ _ _ _ _ _ _ _ _ (R1.out.hz.below Bel.go) (R1.out.hq.below Bel.go) ha.fz ha.fq ha.p).mono ?_
 rintro e w7 ⟨⟨n7,A7,l7,c7,B7,m7,d7,rfl,h7,k7⟩,hb7⟩
 obtain ⟨hcx,hfx⟩:=bcellS hb7
 have hbz:Below wb.heap.size wb w7:=(Below.trans Bel.go (hb7.mono (by simp<;>omega)))
 replace R1:=Lib.hid (R1.out.move hbz)
 replace K4:=Lib.hid (K4.out.below hbz K4.out.lt)
 replace Hb:=Lib.hid (Hb.out.trans (hbz.mono Hb.out.size))
 refine hK.out _ _ ?_ (fun _=>?_)
 ·((try dsimp only);repeat' apply And.intro)<;>(rw [hcx _ (by go_simp)];go_simp)
 clear hHeld hK K hcx hfx;rename_i hHeld
 have hs7:=hbz.size
 have H7:=Lib.hid (And.intro h7 k7)
 clear h7 k7 hb7 hbz
 refine wpAnyH_ready (rs:=[3]) (by kernel_rfl) (by simp) ?_
 refine AllReadyH.cons rfl (fun K hK=>?_) AllReadyH.nil;go_simp
 refine (rnormal_any _ _ _ _ _ _ _ _ _ _ (R1.out.hz.below Bel.go) (R1.out.hq.below Bel.go) ha.fz ha.fq ha.p).mono ?_
 rintro e w9 ⟨⟨n9,A9,l9,c9,B9,m9,d9,rfl,h9,k9⟩,hb9⟩
 obtain ⟨hcx,hfx⟩:=bcellS hb9
 have hbz:Below w7.heap.size w7 w9:=(Below.trans Bel.go (hb9.mono (by simp<;>omega)))
 replace K4:=Lib.hid (K4.out.below hbz K4.out.lt)
 replace Hb:=Lib.hid (Hb.out.trans (hbz.mono Hb.out.size))
 replace H7:=Lib.hid (And.intro (H7.out.1.below hbz) (H7.out.2.below hbz))
 refine hK.out _ _ ?_ (fun _=>?_)
 ·((try dsimp only);repeat' apply And.intro)<;>(rw [hcx _ (by go_simp)];go_simp)
 clear hHeld hK K hcx hfx;rename_i hHeld
 have H9:=Lib.hid (And.intro h9 k9)
 clear h9 k9 hb9 hbz R1
 (refine tk (i:=4) (v:=?_) rfl rfl (Or.inl ⟨by rfl,?_⟩) ?_;rotate_left;(focus (intro w hSw;(try dsimp only at hSw);go_simp;(try with_reducible rfl)));(simp only [put_lit,List.set]))
 refine wpAnyH_done (by kernel_rfl) (lastQ_list rfl ?_) _
 clear hHeld a0 a1 a2
 have FX:=Lib.hid (root_fin (r:=(a.nf,a.nf)) Hb.out K4.out Hg.out H7.out.1 H7.out.2 H9.out.1 H9.out.2);have r0:=(K4.out.cell 0).trans rfl;have r1:=(K4.out.cell 1).trans rfl;have r2:=(K4.out.cell 2).trans rfl;have r3:=(K4.out.cell 3).trans rfl;have r4:=(K4.out.cell 4).trans rfl;have r5:=(K4.out.cell 5).trans rfl;have s0:=K4.out.frozen 0;have s1:=K4.out.frozen 1;have s2:=K4.out.frozen 2;have s3:=K4.out.frozen 3;have s4:=K4.out.frozen 4;have s5:=K4.out.frozen 5;clear K4 Hb;go_wp2;(try clear T);refine bodyPost_ret (v:=.agg #[.bool n7,.slice A7 l7 c7,.slice B7 m7 d7,.bool n9,.slice A9 l9 c9,.slice B9 m9 d9]) (by simp [results,Tryz.results111,go_sem,r0,r1,r2,r3,r4,r5]) rfl FX.out
end
end Go.Proofs.YtbfddopopajgaaaGreat
namespace Go.Proofs.YtbfddopopajgaaaGreat
open Go Go.RowKit
theorem g6_cp {g:List Int} (h:G6 g):CP g:=⟨by have:=h.plen;omega,fun j=>Nat.le_trans (h.b j) (by have:=bbk_le (show 1≤32 by decide);rw [Nat.pow_one] at this;exact this)⟩
set_option maxRecDepth 100000 in
set_option maxHeartbeats 4000000 in
theorem zeroat_any {w:World} {Ap:Option Addr} {lp cp:Nat} {f:List Int} {Ag:Option Addr} {lg cg:Nat} {g:List Int} {x:Pt} {r:Fq×Fq} {n:Bool} {A:Option Addr} {l c:Nat} {B:Option Addr} {m d:Nat} {n':Bool} {A':Option Addr} {l' c':Nat} {B':Option Addr} {m' d':Nat}
 (hp:PolyN w Ap lp cp (qpart f)) (s6:S6 f) (h0:plen f≠0) (hg:PolyN w Ag lg cg g) (g6:G6 g) (hz:IntN w n A l c r.1.z) (hq:NatN w B m d r.1.q) (hz':IntN w n' A' l' c' r.2.z) (hq':NatN w B' m' d' r.2.q) (ha:FqB r.1) (hb:FqB r.2) (hi:IsoV f x r.1 r.2) :
 Calls Tryz.prog 88 #[.slice Ap lp cp,.agg #[.bool n,.slice A l c,.slice B m d,.bool n',.slice A' l' c',.slice B' m' d'],.slice Ag lg cg] w fun e w'=>e=.returned (.bool (decide (sgp g x=0)))∧Below w.heap.size w w':=by
 have o1:=below_new w (tbox n A l c B m d n' A' l' c' B' m' d')
 have T:=Lib.hid (TBox.make hz hq hz' hq')
 have HP:=Lib.hid (hp.below ikN o1)
 have HG:=Lib.hid (hg.below ikN o1)
 have Hb:=Lib.hid o1
 have hlg:lg≤6:=by have:=hg.length;have:=g6.len;omega
 have hlp:lp≤6:=by have:=hp.length;have:=s6.qlen;omega
 have p1:=ha.p
 have p2:=hb.p
 have pg:=(g6_cp g6).at (z:=r.1.z) (q:=r.1.q) (by have:=g6.len;omega) ha.z ha.q
 have hqf:=q_facts s6.p9.q h0
 have hd:=gd_facts s6.q9 s6.ql g6 hqf.q0
 have hd9:=gcd_p9 s6 h0 g6
 have hle:=hi.le
 have ez:r.1.v=r.2.v→(r.1.sgn g=0↔sgp g x=0):=fun e=>by
  rw [sgn_pt ha.p]
  rcases hi.2 with h | h
  ·rw [h.2]
  ·grind
 have en:r.1.v≠r.2.v→(0<ncount (gres (qpart f) g) r.1.z r.1.q r.2.z r.2.q↔sgp g x=0):=fun e=>zero_count s6 h0 g6 ha.p hb.p hi (by grind)
 have fz:=fcmp_zero ha.p hb.p
 have fitQ:FitP (qpart f):=s6.q9.cp.fit
 obtain ⟨Q,hQ⟩:∃ Q,Q=qpart f:=⟨_,rfl⟩
 rw [← hQ] at hd hd9 en HP fitQ
 obtain ⟨V,hV⟩:∃ V,V=decide (sgp g x=0):=⟨_,rfl⟩
 rw [← hV]
 have HV:=Lib.hid hV
 have EZ:=Lib.hid ez
 have EN:=Lib.hid en
 have FZ:=Lib.hid fz
 have HD:=Lib.hid hd
 have HD9:=Lib.hid hd9
 clear hz hq hz' hq' o1 hp hg hV ez en fz hd hd9 hqf hle hQ h0 hi
 obtain ⟨wb,hwb⟩:∃ wb,wb=w.alloc (tbox n A l c B m d n' A' l' c' B' m' d'):=⟨_,rfl⟩
 obtain ⟨g1,hg1⟩:∃ g,g=w.heap.size:=⟨_,rfl⟩
 go_enter Tryz.func88,Tryz.ntmps88
 have x0:=T.out.r.c0;have x1:=T.out.r.c1;have x2:=T.out.r.c2;have x3:=T.out.c3;have x4:=T.out.c4;have x5:=T.out.c5
 go_wp2_with fail
 rw [← hwb,← hg1] at T x0 x1 x2 x3 x4 x5
 rw [← hwb] at HP HG Hb ⊢
 rw [← hg1]
 clear hwb hg1
 refine (isexact_any (r:=r) T.out.r.hz T.out.r.hq T.out.hz T.out.hq ha hb).mono ?_
 rintro e w1 ⟨rfl,hb1⟩
 replace T:=Lib.hid (T.out.move hb1)
 replace HP:=Lib.hid (HP.out.below ikN hb1)
 replace HG:=Lib.hid (HG.out.below ikN hb1)
 replace Hb:=Lib.hid (Hb.out.trans (hb1.mono Hb.out.size))
 clear hb1 x0 x1 x2 x3 x4 x5
 have x0:=T.out.r.c0;have x1:=T.out.r.c1;have x2:=T.out.r.c2;have x3:=T.out.c3;have x4:=T.out.c4;have x5:=T.out.c5
 have l1:=T.out.r.lt
 by_cases c0:fcmp r.1 r.2=0
 ·have b1:(fcmp r.1 r.2 == 0)=true:=by rw [c0];rfl
  obtain ⟨S,hS⟩:∃ S,S=r.1.sgn g:=⟨_,rfl⟩
  have EV:=Lib.hid (show V=(S == 0) by
   have h1:=EZ.out (FZ.out.1 c0)
   rw [← hS] at h1
   rw [HV.out]
   by_cases c:S=0
   ·rw [decide_eq_true (h1.1 c),c];rfl
   ·rw [decide_eq_false fun e=>c (h1.2 e)];exact (beq_eq_false_iff_ne.2 c).symm)
  have HS:=Lib.hid hS
  clear c0 hS
  go_wp2_with fail
  refine (signat_any ikN _ _ _ g _ _ _ _ _ _ _ _ _ _ HG.out pg.fit (by omega) T.out.r.hz T.out.r.hq ha.at.u ha.at.v ha.at.pos pg.ok ha.at.fz ha.at.fq).mono ?_
  rintro e w4 ⟨he,hb4⟩
  have he2:e=.returned (.int .i64 S):=by rw [HS.out];exact he
  subst he2
  replace Hb:=Lib.hid (Hb.out.trans (hb4.mono Hb.out.size))
  clear he hb4 T HP HG x0 x1 x2 x3 x4 x5
  go_wp2
  go_ret
  exact ⟨by first | (rw [EV.out];done) | (rw [EV.out];rfl),Hb.out⟩
 ·have b1:(fcmp r.1 r.2 == 0)=false:=by rw [beq_eq_false_iff_ne];exact c0
  obtain ⟨U,hU⟩:∃ U,U=ncount (gres Q g) r.1.z r.1.q r.2.z r.2.q:=⟨_,rfl⟩
  have EV:=Lib.hid (show V=decide (0<U) by
   have h1:=EN.out (fun e=>c0 (FZ.out.2 e))
   rw [← hU] at h1
   rw [HV.out]
   exact decide_eq_decide.2 h1.symm)
  have HU:=Lib.hid hU
  clear c0 hU
  obtain ⟨wk,hwk⟩:∃ wk,wk=w1:=⟨_,rfl⟩
  rw [← hwk] at T HP HG Hb x0 x1 x2 x3 x4 x5 l1 ⊢
  clear hwk
  go_wp2_with fail
  refine wp_region_held_drew (S:=(fun w'=>w'.cell? ⟨g1,0,none⟩=some (.bool n)∧w'.cell? ⟨g1,1,none⟩=some (.slice A l c)∧w'.cell? ⟨g1,2,none⟩=some (.slice B m d)∧w'.cell? ⟨g1,3,none⟩=some (.bool n')∧w'.cell? ⟨g1,4,none⟩=some (.slice A' l' c')∧w'.cell? ⟨g1,5,none⟩=some (.slice B' m' d'))) (by kernel_rfl) (by (try dsimp only);go_keep) (fun hHeld=>?_)
  (refine tk (i:=0) (v:=?_) rfl rfl (Or.inl ⟨by rfl,?_⟩) ?_;rotate_left;(focus (intro w hSw;(try dsimp only at hSw);go_simp;(try with_reducible rfl)));(simp only [put_lit,List.set]))
  (refine tk (i:=1) (v:=?_) rfl rfl (Or.inl ⟨by rfl,?_⟩) ?_;rotate_left;(focus (intro w hSw;(try dsimp only at hSw);go_simp;(try with_reducible rfl)));(simp only [put_lit,List.set]))
  (refine tk (i:=3) (v:=?_) rfl rfl (Or.inl ⟨by rfl,?_⟩) ?_;rotate_left;(focus (intro w hSw;(try dsimp only at hSw);go_simp;(try with_reducible rfl)));(simp only [put_lit,List.set]))
  (refine tk (i:=4) (v:=?_) rfl rfl (Or.inl ⟨by rfl,?_⟩) ?_;rotate_left;(focus (intro w hSw;(try dsimp only at hSw);go_simp;(try with_reducible rfl)));(simp only [put_lit,List.set]))
  (refine tk (i:=5) (v:=?_) rfl rfl (Or.inl ⟨by rfl,?_⟩) ?_;rotate_left;(focus (intro w hSw;(try dsimp only at hSw);go_simp;(try with_reducible rfl)));(simp only [put_lit,List.set]))
  (refine tk (i:=6) (v:=?_) rfl rfl (Or.inl ⟨by rfl,?_⟩) ?_;rotate_left;(focus (intro w hSw;(try dsimp only at hSw);go_simp;(try with_reducible rfl)));(simp only [put_lit,List.set]))
  (refine wpAnyH_ready (rs:=[2]) (by kernel_rfl) (by simp) ?_;refine AllReadyH.cons rfl (fun K hK=>?_) AllReadyH.nil;go_simp)
  refine (gcd_any ikN ikN _ _ _ Q _ _ _ g _ (HP.out.below ikN Bel.go) (HG.out.below ikN Bel.go) fitQ.smp g6.fit.smp (by omega) (by omega) HD.out.ga).mono ?_
  rintro e w4 ⟨A4,l4,c4,rfl,h4,hb4⟩
  have G4:=Lib.hid ((Below.trans Bel.go (hb4.mono (by simp<;>omega))):Below wk.heap.size wk w4)
  have hl4:l4≤6:=by have:=h4.length;have:=HD.out.t;omega
  have H4:=Lib.hid h4
  clear h4
  obtain ⟨hcx,hfx⟩:=bcellS hb4;refine hK.out _ _ ?_ (fun _=>?_);(focus (((try dsimp only);repeat' apply And.intro)<;>(rw [hcx _ (by go_simp)];go_simp)));clear hHeld hK K hcx hfx;rename_i hHeld;clear hb4
  (refine wpAnyH_ready (rs:=[7]) (by kernel_rfl) (by simp) ?_;refine AllReadyH.cons rfl (fun K hK=>?_) AllReadyH.nil;go_simp)
  have T4:=T.out.move G4.out
  refine (count_q ikN _ _ _ (gres Q g) _ _ _ _ _ _ _ r.1.q r.1.z _ _ _ _ _ _ _ r.2.q r.2.z _ (H4.out.below ikN Bel.go) (by omega) HD9.out (T4.r.hz.below Bel.go) (T4.r.hq.below Bel.go) (T4.hz.below Bel.go) (T4.hq.below Bel.go) ha.at hb.at ha.z ha.q hb.z hb.q).mono ?_
  rintro e w5 ⟨he,hb5⟩
  have he2:e=.returned (.int .i64 U):=by rw [HU.out];exact he
  subst he2
  have G5:=Lib.hid (G4.out.trans (((Below.trans Bel.go (hb5.mono (by simp<;>omega))):Below w4.heap.size w4 w5).mono G4.out.size))
  clear he T4
  obtain ⟨hcx,hfx⟩:=bcellS hb5;refine hK.out _ _ ?_ (fun _=>?_);(focus (((try dsimp only);repeat' apply And.intro)<;>(rw [hcx _ (by go_simp)];go_simp)));clear hHeld hK K hcx hfx;rename_i hHeld;clear hb5
  (refine tk (i:=8) (v:=?_) rfl rfl (Or.inl ⟨by rfl,?_⟩) ?_;rotate_left;(focus (intro w hSw;(try dsimp only at hSw);go_simp;(try with_reducible rfl)));(simp only [put_lit,List.set]))
  (refine tk (i:=9) (v:=?_) rfl rfl (Or.inl ⟨by rfl,?_⟩) ?_;rotate_left;(focus (intro w hSw;(try dsimp only at hSw);go_simp;(try with_reducible rfl)));(simp only [put_lit,List.set]))
  refine wpAnyH_done (by kernel_rfl) ?_ _
  replace Hb:=Lib.hid (Hb.out.trans (G5.out.mono Hb.out.size))
  clear hHeld x0 x1 x2 x3 x4 x5 T HP HG G4 G5 H4
  go_wp2
  go_ret
  exact ⟨by first | (rw [EV.out];done) | (rw [EV.out];rfl),Hb.out⟩
end Go.Proofs.YtbfddopopajgaaaGreat
namespace Go.Proofs.YtbfddopopajgaaaGreat
open Go Go.RowKit
def New (B:Nat) (A:Option Addr) (l:Nat):Prop:=l=0∨∃ r,A=some ⟨r,0,none⟩∧B≤r
section
variable {B B' g:Nat} {A:Option Addr} {l c:Nat} {w w':World} {p:List Int} {ps:List (List Int)} {vs us:List Value} {v v':Value}
theorem New.mono (h:New B A l) (hb:B'≤B):New B' A l:=h.imp id fun ⟨r,e,hr⟩=>⟨r,e,Nat.le_trans hb hr⟩
def PolRF (B:Nat) (w:World) (p:List Int) (vs:List Value):Prop:=∃ A l c,vs=[.slice A l c]∧PolyN w A l c p∧New B A l
theorem PolRF.polr (h:PolRF B w p vs):PolR w p vs:=by
 obtain ⟨A,l,c,e,h1,_⟩:=h
 exact ⟨A,l,c,e,h1⟩
theorem PolRF.mono (h:PolRF B w p vs) (hb:B'≤B):PolRF B' w p vs:=by
 obtain ⟨A,l,c,e,h1,h2⟩:=h
 exact ⟨A,l,c,e,h1,h2.mono hb⟩
theorem PolRF.below (h:PolRF B w p vs) (hb:Below w.heap.size w w'):PolRF B w' p vs:=by
 obtain ⟨A,l,c,e,h1,h2⟩:=h
 exact ⟨A,l,c,e,h1.below ikN hb,h2⟩
theorem PolRF.len (h:PolRF B w p vs):vs.length=1:=h.polr.len
theorem PolRF.sl (h:PolRF B w p vs):∀ v∈vs,SlC v:=h.polr.sl
theorem PolRF.frs (h:PolRF B w p vs) (hf:FrS g g w w') (hc:∀ o u,w.cell? ⟨g,o,none⟩=some u→SlC u):PolRF B w' p vs:=by
 obtain ⟨A',l',c',e',h'⟩:=h.polr.frs hf hc
 obtain ⟨A,l,c,e,_,h2⟩:=h
 have e2:=e.symm.trans e'
 cases e2
 exact ⟨_,_,_,e',h',h2⟩
theorem PolRF.off (h:PolRF B w p vs) (hf:FrS g g w w') (hn:NdB w g) (hg:g<B):PolRF B w' p vs:=by
 obtain ⟨A,l,c,e,h1,h2⟩:=h
 refine ⟨A,l,c,e,PolyG.frs (g:=g) (g':=g) ⟨h1,?_⟩ hf hn hn,h2⟩
 rcases h2 with h0 | ⟨r,hA,hr⟩
 ·exact .inl h0
 ·exact .inr ⟨r,0,hA,by omega,by omega⟩
theorem polrf_mv {B0:Nat} {t:TypeId} (h:GrE SlC 1 t B0 w v us vs v' w') (p:List Int) (ys:List Value):PolRF B w p ys→PolRF B w' p ys:=h.mv (fun _ _ hb hx=>hx.below hb) (fun _ _ _ hf hc hx=>hx.frs hf hc) p ys
def ChF (B:Nat) (w:World) (A:Option Addr) (l c:Nat) (ps:List (List Int)):Prop:=SlE 1 (PolRF B) w A l c ps∧New B A l
theorem ChF.nil (B:Nat) (w:World):ChF B w none 0 0 []:=⟨⟨rfl,Nat.le_refl _,.inl ⟨rfl,rfl,rfl⟩⟩,.inl rfl⟩
theorem ChF.own {t:TypeId} (h:OwnE SlC 1 t B w (.slice A l c) us) (hl:Lay (PolRF B w) ps us):ChF B w A l c ps:=by
 obtain ⟨A9,l9,c9,e9,h9⟩:=h.sle (by decide) hl fun x vs hx=>hx.len
 cases e9
 refine ⟨h9,?_⟩
 rcases h with ⟨_,e⟩ | ⟨g,n,cap,cs,e,hb,_⟩
 ·cases e;exact .inl rfl
 ·cases e;exact .inr ⟨g,rfl,hb⟩
theorem ChF.mono (h:ChF B w A l c ps) (hb:B'≤B):ChF B' w A l c ps:=by
 refine ⟨⟨h.1.length,h.1.cap,?_⟩,h.2.mono hb⟩
 rcases h.1.elems with h0 | ⟨b,o,e,hlt,hv⟩
 ·exact .inl h0
 ·refine .inr ⟨b,o,e,hlt,fun i x hx=>?_⟩
  obtain ⟨vs,h1,h2⟩:=hv i x hx
  exact ⟨vs,h1.mono hb,h2⟩
theorem ChF.below (h:ChF B w A l c ps) (hb:Below w.heap.size w w'):ChF B w' A l c ps:=⟨h.1.below hb fun _ _ hx=>hx.below hb,h.2⟩
theorem ChF.off (h:ChF B w A l c ps) (hf:FrS g g w w') (hn:NdB w g) (hg:g<B):ChF B w' A l c ps:=by
 refine ⟨⟨h.1.length,h.1.cap,?_⟩,h.2⟩
 rcases h.1.elems with h0 | ⟨b,o,e,hlt,hv⟩
 ·exact .inl h0
 ·rcases h.2 with h0 | ⟨r,hA,hr⟩
  ·subst h0
   refine .inr ⟨b,o,e,Nat.lt_of_lt_of_le hlt hf.size,fun i x hx=>?_⟩
   have:=h.1.length
   have hi:i<ps.length:=by
    refine Nat.lt_of_not_le fun hc=>?_
    rw [List.getElem?_eq_none hc] at hx;cases hx
   omega
  ·have hbr:b=r:=congrArg Addr.block (Option.some.inj (e.symm.trans hA))
   refine .inr ⟨b,o,e,Nat.lt_of_lt_of_le hlt hf.size,fun i x hx=>?_⟩
   obtain ⟨vs,h1,h2⟩:=hv i x hx
   exact ⟨vs,h1.off hf hn hg,fun j v hj=>(hf.cell hlt (by omega) (by omega) _).trans (h2 j v hj)⟩
theorem ChF.plst (h:ChF B w A l c ps):PLst w A l c ps:=by
 refine ⟨h.1.length,?_⟩
 rcases h.1.elems with ⟨h0,_⟩ | ⟨b,o,e,hlt,hv⟩
 ·exact .inl h0
 ·refine .inr ⟨b,o,e,hlt,fun j hj=>?_⟩
  have hjl:j<ps.length:=by rw [h.1.length];exact hj
  obtain ⟨vs,⟨A1,l1,c1,e1,h1,_⟩,hc⟩:=hv j (ps.getD j []) (by rw [List.getD_eq_getElem?_getD,List.getElem?_eq_getElem hjl];rfl)
  subst e1
  have:=hc 0 _ rfl
  rw [Nat.mul_one,Nat.add_zero] at this
  exact ⟨A1,l1,c1,this,h1.at_ ikN⟩
theorem own_lit {t:TypeId} {base:Nat} (w:World) (A:Option Addr) (l c:Nat) (hb:base≤w.heap.size):OwnE SlC 1 t base (w.alloc (.cells #[.slice A l c] t)) (.slice (some ⟨w.heap.size,0,none⟩) 1 1) [.slice A l c]:=by
 refine .inr ⟨w.heap.size,1,1,_,rfl,hb,rfl,Nat.le_refl _,fun j u hu=>?_,Blk.new w t _,rfl,fun j hj=>?_⟩
 ·match j,hu with
  | 0,hu=>simp at hu;subst hu;simp
 ·match j,hj with
  | 0,_=>exact ⟨_,rfl,A,l,c,rfl⟩
end
set_option maxRecDepth 100000 in
set_option maxHeartbeats 4000000 in
theorem primitive_fr {I:IntPred} (hI:IK I) (A:Option Addr) (len cap:Nat) (p:List Int) (w:World) (h:PolyP I w A len cap p) (hs:SmP p) (hm:len≤1000000000) :
 Calls Tryz.prog 92 #[.slice A len cap] w fun e w'=>∃ A' l' c',e=.returned (.slice A' l' c')∧PolyN w' A' l' c' (pprim p)∧New w.heap.size A' l'∧Below w.heap.size w w':=by
 have hsc:=pcont_sm hs
 have Hp:=Lib.hid h
 go_enter Tryz.func92,Tryz.ntmps92
 go_wp2_with fail
 refine (content_any hI _ _ _ _ _ h hs hm).mono ?_
 rintro e w1 ⟨n1,A1,l1,c1,rfl,h1,hb1⟩
 have hba:Below w1.heap.size w1 (w1.alloc (ibox n1 A1 l1 c1)):=(Below.refl _ _).alloc (Nat.le_refl _) _
 have HC:=Lib.hid (IBox.make h1)
 have Hb1:=Lib.hid (hb1.trans (hba.mono hb1.size))
 have h2:=(h.below hI hb1).below hI hba
 have Hsz:=Lib.hid hb1.size
 clear h h1 hb1 hba
 go_wp2_with fail
 refine (lead_any _ _ _ _ _ (h2.at_ hI) hs (by omega)).mono ?_
 rintro e w2 ⟨n2,A2,l2,c2,rfl,hL,hb2⟩
 have h3:=h2.below hI hb2
 have HC2:=Lib.hid (HC.out.move hb2)
 have Hb2:=Lib.hid (Hb1.out.trans (hb2.mono Hb1.out.size))
 clear h2 hb2 HC Hb1
 have hsl:SmI (plead p):=hs.getD _
 go_wp2_with fail
 refine (isign_any _ _ _ _ _ _ hL.at_ hsl).mono ?_
 rintro e w3 ⟨rfl,rfl⟩
 have hba:Below w2.heap.size w2 (w2.alloc (Obj.cells #[Value.bool n2,Value.slice A2 l2 c2] 40)):=(Below.refl _ _).alloc (Nat.le_refl _) _
 have h4:=h3.below hI hba
 have HC3:=Lib.hid (HC2.out.move hba)
 have Hb3:=Lib.hid (Hb2.out.trans (hba.mono Hb2.out.size))
 clear h3 hba HC2 Hb2 hL
 generalize w2.alloc (Obj.cells #[Value.bool n2,Value.slice A2 l2 c2] 40)=W at *
 obtain ⟨gb,hgb⟩:∃ g,g=w1.heap.size:=⟨_,rfl⟩
 rw [← hgb] at HC3 ⊢
 have Hgb:=Lib.hid (show w.heap.size≤gb by have:=Hsz.out;omega)
 have Hl0:=Lib.hid (plead_zero (f:=p))
 have Hcn:=Lib.hid (fun h=>pcont_ne (p:=p) h)
 have hcs:SmI (pcont p:Int):=by show Sm _;rw [Int.natAbs_natCast];exact hsc
 clear hgb
 rcases sg_cases (plead p) with ⟨hp,hsg⟩ | ⟨hp,hsg⟩ | ⟨hp,hsg⟩
 ·rw [hsg]
  have hpl:plen p≠0:=fun h=>by have:=Hl0.out.2 h;omega
  have hne:-(pcont p:Int)≠0:=by have:=Hcn.out hpl;omega
  have hsn:SmI (-(pcont p:Int)):=by show Sm _;rw [Int.natAbs_neg,Int.natAbs_natCast];exact hsc
  have b0:=HC3.out.c0
  have b1:=HC3.out.c1
  have H4:=Lib.hid h4
  have Hpp:=Lib.hid (show pprim p=(ptrim p).map (·.tdiv (-(pcont p:Int))) by unfold pprim;rw [if_neg hpl,hsg,Int.neg_one_mul])
  clear h4 hp hsg hpl hsl
  go_wp2_with fail
  refine (ineg_any _ _ _ _ _ _ HC3.out.hz.at_ hcs).mono ?_
  rintro e w5 ⟨n5,A5,l5,c5,rfl,h5,hb5⟩
  have hC5:=HC3.out.move hb5
  have H5:=Lib.hid (H4.out.below hI hb5)
  have Hb5:=Lib.hid (Hb3.out.trans (hb5.mono Hb3.out.size))
  have HP:=Lib.hid (hC5.put h5)
  have hbp:Below w.heap.size w (put2 w5 gb n5 A5 l5 c5):=(Hb5.out.setCell (p:=⟨gb,0,none⟩) Hgb.out _).setCell (p:=⟨gb,1,none⟩) Hgb.out _
  have c50:=hC5.c0
  have c51:=hC5.c1
  have f50:=hC5.f0
  have f51:=hC5.f1
  have H6:=Lib.hid (Hp.out.below hI hbp)
  have Hbp:=Lib.hid hbp
  clear h5 hb5 hC5 b0 b1 HC3 H4 hbp H5 Hb5
  go_wp2_with fail
  refine (over_any hI _ _ _ _ _ _ _ _ _ _ H6.out HP.out.hz hs hsn hne hm).mono ?_
  rintro e w7 ⟨g7,rfl,h7,hg7,hb7⟩
  have Hn7:=Lib.hid (Nat.le_trans Hbp.out.size hg7)
  clear hg7
  have hq7:=h7.poly (cap:=plen p) (by rw [List.length_map,ptrim_length];exact Nat.le_refl _)
  rw [List.length_map,ptrim_length] at hq7
  have Hq7:=Lib.hid hq7
  have Hb7:=Lib.hid (Hbp.out.trans (hb7.mono Hbp.out.size))
  clear h7 hb7 hq7 HP H6 Hbp c50 c51 f50 f51
  go_wp2
  go_ret
  exact ⟨_,_,_,rfl,by rw [Hpp.out];exact Hq7.out,.inr ⟨g7,rfl,Hn7.out⟩,Hb7.out⟩
 ·rw [hsg]
  have hpl:plen p=0:=Hl0.out.1 hp
  have Hpp:=Lib.hid (show pprim p=[] by unfold pprim;rw [if_pos hpl])
  clear h4 hp hsg hpl hsl
  go_wp2
  go_ret
  exact ⟨_,_,_,rfl,by rw [Hpp.out];exact PolyP.nil _ _ _ _,.inl rfl,Hb3.out⟩
 ·rw [hsg]
  have hpl:plen p≠0:=fun h=>by have:=Hl0.out.2 h;omega
  have hne:(pcont p:Int)≠0:=by have:=Hcn.out hpl;omega
  have b0:=HC3.out.c0
  have b1:=HC3.out.c1
  have H4:=Lib.hid h4
  have Hpp:=Lib.hid (show pprim p=(ptrim p).map (·.tdiv (pcont p:Int)) by unfold pprim;rw [if_neg hpl,hsg,Int.one_mul])
  clear h4 hp hsg hpl hsl
  go_wp2_with fail
  refine (over_any hI _ _ _ _ _ _ _ _ _ _ H4.out HC3.out.hz hs hcs hne hm).mono ?_
  rintro e w7 ⟨g7,rfl,h7,hg7,hb7⟩
  have Hn7:=Lib.hid (Nat.le_trans Hb3.out.size hg7)
  clear hg7
  have hq7:=h7.poly (cap:=plen p) (by rw [List.length_map,ptrim_length];exact Nat.le_refl _)
  rw [List.length_map,ptrim_length] at hq7
  have Hq7:=Lib.hid hq7
  have Hb7:=Lib.hid (Hb3.out.trans (hb7.mono Hb3.out.size))
  clear h7 hb7 hq7 HC3 H4 Hb3
  go_wp2
  go_ret
  exact ⟨_,_,_,rfl,by rw [Hpp.out];exact Hq7.out,.inr ⟨g7,rfl,Hn7.out⟩,Hb7.out⟩
set_option maxHeartbeats 400000 in
theorem polyneg_fr {I:IntPred} (hI:IK I) (A:Option Addr) (len cap:Nat) (p:List Int) (w:World) (h:PolyP I w A len cap p) (hs:SmP p) (hm:len≤1000000000) :
 Calls Tryz.prog 126 #[.slice A len cap] w fun e w'=>∃ A' l' c',e=.returned (.slice A' l' c')∧PolyN w' A' l' c' (pmn (ptrim p))∧New w.heap.size A' l'∧Below w.heap.size w w':=by
 have hpl:plen p≤1000000000:=by have:=plen_le p;have:=h.length;omega
 go_enter Tryz.func126,Tryz.ntmps126
 go_wp2_with fail
 refine (ptrim_any hI _ _ _ _ _ h hs (by omega)).mono ?_
 rintro e w1 ⟨l1,rfl,h1,rfl,hb1⟩
 have Hb1:=Lib.hid hb1
 have hs2:=hs.ptrim
 clear h hs hb1
 go_wp2_with fail
 refine (tneg_any hI _ _ _ _ _ h1 hs2 (by omega)).mono ?_
 rintro e w2 ⟨g,rfl,h2,hg,hb2⟩
 have hp:=h2.poly (cap:=plen p) (by rw [pmn_length,ptrim_length];exact Nat.le_refl _)
 rw [pmn_length,ptrim_length] at hp
 have HG:=Lib.hid (Nat.le_trans Hb1.out.size hg)
 have H2:=Lib.hid hp
 have Hb2:=Lib.hid (Hb1.out.trans (hb2.mono Hb1.out.size))
 clear h1 h2 hb2 hp hg
 go_wp2
 go_ret
 exact ⟨_,_,_,rfl,H2.out,.inr ⟨g,rfl,HG.out⟩,Hb2.out⟩
set_option maxHeartbeats 400000 in
theorem reduced_fr {I:IntPred} (hI:IK I) (A:Option Addr) (len cap:Nat) (f:List Int) (w:World) (h:PolyP I w A len cap f) (hs:SmP f) (hm:len≤1000000000) :
 Calls Tryz.prog 138 #[.slice A len cap] w fun e w'=>∃ A' l' c',e=.returned (.slice A' l' c')∧PolyN w' A' l' c' (pred f)∧New w.heap.size A' l'∧Below w.heap.size w w':=by
 have hfl:=h.length
 go_enter Tryz.func138,Tryz.ntmps138
 go_wp2_with fail
 refine (lead_any _ _ _ _ _ (h.at_ hI) hs (by omega)).mono ?_
 rintro e w1 ⟨n1,A1,l1,c1,rfl,h1,hb1⟩
 have h01:=h.below hI hb1
 have Hb1:=Lib.hid hb1
 have sl:SmI (plead f):=hs.getD _
 clear h hb1
 go_wp2_with fail
 refine (isign_any _ _ _ _ _ _ h1.at_ sl).mono ?_
 rintro e w2 ⟨rfl,hw⟩
 have hb2:Below w1.heap.size w1 w2:=by first | exact hw | (rw [hw];exact Below.refl _ _) | (rw [hw];exact (Below.refl _ _).alloc (Nat.le_refl _) _)
 have h02:=h01.below hI hb2
 have Hb2:=Lib.hid (Hb1.out.trans (hb2.mono Hb1.out.size))
 clear h01 h1 hb2 hw Hb1
 by_cases hn:plead f<0
 ·have hsg:sg (plead f)=-1:=by rcases sg_cases (plead f) with ⟨_,e⟩ | ⟨_,e⟩ | ⟨_,e⟩<;>omega
  have hsl:sg (plead f)<0:=by omega
  have Hn:=Lib.hid hn
  clear hn hsg
  go_wp2_with fail
  refine (primitive_fr hI _ _ _ _ _ h02 hs hm).mono ?_
  rintro e w3 ⟨A3,l3,c3,rfl,h3,hn3,hb3⟩
  have HN:=Lib.hid (hn3.mono Hb2.out.size)
  clear hn3
  have hl3:=h3.length
  have hpl:=pprim_le' f
  have Hb3:=Lib.hid (Hb2.out.trans (hb3.mono Hb2.out.size))
  clear h02 hb3 Hb2
  go_wp2_with fail
  refine (polyneg_fr ikN _ _ _ _ _ h3 (pprim_smp hs) (by omega)).mono ?_
  rintro e w4 ⟨A4,l4,c4,rfl,h4,hn4,hb4⟩
  replace HN:=Lib.hid (hn4.mono Hb3.out.size)
  clear hn4
  have H4:=Lib.hid h4
  have Hb4:=Lib.hid (Hb3.out.trans (hb4.mono Hb3.out.size))
  clear h3 h4 hb4 Hb3
  go_wp2
  go_ret
  exact ⟨_,_,_,rfl,by unfold pred;rw [if_pos (by have:=Hn.out;omega)];exact H4.out,HN.out,Hb4.out⟩
 ·have hsl:¬ sg (plead f)<0:=by rcases sg_cases (plead f) with ⟨_,e⟩ | ⟨_,e⟩ | ⟨_,e⟩<;>omega
  have Hn:=Lib.hid hn
  clear hn
  go_wp2_with fail
  refine (primitive_fr hI _ _ _ _ _ h02 hs hm).mono ?_
  rintro e w3 ⟨A3,l3,c3,rfl,h3,hn3,hb3⟩
  have HN:=Lib.hid (hn3.mono Hb2.out.size)
  clear hn3
  have H3:=Lib.hid h3
  have Hb3:=Lib.hid (Hb2.out.trans (hb3.mono Hb2.out.size))
  clear h02 h3 hb3 Hb2
  go_wp2
  go_ret
  exact ⟨_,_,_,rfl,by unfold pred;rw [if_neg (by have:=Hn.out;omega)];exact H3.out,HN.out,Hb3.out⟩
set_option maxRecDepth 100000 in
set_option maxHeartbeats 1000000 in
theorem negrem_fr (A:Option Addr) (la ca:Nat) (a:List Int) (B:Option Addr) (lb cb:Nat) (b:List Int) (w:World) (ha:PolyN w A la ca a) (hb:PolyN w B lb cb b) (hf:ChFits a b) :
 Calls Tryz.prog 139 #[.slice A la ca,.slice B lb cb] w fun e w'=>∃ A' l' c',e=.returned (.slice A' l' c')∧PolyN w' A' l' c' (nrem a b)∧New w.heap.size A' l'∧Below w.heap.size w w':=by
 have hla:la≤1000000:=by have:=hf.la;have:=ha.length;omega
 have hlb:lb≤1000000:=by have:=hf.lb;have:=hb.length;omega
 have hal:=ha.length
 have hbl:=hb.length
 have sr:=hf.r
 have srl:=hf.rl
 have sb:SmP b:=hf.fb.smp
 have HF:=Lib.hid hf
 obtain ⟨m,hm⟩:∃ m:Nat,m=la+1-lb:=⟨_,rfl⟩
 go_enter Tryz.func139,Tryz.ntmps139
 go_wp2_with fail
 refine (pseudo_any ikN ikN _ _ _ _ _ _ _ _ 1000000000 _ ha hb hf.da hf.fb hf.b1 (by omega) (by omega) (by omega)).mono ?_
 rintro e w1 ⟨A1,l1,c1,A2,l2,c2,rfl,h1,h2,hb1⟩
 have hB1:=Lib.hid (hb.below ikN hb1)
 have H2:=Lib.hid h2
 have hl2:=h2.length
 have Hb1:=Lib.hid hb1
 have Hal:=Lib.hid hal
 have Hbl:=Lib.hid hbl
 have hmx:max ((la:Int)-(lb:Int)+1) 0=(m:Int):=by omega
 have Hm:=Lib.hid hm
 clear ha hb h1 h2 hb1 hf hal hbl hm
 by_cases hm2:m % 2=1
 ·have ht:Int.tmod (m:Int) 2=1:=by rw [show (2:Int)=((2:Nat):Int) from rfl,← Int.ofNat_tmod,hm2];rfl
  have hb2:((m:Int).tmod 2 == 1)=true:=by rw [ht];rfl
  have Hm2:=Lib.hid hm2
  have hlb2:b.length=lb:=Hbl.out
  clear hm2
  go_wp2_with fail
  refine (lead_any _ _ _ _ _ (hB1.out.at_ ikN) sb (by omega)).mono ?_
  rintro e w3 ⟨n3,A3,l3,c3,rfl,h3,hb3⟩
  have H23:=Lib.hid (H2.out.below ikN hb3)
  have Hb3:=Lib.hid (Hb1.out.trans (hb3.mono Hb1.out.size))
  have sl:SmI (plead b):=sb.getD _
  clear hb3
  go_wp2_with fail
  refine (isign_any _ _ _ _ _ _ h3.at_ sl).mono ?_
  rintro e w4 ⟨rfl,rfl⟩
  have hb4:Below w3.heap.size w3 (w3.alloc (ibox n3 A3 l3 c3)):=(Below.refl _ _).alloc (Nat.le_refl _) _
  have H24:=Lib.hid (H23.out.below ikN hb4)
  have Hb4:=Lib.hid (Hb3.out.trans (hb4.mono Hb3.out.size))
  clear hb4 h3
  by_cases hn:plead b<0
  ·have hsl:sg (plead b)<0:=by rcases sg_cases (plead b) with ⟨_,e⟩ | ⟨_,e⟩ | ⟨_,e⟩<;>omega
   have Hn:=Lib.hid hn
   clear hn
   go_wp2_with fail
   refine (reduced_fr ikN _ _ _ _ _ H24.out sr (by omega)).mono ?_
   rintro e w5 ⟨A5,l5,c5,rfl,h5,hn5,hb5⟩
   have HN:=Lib.hid (hn5.mono Hb4.out.size)
   clear hn5
   have H5:=Lib.hid h5
   have Hb5:=Lib.hid (Hb4.out.trans (hb5.mono Hb4.out.size))
   clear h5 hb5
   go_wp2
   go_ret
   exact ⟨_,_,_,rfl,by unfold nrem;rw [if_pos ⟨by rw [Hal.out,Hbl.out,← Hm.out];exact Hm2.out,by have:=Hn.out;omega⟩];exact H5.out,HN.out,Hb5.out⟩
  ·have hsl:¬ sg (plead b)<0:=by rcases sg_cases (plead b) with ⟨_,e⟩ | ⟨_,e⟩ | ⟨_,e⟩<;>omega
   have Hn:=Lib.hid hn
   clear hn
   go_wp2_with fail
   refine (reduced_fr ikN _ _ _ _ _ H24.out sr (by omega)).mono ?_
   rintro e w5 ⟨A5,l5,c5,rfl,h5,hn5,hb5⟩
   have HN:=Lib.hid (hn5.mono Hb4.out.size)
   clear hn5
   have hl5:=h5.length
   have hpl:=pred_le (psr a b)
   have Hb5:=Lib.hid (Hb4.out.trans (hb5.mono Hb4.out.size))
   clear hb5
   go_wp2_with fail
   refine (polyneg_fr ikN _ _ _ _ _ h5 (pred_smp sr) (by omega)).mono ?_
   rintro e w6 ⟨A6,l6,c6,rfl,h6,hn6,hb6⟩
   replace HN:=Lib.hid (hn6.mono Hb5.out.size)
   clear hn6
   have H6:=Lib.hid h6
   have Hb6:=Lib.hid (Hb5.out.trans (hb6.mono Hb5.out.size))
   clear h5 h6 hb6
   go_wp2
   go_ret
   exact ⟨_,_,_,rfl,by unfold nrem;rw [if_neg (fun hh=>by have h1:=Hn.out;have h2:=hh.2;omega)];exact H6.out,HN.out,Hb6.out⟩
 ·have ht:Int.tmod (m:Int) 2=0:=by rw [show (2:Int)=((2:Nat):Int) from rfl,← Int.ofNat_tmod,show m % 2=0 by omega];rfl
  have hb2:((m:Int).tmod 2 == 1)=false:=by rw [ht];rfl
  have Hm2:=Lib.hid hm2
  clear hm2
  go_wp2_with fail
  refine (reduced_fr ikN _ _ _ _ _ H2.out sr (by omega)).mono ?_
  rintro e w5 ⟨A5,l5,c5,rfl,h5,hn5,hb5⟩
  have HN:=Lib.hid (hn5.mono Hb1.out.size)
  clear hn5
  have hl5:=h5.length
  have hpl:=pred_le (psr a b)
  have Hb5:=Lib.hid (Hb1.out.trans (hb5.mono Hb1.out.size))
  clear hb5
  go_wp2_with fail
  refine (polyneg_fr ikN _ _ _ _ _ h5 (pred_smp sr) (by omega)).mono ?_
  rintro e w6 ⟨A6,l6,c6,rfl,h6,hn6,hb6⟩
  replace HN:=Lib.hid (hn6.mono Hb5.out.size)
  clear hn6
  have H6:=Lib.hid h6
  have Hb6:=Lib.hid (Hb5.out.trans (hb6.mono Hb5.out.size))
  clear h5 h6 hb6
  go_wp2
  go_ret
  exact ⟨_,_,_,rfl,by unfold nrem;rw [if_neg (fun hh=>Hm2.out (by rw [Hm.out,← Hal.out,← Hbl.out];exact hh.1))];exact H6.out,HN.out,Hb6.out⟩
set_option maxRecDepth 100000 in
set_option maxHeartbeats 4000000 in
theorem chain_fr (A:Option Addr) (la ca:Nat) (f:List Int) (B:Option Addr) (lb cb:Nat) (g:List Int) (w:World) (hf:PolyN w A la ca f) (hg:PolyN w B lb cb g) (sf:SmP f) (sg:SmP g) (hla:la≤1000000) (hlb:lb≤1000000) (k:Nat) (hok:chOK k (pred f) (pred g)) (hlen:(chn k (pred f) (pred g)).length≤1000000) :
 Calls Tryz.prog 99 #[.slice A la ca,.slice B lb cb] w fun e w'=>(∃ A' l' c',e=.returned (.slice A' l' c')∧ChF w.heap.size w' A' l' c' (pchain k f g))∧Below w.heap.size w w':=by
 obtain ⟨i0,hi,hz0,hz1,hz2⟩:=info_parts info_poly
 have hfl:=hf.length
 have hpf:=plen_le f
 obtain ⟨LL,hLL⟩:∃ LL,LL=pchain k f g:=⟨_,rfl⟩
 rw [← hLL]
 have HLL:=Lib.hid hLL
 clear hLL
 go_enter Tryz.func99,Tryz.ntmps99
 go_wp2_with fail
 refine (degree_any _ _ _ _ _ (hf.at_ ikN) sf (by omega)).mono ?_
 rintro e w1 ⟨rfl,hb1⟩
 have hf1:=hf.below ikN hb1
 have hg1:=hg.below ikN hb1
 have Hb1:=Lib.hid hb1
 clear hf hg hb1
 by_cases h0:plen f=0
 ·have hd:((plen f:Nat):Int)-1<0:=by omega
  have H0:=Lib.hid h0
  clear hf1 hg1 h0
  go_wp2
  go_ret
  exact ⟨⟨_,_,_,rfl,by rw [HLL.out];unfold pchain;rw [if_pos H0.out];exact ChF.nil _ _⟩,Hb1.out⟩
 ·have hd:¬ ((plen f:Nat):Int)-1<0:=by omega
  have H0:=Lib.hid h0
  clear h0
  go_wp2_with fail
  refine (reduced_fr ikN _ _ _ _ _ hf1 sf (by omega)).mono ?_
  rintro e w2 ⟨A2,l2,c2,rfl,h2,hn2,hb2⟩
  have HN2:=Lib.hid (hn2.mono Hb1.out.size)
  have hg2:=hg1.below ikN hb2
  have hba:Below w2.heap.size w2 (w2.alloc (.cells #[.slice A2 l2 c2] 26)):=(Below.refl _ _).alloc (Nat.le_refl _) _
  have Hg3:=Lib.hid (hg2.below ikN hba)
  have HO:=Lib.hid (own_lit (t:=26) (base:=w.heap.size) w2 A2 l2 c2 (Nat.le_trans Hb1.out.size hb2.size))
  have H3:=Lib.hid (h2.below ikN hba)
  have hg0:w.heap.size≤w2.heap.size:=Nat.le_trans Hb1.out.size hb2.size
  have Hb3:=Lib.hid ((Hb1.out.trans (hb2.mono Hb1.out.size)).trans (hba.mono (Hb1.out.trans (hb2.mono Hb1.out.size)).size))
  clear hf1 hg1 h2 hb2 hg2 hba Hb1
  go_wp2_with fail
  go_region_held3 (fun w'=>w'.cell? ⟨w2.heap.size,0,none⟩=some (.slice A2 l2 c2)) (go_keep) (first
   | (go_at_call 138;go_must (refine (reduced_fr ikN _ _ _ _ _ ?_ sg (by omega)).mono ?_;(exact Hg3.out.below ikN Bel.go);rintro e w4 ⟨A4,l4,c4,rfl,h4,hn4,hb4⟩;have H4:=Lib.hid h4;have HN4:=Lib.hid (hn4.mono (Nat.le_trans Hb3.out.size (by simp)));have Hb4:=Lib.hid (Hb3.out.trans ((Below.trans Bel.go (hb4.mono (by simp<;>omega))).mono Hb3.out.size));have H34:=Lib.hid (H3.out.below ikN (Below.trans Bel.go (hb4.mono (by simp<;>omega))));have HO4:=Lib.hid (HO.out.below (Below.trans Bel.go (hb4.mono (by simp<;>omega))));obtain ⟨hcx,hfx⟩:=bcellS hb4;have v0:w4.cell? ⟨w2.heap.size,0,none⟩=some (.slice A2 l2 c2):=(hcx _ (by go_simp)).trans (by go_simp);clear h4 hn4 hcx hfx hb4)))
  have HL:=Lib.hid (show LL=[pred f] ++ chn k (pred f) (pred g) by rw [HLL.out];unfold pchain;rw [if_neg H0.out];rfl)
  have hl2:l2≤1000000:=by have h1:=H34.out.length;have h2:=pred_le f;omega
  have HY:=Lib.hid (show Lay (PolRF w.heap.size w4) [pred f] [.slice A2 l2 c2] from ⟨_,[],⟨_,_,_,rfl,H34.out,HN2.out⟩,by simp,rfl⟩)
  clear Hg3 HO H3 Hb3 v0 hd
  have hLn:LL.length≤1000001:=by have:=HL.out;rw [this];simp;omega
  have Hok:=Lib.hid hok
  clear hok hlen HLL
  go_wp2
  go_loopw [5,6,7] (fun s5 s6 s7 wr=>∃ (us:List Value) (ps:List (List Int)) (j:Nat) (a b:List Int) (A1:Option Addr) (l1 c1:Nat) (A2:Option Addr) (l2 c2:Nat),s6=.slice A1 l1 c1∧s7=.slice A2 l2 c2∧OwnE SlC 1 26 w.heap.size wr s5 us∧Lay (PolRF w.heap.size wr) ps us∧PolyN wr A1 l1 c1 a∧PolyN wr A2 l2 c2 b∧New w.heap.size A2 l2∧chOK j a b∧LL=ps ++ chn j a b∧Below w.heap.size w wr) (fun s5 _ _ _=>LL.length-lenOf s5)
  case atStart=>exact ⟨_,_,k,_,_,_,_,_,_,_,_,rfl,rfl,HO4.out,HY.out,H34.out,H4.out,HN4.out,Hok.out,HL.out,Hb4.out⟩
  case round =>
   clear HO4 H34 H4 Hok HL Hb4 hg0 hl2 HY HN2 HN4
   obtain ⟨us,ps,j,a,b,A1,l1,c1,A2,l2,c2,rfl,rfl,ho,hly,ha,hb,hnw,hok,hL,hbw⟩:=hrel
   obtain ⟨Av,nv,cv,ev,hul,hcap⟩:=ho.len
   subst ev
   have hlen1:=hly.len fun x vs hx=>hx.len
   have HO:=Lib.hid (And.intro ho hly)
   have Ha:=Lib.hid ha
   have Hb:=Lib.hid hb
   have HN:=Lib.hid hnw
   have HL:=Lib.hid hL
   have Hbw:=Lib.hid hbw
   have hbl:=hb.length
   match j,hok with
   | j+1,hok =>
     by_cases hb0:b=[]
     ·subst hb0
      have hl2:l2=0:=hbl.symm
      subst hl2
      have hps:LL=ps:=by have:=HL.out;simp [chn] at this;exact this
      have Hps:=Lib.hid hps
      clear ho hly ha hb hnw hL hbw hok hbl hps hul hcap hlen1
      go_wp2
      go_ret
      exact ⟨⟨_,_,_,rfl,by rw [Hps.out];exact ChF.own HO.out.1 HO.out.2⟩,Hbw.out⟩
     ·obtain ⟨hfit,hok2⟩:=hok.resolve_left hb0
      have hLs:LL=(ps ++ [b]) ++ chn j b (nrem a b):=by
       have h1:=HL.out
       simp only [chn] at h1
       rw [if_neg hb0] at h1
       rw [h1];simp
      have hnlt:nv<LL.length:=by rw [hLs];simp;omega
      have hl2:0<l2:=by rw [← hbl];exact List.length_pos_iff.2 hb0
      have hl2i:(0:Int)<(l2:Int):=by omega
      have hba:Below wr.heap.size wr (wr.alloc (.cells #[.slice A2 l2 c2] 26)):=(Below.refl _ _).alloc (Nat.le_refl _) _
      have HO1:=Lib.hid (And.intro (HO.out.1.below hba) (show Lay (PolRF w.heap.size (wr.alloc (.cells #[.slice A2 l2 c2] 26))) ps us from HO.out.2.mono fun _ _ hx=>hx.below hba))
      have HX1:=Lib.hid (show PolRF w.heap.size (wr.alloc (.cells #[.slice A2 l2 c2] 26)) b [.slice A2 l2 c2] from ⟨_,_,_,rfl,Hb.out.below ikN hba,HN.out⟩)
      have HA1:=Lib.hid (show PolR (wr.alloc (.cells #[.slice A2 l2 c2] 26)) a [.slice A1 l1 c1] from ⟨_,_,_,rfl,Ha.out.below ikN hba⟩)
      have Hbw1:=Lib.hid (Hbw.out.trans (hba.mono Hbw.out.size))
      have Hsz:=Lib.hid (show w.heap.size≤(wr.alloc (.cells #[.slice A2 l2 c2] 26)).heap.size from Hbw1.out.size)
      have Hfit:=Lib.hid hfit
      have Hok2:=Lib.hid hok2
      have HLs:=Lib.hid hLs
      have HUL:=Lib.hid hul
      have hub:us.length+[Value.slice A2 l2 c2].length≤100000000:=by simp;omega
      have HUB:=Lib.hid hub
      clear ho hly ha hb hnw hL hbw hok hfit hok2 hLs hba hbl HO Ha Hb HN Hbw HL hul hcap hlen1 hub
      go_wp2_with (at_builtin;refine wpList_app_own rfl (.tmp 22) (.tmp 24) 98 26 rfl 1 i0 (.slice none 0 0) Tryz.underlying98 hi hz0 hz1 (by rw [hz2];omega) rfl SlC slC_nd slz (by decide) w.heap.size _ us [.slice A2 l2 c2] rfl HO1.out.1 Hsz.out ⟨wr.heap.size,0,none⟩ 1 1 rfl rfl (one_cell _) HX1.out.sl (.inl (by decide)) HUB.out 25 rfl ?_)
      intro v2 w5 hgr
      have hn5:PolRF w.heap.size w5 b [.slice A2 l2 c2]:=polrf_mv hgr _ _ HX1.out
      have hly5:Lay (PolRF w.heap.size w5) (ps ++ [b]) (us ++ [.slice A2 l2 c2]):=Lay.app (HO1.out.2.mono fun p ys hp=>polrf_mv hgr p ys hp) hn5
      obtain ⟨_,_,_,e5,hb5,hnn⟩:=hn5
      cases e5
      obtain ⟨_,_,_,e6,ha5⟩:=polr_mv hgr _ _ HA1.out
      cases e6
      obtain ⟨Ax,nx,cx,ex,hux,hcx2⟩:=hgr.1.len
      subst ex
      have hnx:nx=nv+1:=by
       have:=HUL.out
       rw [List.length_append,List.length_singleton] at hux
       omega
      have Ho5:=Lib.hid (And.intro hgr.1 hly5)
      have Hbw5:=Lib.hid (Hbw1.out.trans (hgr.below Hsz.out))
      have Hb5:=Lib.hid hb5
      have HN5:=Lib.hid hnn
      have HNX:=Lib.hid hnx
      clear hgr HO1 HX1 HA1 Hbw1 hly5 hux hcx2 hnn hnx Hsz
      go_wp2_with fail
      refine (negrem_fr _ _ _ _ _ _ _ _ _ ha5 hb5 Hfit.out).mono ?_
      rintro e w6 ⟨A6,l6,c6,rfl,h6,hn6,hb6⟩
      have H6:=Lib.hid h6
      have HN6:=Lib.hid (hn6.mono Hbw5.out.size)
      have Hb6:=Lib.hid (Hb5.out.below ikN hb6)
      have Ho6:=Lib.hid (And.intro (Ho5.out.1.below hb6) (show Lay (PolRF w.heap.size w6) (ps ++ [b]) (us ++ [.slice A2 l2 c2]) from Ho5.out.2.mono fun _ _ hx=>hx.below hb6))
      have Hbw6:=Lib.hid (Hbw5.out.trans (hb6.mono Hbw5.out.size))
      clear ha5 hb5 h6 hn6 hb6 Hb5 Ho5 Hbw5 HN5
      go_wp2
      go_roundw
      case rel=>exact ⟨_,_,j,_,_,_,_,_,_,_,_,rfl,rfl,Ho6.out.1,Ho6.out.2,Hb6.out,H6.out,HN6.out,Hok2.out,HLs.out,Hbw6.out⟩
      case measure=>have:=HNX.out;simp [lenOf];omega
set_option maxHeartbeats 400000 in
theorem sturmof_fr (A:Option Addr) (la ca:Nat) (f:List Int) (w:World) (hf:PolyN w A la ca f) (sf:SmP f) (sd:SmP (pder f)) (hla:la≤1000000) (k:Nat) (hok:chOK k (pred f) (pred (pder f))) (hlen:(chn k (pred f) (pred (pder f))).length≤1000000) :
 Calls Tryz.prog 56 #[.slice A la ca] w fun e w'=>(∃ A' l' c',e=.returned (.slice A' l' c')∧ChF w.heap.size w' A' l' c' (pchain k f (pder f)))∧Below w.heap.size w w':=by
 have hfl:=hf.length
 have hpf:=plen_le f
 go_enter Tryz.func56,Tryz.ntmps56
 go_wp2_with fail
 refine (derivative_any ikN _ _ _ _ _ hf sf (by omega)).mono ?_
 rintro e w1 ⟨A1,l1,c1,rfl,h1,hb1⟩
 have hf1:=hf.below ikN hb1
 have hl1:=h1.length
 rw [pder_length] at hl1
 have Hb1:=Lib.hid hb1
 clear hf hb1
 go_wp2_with fail
 refine (chain_fr _ _ _ _ _ _ _ _ _ hf1 h1 sf sd hla (by omega) k hok hlen).mono ?_
 rintro e w2 ⟨⟨A2,l2,c2,rfl,h2⟩,hb2⟩
 have H2:=Lib.hid (h2.mono Hb1.out.size)
 have Hb2:=Lib.hid (Hb1.out.trans (hb2.mono Hb1.out.size))
 clear hf1 h1 h2 hb2
 go_wp2
 go_ret
 exact ⟨⟨_,_,_,rfl,H2.out⟩,Hb2.out⟩
end Go.Proofs.YtbfddopopajgaaaGreat
namespace Go.Proofs.YtbfddopopajgaaaGreat
open Go Go.RowKit
structure RBk (w:World) (g:Nat) (n:Bool) (A:Option Addr) (l c:Nat) (B:Option Addr) (m d:Nat) (n':Bool) (A':Option Addr) (l' c':Nat) (B':Option Addr) (m' d':Nat) (s:Fq×Fq):Prop where
 k:Blk w g 44 #[.bool n,.slice A l c,.slice B m d,.bool n',.slice A' l' c',.slice B' m' d']
 hz:IntN w n A l c s.1.z
 hq:NatN w B m d s.1.q
 hz':IntN w n' A' l' c' s.2.z
 hq':NatN w B' m' d' s.2.q
section
variable {w w':World} {g:Nat} {n:Bool} {A:Option Addr} {l c:Nat} {B:Option Addr} {m d:Nat} {n':Bool} {A':Option Addr} {l' c':Nat} {B':Option Addr} {m' d':Nat} {s t:Fq×Fq}
theorem RBk.tb (h:RBk w g n A l c B m d n' A' l' c' B' m' d' s):TBox w g n A l c B m d s.1.z s.1.q n' A' l' c' B' m' d' s.2.z s.2.q :=
 ⟨⟨h.k.cell 0,h.k.cell 1,h.k.cell 2,h.k.frozen 0,h.k.frozen 1,h.k.frozen 2,h.k.lt,h.hz,h.hq⟩,h.k.cell 3,h.k.cell 4,h.k.cell 5,h.hz',h.hq'⟩
theorem RBk.make (hz:IntN w n A l c s.1.z) (hq:NatN w B m d s.1.q) (hz':IntN w n' A' l' c' s.2.z) (hq':NatN w B' m' d' s.2.q):RBk (w.alloc (tbox n A l c B m d n' A' l' c' B' m' d')) w.heap.size n A l c B m d n' A' l' c' B' m' d' s:=by
 have ho:=below_new w (tbox n A l c B m d n' A' l' c' B' m' d')
 exact ⟨Blk.new _ _ _,hz.below ho,hq.below ho,hz'.below ho,hq'.below ho⟩
theorem RBk.move (h:RBk w g n A l c B m d n' A' l' c' B' m' d' s) (hb:Below w.heap.size w w'):RBk w' g n A l c B m d n' A' l' c' B' m' d' s :=
 ⟨h.k.below hb h.k.lt,h.hz.below hb,h.hq.below hb,h.hz'.below hb,h.hq'.below hb⟩
theorem RBk.ndb (h:RBk w g n A l c B m d n' A' l' c' B' m' d' s):NdB w g:=blk_ndb h.k fun j v hv=>by
 match j,hv with
 | 0,hv=>simp at hv;subst hv;exact noDigit_bool _
 | 1,hv=>simp at hv;subst hv;exact noDigit_slice _ _ _
 | 2,hv=>simp at hv;subst hv;exact noDigit_slice _ _ _
 | 3,hv=>simp at hv;subst hv;exact noDigit_bool _
 | 4,hv=>simp at hv;subst hv;exact noDigit_slice _ _ _
 | 5,hv=>simp at hv;subst hv;exact noDigit_slice _ _ _
 | j+6,hv=>simp at hv
variable {n₂:Bool} {A₂:Option Addr} {l₂ c₂:Nat} {B₂:Option Addr} {m₂ d₂:Nat} {n₃:Bool} {A₃:Option Addr} {l₃ c₃:Nat} {B₃:Option Addr} {m₃ d₃:Nat}
theorem RBk.put (h:RBk w g n A l c B m d n' A' l' c' B' m' d' s) (h1:IntN w n₂ A₂ l₂ c₂ t.1.z) (h2:NatN w B₂ m₂ d₂ t.1.q) (h3:IntN w n₃ A₃ l₃ c₃ t.2.z) (h4:NatN w B₃ m₃ d₃ t.2.q) :
 RBk (pu6 w g (.bool n₂) (.slice A₂ l₂ c₂) (.slice B₂ m₂ d₂) (.bool n₃) (.slice A₃ l₃ c₃) (.slice B₃ m₃ d₃)) g n₂ A₂ l₂ c₂ B₂ m₂ d₂ n₃ A₃ l₃ c₃ B₃ m₃ d₃ t:=by
 have hf:=pu6_frs w g (.bool n₂) (.slice A₂ l₂ c₂) (.slice B₂ m₂ d₂) (.bool n₃) (.slice A₃ l₃ c₃) (.slice B₃ m₃ d₃)
 have nd:=h.ndb
 exact ⟨(((((h.k.set_ 0 _).set_ 1 _).set_ 2 _).set_ 3 _).set_ 4 _).set_ 5 _,h1.frs hf nd nd,h2.frs hf nd nd,h3.frs hf nd nd,h4.frs hf nd nd⟩
end
end Go.Proofs.YtbfddopopajgaaaGreat
namespace Go.Proofs.YtbfddopopajgaaaGreat
open Go Go.RowKit
set_option maxRecDepth 100000 in
set_option maxHeartbeats 4000000 in
theorem half_any {I:IntPred} (hI:IK I) {w:World} {Ap:Option Addr} {lp cp:Nat} {Q:List Int} {r:Fq×Fq} {n:Bool} {A:Option Addr} {l c:Nat} {B:Option Addr} {m d:Nat} {n':Bool} {A':Option Addr} {l' c':Nat} {B':Option Addr} {m' d':Nat}
 (hp:PolyP I w Ap lp cp Q) (hlp:lp≤1000000) (hQ:∀ x,FqB x→PoOK x.z x.q Q) (hz:IntN w n A l c r.1.z) (hq:NatN w B m d r.1.q) (hz':IntN w n' A' l' c' r.2.z) (hq':NatN w B' m' d' r.2.q) (ha:FqB r.1) (hb:FqB r.2) (hm:FqB (r.1.mid r.2)) :
 Calls Tryz.prog 71 #[.slice Ap lp cp,.agg #[.bool n,.slice A l c,.slice B m d,.bool n',.slice A' l' c',.slice B' m' d']] w fun e w'=>RootE (hlf Q r) e w'∧Below w.heap.size w w':=by
 have o1:=below_new w (tbox n A l c B m d n' A' l' c' B' m' d')
 have o2:=below_new (w.alloc (tbox n A l c B m d n' A' l' c' B' m' d')) rtObj
 have b2:Below w.heap.size w ((w.alloc (tbox n A l c B m d n' A' l' c' B' m' d')).alloc rtObj):=o1.alloc (by simp) _
 have T:=Lib.hid ((TBox.make hz hq hz' hq').move o2)
 have K3:Blk ((w.alloc (tbox n A l c B m d n' A' l' c' B' m' d')).alloc rtObj) (w.alloc (tbox n A l c B m d n' A' l' c' B' m' d')).heap.size 44 rz6:=Blk.new _ _ _
 simp only [World.size_alloc] at K3
 have HP:=Lib.hid (hp.below hI b2)
 have x0:=T.out.r.c0;have x1:=T.out.r.c1;have x2:=T.out.r.c2;have x3:=T.out.c3;have x4:=T.out.c4;have x5:=T.out.c5
 have K4:=Lib.hid K3
 have Hb:=Lib.hid b2
 have hl3:=K3.lt
 have pa:=hQ _ ha
 have pm:=hQ _ hm
 have HQ:=Lib.hid hQ
 obtain ⟨R,hR⟩:∃ R,R=hlf Q r:=⟨_,rfl⟩
 rw [← hR]
 unfold hlf at hR
 have HR:=Lib.hid hR
 obtain ⟨S,hS⟩:∃ S,S=(r.1.mid r.2).sgn Q:=⟨_,rfl⟩
 obtain ⟨S2,hS2⟩:∃ S,S=r.1.sgn Q:=⟨_,rfl⟩
 have HS:=Lib.hid hS
 have HS2:=Lib.hid hS2
 obtain ⟨wb,hwb⟩:∃ wb,wb=(w.alloc (tbox n A l c B m d n' A' l' c' B' m' d')).alloc rtObj:=⟨_,rfl⟩
 clear o1 o2 b2 hz hq hz' hq' K3 hp hQ hR hS hS2
 go_enter Tryz.func71,Tryz.ntmps71
 go_wp2_with fail
 rw [← hwb] at T K4 HP Hb x0 x1 x2 x3 x4 x5 hl3 ⊢
 clear hwb
 obtain ⟨g1,hg1⟩:∃ g,g=w.heap.size:=⟨_,rfl⟩
 obtain ⟨g3,hg3⟩:∃ g,g=w.heap.size+1:=⟨_,rfl⟩
 rw [← hg1] at T x0 x1 x2 x3 x4 x5
 rw [← hg3] at K4 hl3
 rw [← hg3,← hg1]
 have l1:g1<wb.heap.size:=by omega
 have Hg:=Lib.hid (show w.heap.size≤g3 by omega)
 have ng1:g1≠g3:=by omega
 have ng2:g3≠g1:=by omega
 clear hg1 hg3
 refine (isexact_any T.out.r.hz T.out.r.hq T.out.hz T.out.hq ha hb).mono ?_
 rintro e w1 ⟨rfl,hb1⟩
 replace HP:=Lib.hid (HP.out.below hI hb1);replace T:=Lib.hid (T.out.move hb1);replace K4:=Lib.hid (K4.out.below hb1 K4.out.lt);replace Hb:=Lib.hid (Hb.out.trans ((hb1).mono Hb.out.size))
 clear hb1
 clear x0 x1 x2 x3 x4 x5
 by_cases c0:fcmp r.1 r.2=0
 ·have b1:(fcmp r.1 r.2 == 0)=true:=by rw [c0];rfl
  have ER:=Lib.hid (show R=r by rw [HR.out,if_pos c0])
  clear c0
  have x0:=T.out.r.c0;have x1:=T.out.r.c1;have x2:=T.out.r.c2;have x3:=T.out.c3;have x4:=T.out.c4;have x5:=T.out.c5
  have FX:=Lib.hid (root_fin (r:=r) Hb.out K4.out Hg.out T.out.r.hz T.out.r.hq T.out.hz T.out.hq);rw [← ER.out] at FX;have r0:=(K4.out.cell 0).trans rfl;have r1:=(K4.out.cell 1).trans rfl;have r2:=(K4.out.cell 2).trans rfl;have r3:=(K4.out.cell 3).trans rfl;have r4:=(K4.out.cell 4).trans rfl;have r5:=(K4.out.cell 5).trans rfl;have s0:=K4.out.frozen 0;have s1:=K4.out.frozen 1;have s2:=K4.out.frozen 2;have s3:=K4.out.frozen 3;have s4:=K4.out.frozen 4;have s5:=K4.out.frozen 5;clear K4 Hb;go_wp2_with fail;refine bodyPost_ret (v:=.agg #[.bool n,.slice A l c,.slice B m d,.bool n',.slice A' l' c',.slice B' m' d']) (by simp [results,Tryz.results71,go_sem,r0,r1,r2,r3,r4,r5]) rfl FX.out
 have b1:(fcmp r.1 r.2 == 0)=false:=by rw [beq_eq_false_iff_ne];exact c0
 have hR:=HR.out
 rw [if_neg c0] at hR
 replace HR:=Lib.hid hR
 clear c0 hR
 have x0:=T.out.r.c0;have x1:=T.out.r.c1;have x2:=T.out.r.c2;have x3:=T.out.c3;have x4:=T.out.c4;have x5:=T.out.c5
 go_wp2_with fail
 refine (mid_any _ _ _ _ _ _ _ _ _ _ _ _ _ _ _ _ _ _ _ T.out.r.hz T.out.r.hq T.out.hz T.out.hq ha.fz ha.fq ha.p hb.fz hb.fq hb.p).mono ?_
 rintro e w2 ⟨⟨n5,A5,l5,c5,B5,m5,d5,rfl,h5,k5⟩,hb2⟩
 obtain ⟨M,hM⟩:∃ M,M=r.1.mid r.2:=⟨_,rfl⟩
 have h5':IntN w2 n5 A5 l5 c5 M.z:=by rw [hM];exact h5
 have k5':NatN w2 B5 m5 d5 M.q:=by rw [hM];exact k5
 rw [← hM] at hm pm
 have HM:=Lib.hid hM
 have o5:=below_new w2 (rbox n5 A5 l5 c5 B5 m5 d5)
 have b5:Below w1.heap.size w1 (w2.alloc (rbox n5 A5 l5 c5 B5 m5 d5)):=hb2.trans (o5.mono hb2.size)
 have R5:=Lib.hid (RBox.make h5' k5')
 replace HP:=Lib.hid (HP.out.below hI b5);replace T:=Lib.hid (T.out.move b5);replace K4:=Lib.hid (K4.out.below b5 K4.out.lt);replace Hb:=Lib.hid (Hb.out.trans ((b5).mono Hb.out.size))
 have a0:=R5.out.c0
 have a1:=R5.out.c1
 have a2:=R5.out.c2
 clear hb2 h5 k5 h5' k5' hM o5 b5 x0 x1 x2 x3 x4 x5
 go_wp2_with fail
 refine (signat_any hI _ _ _ Q _ _ _ _ _ _ _ _ _ _ HP.out pm.fit (by omega) R5.out.hz R5.out.hq hm.at.u hm.at.v hm.at.pos pm.ok hm.at.fz hm.at.fq).mono ?_
 rintro e w4 ⟨he,hb4⟩
 have he2:e=.returned (.int .i64 S):=by rw [HS.out,← HM.out];exact he
 subst he2
 clear he a0 a1 a2
 replace HP:=Lib.hid (HP.out.below hI hb4);replace T:=Lib.hid (T.out.move hb4);replace K4:=Lib.hid (K4.out.below hb4 K4.out.lt);replace Hb:=Lib.hid (Hb.out.trans ((hb4).mono Hb.out.size))
 replace R5:=Lib.hid (R5.out.move hb4)
 clear hb4
 by_cases c2:S=0
 ·have b2:(S == 0)=true:=by rw [c2];rfl
  have ER:=Lib.hid (show R=(M.nf,M.nf) by rw [HR.out,← HS.out,if_pos c2,HM.out])
  clear c2
  have a0:=R5.out.c0
  have a1:=R5.out.c1
  have a2:=R5.out.c2
  go_wp2_with fail
  refine (exact_rt R5.out.hz R5.out.hq hm).mono ?_
  rintro e w6 ⟨⟨n6,A6,l6,c6,B6,m6,d6,n7,A7,l7,c7,B7,m7,d7,rfl,h6,k6,h7,k7⟩,hb6⟩
  replace HP:=Lib.hid (HP.out.below hI hb6);replace T:=Lib.hid (T.out.move hb6);replace K4:=Lib.hid (K4.out.below hb6 K4.out.lt);replace Hb:=Lib.hid (Hb.out.trans ((hb6).mono Hb.out.size))
  have H6:=Lib.hid (And.intro (And.intro h6 k6) (And.intro h7 k7))
  clear hb6 h6 k6 h7 k7 R5 a0 a1 a2 T HP
  have FX:=Lib.hid (root_fin (r:=(M.nf,M.nf)) Hb.out K4.out Hg.out H6.out.1.1 H6.out.1.2 H6.out.2.1 H6.out.2.2);rw [← ER.out] at FX;have r0:=(K4.out.cell 0).trans rfl;have r1:=(K4.out.cell 1).trans rfl;have r2:=(K4.out.cell 2).trans rfl;have r3:=(K4.out.cell 3).trans rfl;have r4:=(K4.out.cell 4).trans rfl;have r5:=(K4.out.cell 5).trans rfl;have s0:=K4.out.frozen 0;have s1:=K4.out.frozen 1;have s2:=K4.out.frozen 2;have s3:=K4.out.frozen 3;have s4:=K4.out.frozen 4;have s5:=K4.out.frozen 5;clear K4 Hb;go_wp2_with fail;refine bodyPost_ret (v:=.agg #[.bool n6,.slice A6 l6 c6,.slice B6 m6 d6,.bool n7,.slice A7 l7 c7,.slice B7 m7 d7]) (by simp [results,Tryz.results71,go_sem,r0,r1,r2,r3,r4,r5]) rfl FX.out
 have b2:(S == 0)=false:=by rw [beq_eq_false_iff_ne];exact c2
 have hR:=HR.out
 rw [← HS.out,if_neg c2,← HS2.out,← HM.out] at hR
 replace HR:=Lib.hid hR
 clear c2 hR
 have x0:=T.out.r.c0;have x1:=T.out.r.c1;have x2:=T.out.r.c2;have x3:=T.out.c3;have x4:=T.out.c4;have x5:=T.out.c5
 go_wp2_with fail
 refine (signat_any hI _ _ _ Q _ _ _ _ _ _ _ _ _ _ HP.out pa.fit (by omega) T.out.r.hz T.out.r.hq ha.at.u ha.at.v ha.at.pos pa.ok ha.at.fz ha.at.fq).mono ?_
 rintro e w6 ⟨he,hb6⟩
 have he2:e=.returned (.int .i64 S2):=by rw [HS2.out];exact he
 subst he2
 clear he
 clear x0 x1 x2 x3 x4 x5
 replace HP:=Lib.hid (HP.out.below hI hb6);replace T:=Lib.hid (T.out.move hb6);replace K4:=Lib.hid (K4.out.below hb6 K4.out.lt);replace Hb:=Lib.hid (Hb.out.trans ((hb6).mono Hb.out.size))
 replace R5:=Lib.hid (R5.out.move hb6)
 clear hb6
 by_cases c3:S=S2
 ·have b3:(S == S2)=true:=by rw [c3];simp
  have ER:=Lib.hid (show R=(M,r.2) by rw [HR.out,if_pos c3])
  clear c3
  have x0:=T.out.r.c0;have x1:=T.out.r.c1;have x2:=T.out.r.c2;have x3:=T.out.c3;have x4:=T.out.c4;have x5:=T.out.c5
  have a0:=R5.out.c0
  have a1:=R5.out.c1
  have a2:=R5.out.c2
  have FX:=Lib.hid (root_fin (r:=(M,r.2)) Hb.out K4.out Hg.out R5.out.hz R5.out.hq T.out.hz T.out.hq);rw [← ER.out] at FX;have r0:=(K4.out.cell 0).trans rfl;have r1:=(K4.out.cell 1).trans rfl;have r2:=(K4.out.cell 2).trans rfl;have r3:=(K4.out.cell 3).trans rfl;have r4:=(K4.out.cell 4).trans rfl;have r5:=(K4.out.cell 5).trans rfl;have s0:=K4.out.frozen 0;have s1:=K4.out.frozen 1;have s2:=K4.out.frozen 2;have s3:=K4.out.frozen 3;have s4:=K4.out.frozen 4;have s5:=K4.out.frozen 5;clear K4 Hb;go_wp2_with fail;refine bodyPost_ret (v:=.agg #[.bool n5,.slice A5 l5 c5,.slice B5 m5 d5,.bool n',.slice A' l' c',.slice B' m' d']) (by simp [results,Tryz.results71,go_sem,r0,r1,r2,r3,r4,r5]) rfl FX.out
 ·have b3:(S == S2)=false:=by rw [beq_eq_false_iff_ne];exact c3
  have ER:=Lib.hid (show R=(r.1,M) by rw [HR.out,if_neg c3])
  clear c3
  have x0:=T.out.r.c0;have x1:=T.out.r.c1;have x2:=T.out.r.c2;have x3:=T.out.c3;have x4:=T.out.c4;have x5:=T.out.c5
  have a0:=R5.out.c0
  have a1:=R5.out.c1
  have a2:=R5.out.c2
  have FX:=Lib.hid (root_fin (r:=(r.1,M)) Hb.out K4.out Hg.out T.out.r.hz T.out.r.hq R5.out.hz R5.out.hq);rw [← ER.out] at FX;have r0:=(K4.out.cell 0).trans rfl;have r1:=(K4.out.cell 1).trans rfl;have r2:=(K4.out.cell 2).trans rfl;have r3:=(K4.out.cell 3).trans rfl;have r4:=(K4.out.cell 4).trans rfl;have r5:=(K4.out.cell 5).trans rfl;have s0:=K4.out.frozen 0;have s1:=K4.out.frozen 1;have s2:=K4.out.frozen 2;have s3:=K4.out.frozen 3;have s4:=K4.out.frozen 4;have s5:=K4.out.frozen 5;clear K4 Hb;go_wp2_with fail;refine bodyPost_ret (v:=.agg #[.bool n,.slice A l c,.slice B m d,.bool n5,.slice A5 l5 c5,.slice B5 m5 d5]) (by simp [results,Tryz.results71,go_sem,r0,r1,r2,r3,r4,r5]) rfl FX.out
end Go.Proofs.YtbfddopopajgaaaGreat
namespace Go.Proofs.YtbfddopopajgaaaGreat
open Go Go.RowKit
def AwE (f g:List Int) (x:Pt) (r:Fq×Fq) (e:Ending) (w:World):Prop:=∃ i s,i≤NN+1∧ASt f x i s∧r.1.v≤s.1.v∧s.2.v≤r.2.v∧Free g s∧RootE s e w
theorem rbk_poly {w w':World} {g:Nat} {n:Bool} {A:Option Addr} {l c:Nat} {B:Option Addr} {m d:Nat} {n':Bool} {A':Option Addr} {l' c':Nat} {B':Option Addr} {m' d':Nat} {s:Fq×Fq} {Ap:Option Addr} {lp cp:Nat} {p:List Int} (hp:PolyN w Ap lp cp p) (hl:2≤p.length) (hk:RBk w g n A l c B m d n' A' l' c' B' m' d' s) (hf:FrS g g w w'):PolyN w' Ap lp cp p:=by
 refine PolyG.frs (g:=g) (g':=g) ⟨hp,?_⟩ hf hk.ndb hk.ndb
 have hlen:=hp.length
 rcases hp.elems with h0 | ⟨b,o,hA,hlt,he⟩
 ·exact .inl h0
 ·refine .inr ⟨b,o,hA,?_⟩
  have hne:b≠g:=fun e=>by
   subst e
   obtain ⟨_,_,_,_,f1,_,_⟩:=he 0 (by omega)
   obtain ⟨_,_,_,_,f2,_,_⟩:=he 1 (by omega)
   rw [hk.k.cell] at f1 f2
   match o,f1,f2 with
   | 0,_,f2=>simp at f2
   | 1,f1,_=>simp at f1
   | 2,f1,_=>simp at f1
   | 3,_,f2=>simp at f2
   | 4,f1,_=>simp at f1
   | 5,f1,_=>simp at f1
   | o+6,f1,_=>simp at f1
  exact ⟨hne,hne⟩
theorem g6_p9 {g:List Int} (h:G6 g):P9 g:=⟨by have:=h.plen;omega,fun j=>Nat.le_trans (h.b j) (by have:=bbk_le (show 1≤10 by decide);rw [Nat.pow_one] at this;exact this)⟩
set_option maxRecDepth 100000 in
set_option maxHeartbeats 16000000 in
theorem away_any {w:World} {Ap:Option Addr} {lp cp:Nat} {f:List Int} {Ag:Option Addr} {lg cg:Nat} {g:List Int} {x:Pt} {i0:Nat} {r:Fq×Fq} {n:Bool} {A:Option Addr} {l c:Nat} {B:Option Addr} {m d:Nat} {n':Bool} {A':Option Addr} {l' c':Nat} {B':Option Addr} {m' d':Nat}
 (hp:PolyN w Ap lp cp (qpart f)) (s6:S6 f) (h0:plen f≠0) (hg:PolyN w Ag lg cg g) (g6:G6 g) (gx:sgp g x≠0) (hz:IntN w n A l c r.1.z) (hq:NatN w B m d r.1.q) (hz':IntN w n' A' l' c' r.2.z) (hq':NatN w B' m' d' r.2.q) (hi0:i0≤NN+1) (ha:ASt f x i0 r) :
 Calls Tryz.prog 89 #[.slice Ap lp cp,.agg #[.bool n,.slice A l c,.slice B m d,.bool n',.slice A' l' c',.slice B' m' d'],.slice Ag lg cg] w fun e w'=>AwE f g x r e w'∧Below w.heap.size w w':=by
 have o1:=below_new w (tbox n A l c B m d n' A' l' c' B' m' d')
 have o2:=below_new (w.alloc (tbox n A l c B m d n' A' l' c' B' m' d')) rtObj
 have b2:Below w.heap.size w ((w.alloc (tbox n A l c B m d n' A' l' c' B' m' d')).alloc rtObj):=o1.alloc (by simp) _
 have KB:=Lib.hid ((RBk.make (s:=r) hz hq hz' hq').move o2)
 have K3:Blk ((w.alloc (tbox n A l c B m d n' A' l' c' B' m' d')).alloc rtObj) (w.alloc (tbox n A l c B m d n' A' l' c' B' m' d')).heap.size 44 rz6:=Blk.new _ _ _
 simp only [World.size_alloc] at K3
 have K4:=Lib.hid K3
 have HG:=Lib.hid (hg.below ikN b2)
 have HP:=Lib.hid hp
 have Hbw:=Lib.hid b2
 have hlg:lg≤6:=by have:=hg.length;have:=g6.len;omega
 have hlp:lp≤6:=by have:=hp.length;have:=s6.qlen;omega
 have g9:=g6_p9 g6
 have f9:=s6.p9
 have g0:plen g≠0:=fun e=>gx (sgp_zero e x)
 have hqf:=q_facts f9.q h0
 have hqg:=q_facts g9.q g0
 have hsq:=SqF.of9 g9 g0
 have hOl:(qpart g).length≤6:=by rw [← hqg.t,ptrim_length];have:=hqg.l;have:=g6.plen;omega
 have hOt:=hqg.t
 have hgr:∀ y,sgp g y=0↔sgp (qpart g) y=0:=fun y=>(hqg.root y).symm
 have hOx:sgp (qpart g) x≠0:=fun e=>gx ((hgr x).2 e)
 have c1:=g9.part
 have c2:=g9.pder
 obtain ⟨k1,k2,k3,k4⟩:=chain_all c1 c2
 have hall:∀ p∈pchain 12 (qpart g) (pder (qpart g)),Elm p:=k2
 obtain ⟨O,hO⟩:∃ O,O=qpart g:=⟨_,rfl⟩
 rw [← hO] at hsq hOl hOt hgr hOx c1 c2 k1 k2 k3 k4 hall
 have HOe:=Lib.hid hO
 have HSQ:=Lib.hid hsq
 have HGR:=Lib.hid hgr
 have HOX:=Lib.hid hOx
 have HAL:=Lib.hid hall
 have HST0:=Lib.hid ha
 have H0:=Lib.hid h0
 have hQ:∀ x,FqB x→PoOK x.z x.q (qpart f):=fun x hx=>f9.part.at (by have:=s6.qlen;omega) hx.z hx.q
 obtain ⟨Q,hQe⟩:∃ Q,Q=qpart f:=⟨_,rfl⟩
 rw [← hQe] at HP hQ
 have HQe:=Lib.hid hQe
 have HQ:=Lib.hid hQ
 obtain ⟨g1,hg1⟩:∃ g,g=w.heap.size:=⟨_,rfl⟩
 obtain ⟨g3,hg3⟩:∃ g,g=w.heap.size+1:=⟨_,rfl⟩
 obtain ⟨wb,hwb⟩:∃ wb,wb=(w.alloc (tbox n A l c B m d n' A' l' c' B' m' d')).alloc rtObj:=⟨_,rfl⟩
 clear o1 o2 b2 hz hq hz' hq' K3 hp hg hqf hqg hsq hO hgr hOx hall ha h0 hQ hQe gx
 go_enter Tryz.func89,Tryz.ntmps89
 go_wp2_with fail
 rw [← hwb,← hg1] at KB
 rw [← hwb,← hg3] at K4
 rw [← hwb] at HG Hbw ⊢
 rw [← hg3,← hg1]
 have Hg1:=Lib.hid (show w.heap.size≤g1 by omega)
 have Hg3:=Lib.hid (show w.heap.size≤g3 by omega)
 have ng1:g1≠g3:=by omega
 clear hwb hg1 hg3
 refine (part_q ikN _ _ _ g _ HG.out g9.cp.fit.smp (fun _=>g9.q) (by omega)).mono ?_
 rintro e w1 ⟨A7,l7,c7,rfl,h7,hb1⟩
 rw [← HOe.out] at h7
 have hl7:l7≤6:=by have:=h7.length;omega
 have HO:=Lib.hid h7
 replace KB:=Lib.hid (KB.out.move hb1)
 replace K4:=Lib.hid (K4.out.below hb1 K4.out.lt)
 replace Hbw:=Lib.hid (Hbw.out.trans (hb1.mono Hbw.out.size))
 clear h7 hb1 HG
 go_wp2_with fail
 refine (sturmof_fr _ _ _ _ _ HO.out c1.fit.smp c2.fit.smp (by omega) 12 k1 (by omega)).mono ?_
 rintro e w2 ⟨⟨A8,l8,c8,rfl,h8⟩,hb2⟩
 have hl8:l8≤13:=by rw [← h8.1.length];exact k4
 have HC:=Lib.hid h8
 have HB8:=Lib.hid (show g1<w1.heap.size from KB.out.k.lt)
 obtain ⟨B8,hB8⟩:∃ B8,B8=w1.heap.size:=⟨_,rfl⟩
 rw [← hB8] at HC HB8
 obtain ⟨PS,hPS⟩:∃ PS,PS=pchain 12 O (pder O):=⟨_,rfl⟩
 rw [← hPS] at HC
 have HPS:=Lib.hid hPS
 have HPl:=Lib.hid (show PS.length=l8 by rw [hPS];exact h8.1.length)
 replace KB:=Lib.hid (KB.out.move hb2)
 replace HO:=Lib.hid (HO.out.below ikN hb2)
 replace K4:=Lib.hid (K4.out.below hb2 K4.out.lt)
 replace Hbw:=Lib.hid (Hbw.out.trans (hb2.mono Hbw.out.size))
 clear h8 hb2 hB8 hPS k1 k2 k3 k4
 go_wp2_with fail
 go_loopg [9] (NN+1-i0) (fun k s9 wr=>∃ i s n A l c B m d n' A' l' c' B' m' d',i+k=NN+1∧ASt f x i s∧r.1.v≤s.1.v∧s.2.v≤r.2.v∧RBk wr g1 n A l c B m d n' A' l' c' B' m' d' s∧PolyN wr A7 l7 c7 O∧ChF B8 wr A8 l8 c8 PS∧Blk wr g3 44 rz6∧Below w.heap.size w wr)
 case atStart=>exact ⟨i0,r,n,A,l,c,B,m,d,n',A',l',c',B',m',d',by omega,HST0.out,Rat.le_refl,Rat.le_refl,KB.out,HO.out,HC.out,K4.out,Hbw.out⟩
 case round =>
  clear KB HO HC K4 Hbw HST0
  obtain ⟨i,s,n,A,l,c,B,m,d,n',A',l',c',B',m',d',hik,hst,w1',w2',hkb,ho,hc,hk4,hbw⟩:=hrel
  have hi1:i≤NN+1:=by omega
  obtain ⟨fa,fb,fm⟩:=hst.fqb f9 H0.out hi1
  have KB:=Lib.hid hkb
  have HO:=Lib.hid ho
  have HC:=Lib.hid hc
  have K4:=Lib.hid hk4
  have Hbw:=Lib.hid hbw
  have HI:=Lib.hid (And.intro hik (And.intro hi1 True.intro))
  have HS:=Lib.hid (And.intro hst (And.intro w1' w2'))
  have fz:=fcmp_zero fa.p fb.p
  have hle:=hst.iso.le
  have FE:=Lib.hid (show fcmp s.1 s.2=0→Free g s from fun e=>Free.congr (hst.iso.free_pt (fz.1 e) HOX.out) HGR.out)
  have hlt:fcmp s.1 s.2≠0→s.1.v<s.2.v:=fun e=>by
   have:s.1.v≠s.2.v:=fun h=>e (fz.2 h)
   grind
  have FC:=Lib.hid (show fcmp s.1 s.2≠0→s.1.sgn O≠0→s.2.sgn O≠0→(((s.1.chg PS:Nat):Int)=((s.2.chg PS:Nat):Int)↔Free O s) from fun e e1 e2=>by
   rw [HPS.out]
   exact chg_free HSQ.out (by decide) fa.p fb.p (hlt e) (by rw [← sgn_pt fa.p];exact e1) (by rw [← sgn_pt fb.p];exact e2))
  have FM:=Lib.hid (show fcmp s.1 s.2≠0→¬ Free O s→i<NN from fun e hn=>hst.more f9 H0.out HSQ.out.t HSQ.out.len HSQ.out.b HOX.out (fun h=>e (fz.2 h)) hn)
  have F1:=Lib.hid (show s.1.sgn O=0→¬ Free O s from fun e hf=>by
   rw [sgn_pt fa.p] at e
   rcases hf _ e with h | h
   ·exact Pt.irr _ h
   ·have:s.2.v<s.1.v:=Pt.of_lt_of.1 h
    grind)
  have F2:=Lib.hid (show s.2.sgn O=0→¬ Free O s from fun e hf=>by
   rw [sgn_pt fb.p] at e
   rcases hf _ e with h | h
   ·have:s.2.v<s.1.v:=Pt.of_lt_of.1 h
    grind
   ·exact Pt.irr _ h)
  have po1:=c1.at (z:=s.1.z) (q:=s.1.q) (by omega) fa.z fa.q
  have po2:=c1.at (z:=s.2.z) (q:=s.2.q) (by omega) fb.z fb.q
  have el1:∀ p∈PS,PoOK s.1.z s.1.q p:=fun p hp=>(HAL.out p (by rw [← HPS.out];exact hp)).at fa.z fa.q
  have el2:∀ p∈PS,PoOK s.2.z s.2.q p:=fun p hp=>(HAL.out p (by rw [← HPS.out];exact hp)).at fb.z fb.q
  have E1:=Lib.hid el1
  have E2:=Lib.hid el2
  have L2:=Lib.hid (show ¬ Free O s→2≤O.length from fun hn=>by
   obtain ⟨y,hy⟩:=Classical.not_forall.1 hn
   obtain ⟨hy,_⟩:=Classical.not_imp.1 hy
   have e1:O.length=plen O:=by rw [← ptrim_length,HSQ.out.t]
   refine Classical.byContradiction fun hc=>?_
   have h2:=sgp_one (p:=O) (by have:=HSQ.out.q0;omega) y
   rw [hy] at h2
   exact sg_ne (plead_ne HSQ.out.q0) h2.symm)
  obtain ⟨t,ht⟩:∃ t,t=hlf Q s:=⟨_,rfl⟩
  have HN:=Lib.hid (show ASt f x (i+1) t∧Half s t by rw [ht,HQe.out];exact hst.half f9 H0.out)
  have HT:=Lib.hid ht
  clear hik hst w1' w2' hkb ho hc hk4 hbw fz hle hlt el1 el2 ht
  have x0:=KB.out.tb.r.c0;have x1:=KB.out.tb.r.c1;have x2:=KB.out.tb.r.c2;have x3:=KB.out.tb.c3;have x4:=KB.out.tb.c4;have x5:=KB.out.tb.c5
  go_wp2_with fail
  refine (isexact_any (r:=s) KB.out.hz KB.out.hq KB.out.hz' KB.out.hq' fa fb).mono ?_
  rintro e w3 ⟨rfl,hb3⟩
  clear x0 x1 x2 x3 x4 x5
  replace KB:=Lib.hid (KB.out.move hb3);replace HO:=Lib.hid (HO.out.below ikN hb3);replace HC:=Lib.hid (HC.out.below hb3);replace K4:=Lib.hid (K4.out.below hb3 K4.out.lt);replace Hbw:=Lib.hid (Hbw.out.trans ((hb3).mono Hbw.out.size))
  clear hb3
  by_cases c0:fcmp s.1 s.2=0
  ·have b1:(fcmp s.1 s.2 == 0)=true:=by rw [c0];rfl
   have FR:=Lib.hid (FE.out c0)
   clear c0
   have FX:=Lib.hid (root_fin (r:=s) Hbw.out K4.out Hg3.out KB.out.hz KB.out.hq KB.out.hz' KB.out.hq');have r0:=(K4.out.cell 0).trans rfl;have r1:=(K4.out.cell 1).trans rfl;have r2:=(K4.out.cell 2).trans rfl;have r3:=(K4.out.cell 3).trans rfl;have r4:=(K4.out.cell 4).trans rfl;have r5:=(K4.out.cell 5).trans rfl;have s0:=K4.out.frozen 0;have s1:=K4.out.frozen 1;have s2:=K4.out.frozen 2;have s3:=K4.out.frozen 3;have s4:=K4.out.frozen 4;have s5:=K4.out.frozen 5;have x0:=KB.out.tb.r.c0;have x1:=KB.out.tb.r.c1;have x2:=KB.out.tb.r.c2;have x3:=KB.out.tb.c3;have x4:=KB.out.tb.c4;have x5:=KB.out.tb.c5;clear K4 KB HO HC Hbw;go_wp2_with fail;refine bodyPost_ret (v:=.agg #[.bool n,.slice A l c,.slice B m d,.bool n',.slice A' l' c',.slice B' m' d']) (by simp [results,Tryz.results89,go_sem,r0,r1,r2,r3,r4,r5]) rfl ⟨⟨i,s,HI.out.2.1,HS.out.1,HS.out.2.1,HS.out.2.2,FR.out,FX.out.1⟩,FX.out.2⟩
  have b1:(fcmp s.1 s.2 == 0)=false:=by rw [beq_eq_false_iff_ne];exact c0
  replace FC:=Lib.hid (FC.out c0)
  replace FM:=Lib.hid (FM.out c0)
  clear c0 FE
  have x0:=KB.out.tb.r.c0;have x1:=KB.out.tb.r.c1;have x2:=KB.out.tb.r.c2;have x3:=KB.out.tb.c3;have x4:=KB.out.tb.c4;have x5:=KB.out.tb.c5
  obtain ⟨S1,hS1⟩:∃ S,S=s.1.sgn O:=⟨_,rfl⟩
  obtain ⟨S2,hS2⟩:∃ S,S=s.2.sgn O:=⟨_,rfl⟩
  have HS1:=Lib.hid hS1
  have HS2:=Lib.hid hS2
  clear hS1 hS2
  go_wp2_with fail
  refine (signat_any ikN _ _ _ O _ _ _ _ _ _ _ _ _ _ HO.out po1.fit (by omega) KB.out.hz KB.out.hq fa.at.u fa.at.v fa.at.pos po1.ok fa.at.fz fa.at.fq).mono ?_
  rintro e w4 ⟨he,hb4⟩
  have he2:e=.returned (.int .i64 S1):=by rw [HS1.out];exact he
  subst he2
  clear x0 x1 x2 x3 x4 x5
  replace KB:=Lib.hid (KB.out.move hb4);replace HO:=Lib.hid (HO.out.below ikN hb4);replace HC:=Lib.hid (HC.out.below hb4);replace K4:=Lib.hid (K4.out.below hb4 K4.out.lt);replace Hbw:=Lib.hid (Hbw.out.trans ((hb4).mono Hbw.out.size))
  clear he hb4
  by_cases e1:S1=0
  ·have NF:=Lib.hid (F1.out (by rw [← HS1.out];exact e1))
   have b2:(S1 != 0)=false:=by rw [e1];rfl
   clear e1 F1 F2 FC E1 E2
   have x0:=KB.out.tb.r.c0;have x1:=KB.out.tb.r.c1;have x2:=KB.out.tb.r.c2;have x3:=KB.out.tb.c3;have x4:=KB.out.tb.c4;have x5:=KB.out.tb.c5
   go_wp2_with fail
   refine wp_region_held_drew (S:=(fun w'=>w'.cell? ⟨g1,0,none⟩=some (.bool n)∧w'.cell? ⟨g1,1,none⟩=some (.slice A l c)∧w'.cell? ⟨g1,2,none⟩=some (.slice B m d)∧w'.cell? ⟨g1,3,none⟩=some (.bool n')∧w'.cell? ⟨g1,4,none⟩=some (.slice A' l' c')∧w'.cell? ⟨g1,5,none⟩=some (.slice B' m' d'))) (by kernel_rfl) (by (try dsimp only);go_keep) (fun hHeld=>?_);(refine tk (i:=0) (v:=?_) rfl rfl (Or.inl ⟨by rfl,?_⟩) ?_;rotate_left;(focus (intro w hSw;(try dsimp only at hSw);go_simp;(try with_reducible rfl)));(simp only [put_lit,List.set]));(refine tk (i:=1) (v:=?_) rfl rfl (Or.inl ⟨by rfl,?_⟩) ?_;rotate_left;(focus (intro w hSw;(try dsimp only at hSw);go_simp;(try with_reducible rfl)));(simp only [put_lit,List.set]));(refine take_at (i:=2) (oi:=_) (v:=undef) rfl rfl (by kernel_rfl) (by kernel_rfl) (by kernel_rfl) (fun _ _ _ h=>h) (Or.inr ⟨by rfl,rfl⟩) (by assumption) ?_;(simp only [put_lit,List.set]));(refine take_at (i:=3) (oi:=_) (v:=undef) rfl rfl (by kernel_rfl) (by kernel_rfl) (by kernel_rfl) (fun _ _ _ h=>h) (Or.inr ⟨by rfl,rfl⟩) (by assumption) ?_;(simp only [put_lit,List.set]));(refine take_at (i:=4) (oi:=_) (v:=undef) rfl rfl (by kernel_rfl) (by kernel_rfl) (by kernel_rfl) (fun _ _ _ h=>h) (Or.inr ⟨by rfl,rfl⟩) (by assumption) ?_;(simp only [put_lit,List.set]));(refine take_at (i:=5) (oi:=_) (v:=undef) rfl rfl (by kernel_rfl) (by kernel_rfl) (by kernel_rfl) (fun _ _ _ h=>h) (Or.inr ⟨by rfl,rfl⟩) (by assumption) ?_;(simp only [put_lit,List.set]));(refine take_at (i:=6) (oi:=_) (v:=undef) rfl rfl (by kernel_rfl) (by kernel_rfl) (by kernel_rfl) (fun _ _ _ h=>h) (Or.inr ⟨by rfl,rfl⟩) (by assumption) ?_;(simp only [put_lit,List.set]));(refine take_at (i:=7) (oi:=_) (v:=undef) rfl rfl (by kernel_rfl) (by kernel_rfl) (by kernel_rfl) (fun _ _ _ h=>h) (Or.inr ⟨by rfl,rfl⟩) (by assumption) ?_;(simp only [put_lit,List.set]));(refine take_at (i:=8) (oi:=_) (v:=undef) rfl rfl (by kernel_rfl) (by kernel_rfl) (by kernel_rfl) (fun _ _ _ h=>h) (Or.inr ⟨by rfl,rfl⟩) (by assumption) ?_;(simp only [put_lit,List.set]));(refine take_at (i:=9) (oi:=_) (v:=undef) rfl rfl (by kernel_rfl) (by kernel_rfl) (by kernel_rfl) (fun _ _ _ h=>h) (Or.inr ⟨by rfl,rfl⟩) (by assumption) ?_;(simp only [put_lit,List.set]));(refine take_at (i:=10) (oi:=_) (v:=undef) rfl rfl (by kernel_rfl) (by kernel_rfl) (by kernel_rfl) (fun _ _ _ h=>h) (Or.inr ⟨by rfl,rfl⟩) (by assumption) ?_;(simp only [put_lit,List.set]));(refine tk (i:=11) (v:=?_) rfl rfl (Or.inl ⟨by rfl,?_⟩) ?_;rotate_left;(focus (intro w hSw;(try dsimp only at hSw);go_simp;(try with_reducible rfl)));(simp only [put_lit,List.set]));refine wpAnyH_done (by kernel_rfl) ?_ _;clear hHeld;clear x0 x1 x2 x3 x4 x5
   have jd:=(Below.refl w4.heap.size w4).drew
   replace KB:=Lib.hid (KB.out.move jd);replace HO:=Lib.hid (HO.out.below ikN jd);replace HC:=Lib.hid (HC.out.below jd);replace K4:=Lib.hid (K4.out.below jd K4.out.lt);replace Hbw:=Lib.hid (Hbw.out.trans ((jd).mono Hbw.out.size))
   clear jd
   have HM:=Lib.hid (FM.out NF.out);have HL2:=Lib.hid (L2.out NF.out);have x0:=KB.out.tb.r.c0;have x1:=KB.out.tb.r.c1;have x2:=KB.out.tb.r.c2;have x3:=KB.out.tb.c3;have x4:=KB.out.tb.c4;have x5:=KB.out.tb.c5;go_wp2_with fail;refine (half_any ikN (r:=s) (HP.out.below ikN Hbw.out) (by omega) HQ.out KB.out.hz KB.out.hq KB.out.hz' KB.out.hq' fa fb fm).mono ?_;rintro e w9 ⟨he,hb9⟩;rw [← HT.out] at he;obtain ⟨n5,A5,l5,c5,B5,m5,d5,n6,A6,l6,c6,B6,m6,d6,rfl,z1,z2,z3,z4⟩:=he;clear x0 x1 x2 x3 x4 x5;replace KB:=Lib.hid (KB.out.move hb9);replace HO:=Lib.hid (HO.out.below ikN hb9);replace HC:=Lib.hid (HC.out.below hb9);replace K4:=Lib.hid (K4.out.below hb9 K4.out.lt);replace Hbw:=Lib.hid (Hbw.out.trans ((hb9).mono Hbw.out.size));clear hb9;have hf:=pu6_frs w9 g1 (.bool n5) (.slice A5 l5 c5) (.slice B5 m5 d5) (.bool n6) (.slice A6 l6 c6) (.slice B6 m6 d6);have R1:=Lib.hid (KB.out.put z1 z2 z3 z4);have R2:=Lib.hid (rbk_poly HO.out HL2.out KB.out hf);have R3:=Lib.hid (HC.out.off hf KB.out.ndb HB8.out);have R4:=Lib.hid (show Blk (pu6 w9 g1 (.bool n5) (.slice A5 l5 c5) (.slice B5 m5 d5) (.bool n6) (.slice A6 l6 c6) (.slice B6 m6 d6)) g3 44 rz6 from (hf.same g3 K4.out.lt (by omega) (by omega)).trans K4.out);have R5:=Lib.hid (hf.mono Hbw.out Hg1.out Hg1.out Hbw.out.size);have x0:=KB.out.tb.r.c0;have x1:=KB.out.tb.r.c1;have x2:=KB.out.tb.r.c2;have x3:=KB.out.tb.c3;have x4:=KB.out.tb.c4;have x5:=KB.out.tb.c5;have s0:=KB.out.k.frozen 0;have s1:=KB.out.k.frozen 1;have s2:=KB.out.k.frozen 2;have s3:=KB.out.k.frozen 3;have s4:=KB.out.k.frozen 4;have s5:=KB.out.k.frozen 5;clear hf z1 z2 z3 z4 KB HO HC K4 Hbw;go_wp2_with fail;go_roundg (gk-1);(case rel=>exact ⟨i+1,t,n5,A5,l5,c5,B5,m5,d5,n6,A6,l6,c6,B6,m6,d6,by have:=HI.out.1;have:=HM.out;omega,HN.out.1,Rat.le_trans HS.out.2.1 HN.out.2.lo,Rat.le_trans HN.out.2.hi HS.out.2.2,R1.out,R2.out,R3.out,R4.out,R5.out⟩);(case measure=>have:=HI.out.1;have:=HM.out;omega)
  have b2:(S1 != 0)=true:=by rw [bne_iff_ne];exact e1
  have N1:=Lib.hid (show s.1.sgn O≠0 by rw [← HS1.out];exact e1)
  clear e1
  have x0:=KB.out.tb.r.c0;have x1:=KB.out.tb.r.c1;have x2:=KB.out.tb.r.c2;have x3:=KB.out.tb.c3;have x4:=KB.out.tb.c4;have x5:=KB.out.tb.c5
  go_wp2_with fail
  refine (signat_any ikN _ _ _ O _ _ _ _ _ _ _ _ _ _ HO.out po2.fit (by omega) KB.out.hz' KB.out.hq' fb.at.u fb.at.v fb.at.pos po2.ok fb.at.fz fb.at.fq).mono ?_
  rintro e w5 ⟨he,hb5⟩
  have he2:e=.returned (.int .i64 S2):=by rw [HS2.out];exact he
  subst he2
  clear x0 x1 x2 x3 x4 x5
  replace KB:=Lib.hid (KB.out.move hb5);replace HO:=Lib.hid (HO.out.below ikN hb5);replace HC:=Lib.hid (HC.out.below hb5);replace K4:=Lib.hid (K4.out.below hb5 K4.out.lt);replace Hbw:=Lib.hid (Hbw.out.trans ((hb5).mono Hbw.out.size))
  clear he hb5
  by_cases e2:S2=0
  ·have NF:=Lib.hid (F2.out (by rw [← HS2.out];exact e2))
   have b3:(S2 != 0)=false:=by rw [e2];rfl
   clear e2 F1 F2 FC E1 E2
   have x0:=KB.out.tb.r.c0;have x1:=KB.out.tb.r.c1;have x2:=KB.out.tb.r.c2;have x3:=KB.out.tb.c3;have x4:=KB.out.tb.c4;have x5:=KB.out.tb.c5
   go_wp2_with fail
   refine wp_region_held_drew (S:=(fun w'=>w'.cell? ⟨g1,0,none⟩=some (.bool n)∧w'.cell? ⟨g1,1,none⟩=some (.slice A l c)∧w'.cell? ⟨g1,2,none⟩=some (.slice B m d)∧w'.cell? ⟨g1,3,none⟩=some (.bool n')∧w'.cell? ⟨g1,4,none⟩=some (.slice A' l' c')∧w'.cell? ⟨g1,5,none⟩=some (.slice B' m' d'))) (by kernel_rfl) (by (try dsimp only);go_keep) (fun hHeld=>?_);(refine tk (i:=0) (v:=?_) rfl rfl (Or.inl ⟨by rfl,?_⟩) ?_;rotate_left;(focus (intro w hSw;(try dsimp only at hSw);go_simp;(try with_reducible rfl)));(simp only [put_lit,List.set]));(refine tk (i:=1) (v:=?_) rfl rfl (Or.inl ⟨by rfl,?_⟩) ?_;rotate_left;(focus (intro w hSw;(try dsimp only at hSw);go_simp;(try with_reducible rfl)));(simp only [put_lit,List.set]));(refine take_at (i:=2) (oi:=_) (v:=undef) rfl rfl (by kernel_rfl) (by kernel_rfl) (by kernel_rfl) (fun _ _ _ h=>h) (Or.inr ⟨by rfl,rfl⟩) (by assumption) ?_;(simp only [put_lit,List.set]));(refine take_at (i:=3) (oi:=_) (v:=undef) rfl rfl (by kernel_rfl) (by kernel_rfl) (by kernel_rfl) (fun _ _ _ h=>h) (Or.inr ⟨by rfl,rfl⟩) (by assumption) ?_;(simp only [put_lit,List.set]));(refine take_at (i:=4) (oi:=_) (v:=undef) rfl rfl (by kernel_rfl) (by kernel_rfl) (by kernel_rfl) (fun _ _ _ h=>h) (Or.inr ⟨by rfl,rfl⟩) (by assumption) ?_;(simp only [put_lit,List.set]));(refine take_at (i:=5) (oi:=_) (v:=undef) rfl rfl (by kernel_rfl) (by kernel_rfl) (by kernel_rfl) (fun _ _ _ h=>h) (Or.inr ⟨by rfl,rfl⟩) (by assumption) ?_;(simp only [put_lit,List.set]));(refine take_at (i:=6) (oi:=_) (v:=undef) rfl rfl (by kernel_rfl) (by kernel_rfl) (by kernel_rfl) (fun _ _ _ h=>h) (Or.inr ⟨by rfl,rfl⟩) (by assumption) ?_;(simp only [put_lit,List.set]));(refine take_at (i:=7) (oi:=_) (v:=undef) rfl rfl (by kernel_rfl) (by kernel_rfl) (by kernel_rfl) (fun _ _ _ h=>h) (Or.inr ⟨by rfl,rfl⟩) (by assumption) ?_;(simp only [put_lit,List.set]));(refine take_at (i:=8) (oi:=_) (v:=undef) rfl rfl (by kernel_rfl) (by kernel_rfl) (by kernel_rfl) (fun _ _ _ h=>h) (Or.inr ⟨by rfl,rfl⟩) (by assumption) ?_;(simp only [put_lit,List.set]));(refine take_at (i:=9) (oi:=_) (v:=undef) rfl rfl (by kernel_rfl) (by kernel_rfl) (by kernel_rfl) (fun _ _ _ h=>h) (Or.inr ⟨by rfl,rfl⟩) (by assumption) ?_;(simp only [put_lit,List.set]));(refine take_at (i:=10) (oi:=_) (v:=undef) rfl rfl (by kernel_rfl) (by kernel_rfl) (by kernel_rfl) (fun _ _ _ h=>h) (Or.inr ⟨by rfl,rfl⟩) (by assumption) ?_;(simp only [put_lit,List.set]));(refine tk (i:=11) (v:=?_) rfl rfl (Or.inl ⟨by rfl,?_⟩) ?_;rotate_left;(focus (intro w hSw;(try dsimp only at hSw);go_simp;(try with_reducible rfl)));(simp only [put_lit,List.set]));refine wpAnyH_done (by kernel_rfl) ?_ _;clear hHeld;clear x0 x1 x2 x3 x4 x5
   have jd:=(Below.refl w5.heap.size w5).drew
   replace KB:=Lib.hid (KB.out.move jd);replace HO:=Lib.hid (HO.out.below ikN jd);replace HC:=Lib.hid (HC.out.below jd);replace K4:=Lib.hid (K4.out.below jd K4.out.lt);replace Hbw:=Lib.hid (Hbw.out.trans ((jd).mono Hbw.out.size))
   clear jd
   have HM:=Lib.hid (FM.out NF.out);have HL2:=Lib.hid (L2.out NF.out);have x0:=KB.out.tb.r.c0;have x1:=KB.out.tb.r.c1;have x2:=KB.out.tb.r.c2;have x3:=KB.out.tb.c3;have x4:=KB.out.tb.c4;have x5:=KB.out.tb.c5;go_wp2_with fail;refine (half_any ikN (r:=s) (HP.out.below ikN Hbw.out) (by omega) HQ.out KB.out.hz KB.out.hq KB.out.hz' KB.out.hq' fa fb fm).mono ?_;rintro e w9 ⟨he,hb9⟩;rw [← HT.out] at he;obtain ⟨n5,A5,l5,c5,B5,m5,d5,n6,A6,l6,c6,B6,m6,d6,rfl,z1,z2,z3,z4⟩:=he;clear x0 x1 x2 x3 x4 x5;replace KB:=Lib.hid (KB.out.move hb9);replace HO:=Lib.hid (HO.out.below ikN hb9);replace HC:=Lib.hid (HC.out.below hb9);replace K4:=Lib.hid (K4.out.below hb9 K4.out.lt);replace Hbw:=Lib.hid (Hbw.out.trans ((hb9).mono Hbw.out.size));clear hb9;have hf:=pu6_frs w9 g1 (.bool n5) (.slice A5 l5 c5) (.slice B5 m5 d5) (.bool n6) (.slice A6 l6 c6) (.slice B6 m6 d6);have R1:=Lib.hid (KB.out.put z1 z2 z3 z4);have R2:=Lib.hid (rbk_poly HO.out HL2.out KB.out hf);have R3:=Lib.hid (HC.out.off hf KB.out.ndb HB8.out);have R4:=Lib.hid (show Blk (pu6 w9 g1 (.bool n5) (.slice A5 l5 c5) (.slice B5 m5 d5) (.bool n6) (.slice A6 l6 c6) (.slice B6 m6 d6)) g3 44 rz6 from (hf.same g3 K4.out.lt (by omega) (by omega)).trans K4.out);have R5:=Lib.hid (hf.mono Hbw.out Hg1.out Hg1.out Hbw.out.size);have x0:=KB.out.tb.r.c0;have x1:=KB.out.tb.r.c1;have x2:=KB.out.tb.r.c2;have x3:=KB.out.tb.c3;have x4:=KB.out.tb.c4;have x5:=KB.out.tb.c5;have s0:=KB.out.k.frozen 0;have s1:=KB.out.k.frozen 1;have s2:=KB.out.k.frozen 2;have s3:=KB.out.k.frozen 3;have s4:=KB.out.k.frozen 4;have s5:=KB.out.k.frozen 5;clear hf z1 z2 z3 z4 KB HO HC K4 Hbw;go_wp2_with fail;go_roundg (gk-1);(case rel=>exact ⟨i+1,t,n5,A5,l5,c5,B5,m5,d5,n6,A6,l6,c6,B6,m6,d6,by have:=HI.out.1;have:=HM.out;omega,HN.out.1,Rat.le_trans HS.out.2.1 HN.out.2.lo,Rat.le_trans HN.out.2.hi HS.out.2.2,R1.out,R2.out,R3.out,R4.out,R5.out⟩);(case measure=>have:=HI.out.1;have:=HM.out;omega)
  have b3:(S2 != 0)=true:=by rw [bne_iff_ne];exact e2
  replace FC:=Lib.hid (FC.out N1.out (by rw [← HS2.out];exact e2))
  clear e2 F1 F2 N1
  obtain ⟨wk,hwk⟩:∃ wk,wk=w5:=⟨_,rfl⟩
  rw [← hwk] at KB HO HC K4 Hbw ⊢
  clear hwk
  obtain ⟨C1,hC1⟩:∃ C,C=s.1.chg PS:=⟨_,rfl⟩
  obtain ⟨C2,hC2⟩:∃ C,C=s.2.chg PS:=⟨_,rfl⟩
  have FC':=FC.out
  rw [← hC1,← hC2] at FC'
  replace FC:=Lib.hid FC'
  have HC1:=Lib.hid (show (vst (PS.map (sat s.1.z s.1.q)) l8).1=C1 by rw [hC1,← HPl.out];rfl)
  have HC2:=Lib.hid (show (vst (PS.map (sat s.2.z s.2.q)) l8).1=C2 by rw [hC2,← HPl.out];rfl)
  clear hC1 hC2 FC'
  have l1:=KB.out.k.lt
  have x0:=KB.out.tb.r.c0;have x1:=KB.out.tb.r.c1;have x2:=KB.out.tb.r.c2;have x3:=KB.out.tb.c3;have x4:=KB.out.tb.c4;have x5:=KB.out.tb.c5
  go_wp2_with fail
  refine wp_region_held_drew (S:=(fun w'=>w'.cell? ⟨g1,0,none⟩=some (.bool n)∧w'.cell? ⟨g1,1,none⟩=some (.slice A l c)∧w'.cell? ⟨g1,2,none⟩=some (.slice B m d)∧w'.cell? ⟨g1,3,none⟩=some (.bool n')∧w'.cell? ⟨g1,4,none⟩=some (.slice A' l' c')∧w'.cell? ⟨g1,5,none⟩=some (.slice B' m' d'))) (by kernel_rfl) (by (try dsimp only);go_keep) (fun hHeld=>?_)
  (refine tk (i:=0) (v:=?_) rfl rfl (Or.inl ⟨by rfl,?_⟩) ?_;rotate_left;(focus (intro w hSw;(try dsimp only at hSw);go_simp;(try with_reducible rfl)));(simp only [put_lit,List.set]))
  (refine tk (i:=1) (v:=?_) rfl rfl (Or.inl ⟨by rfl,?_⟩) ?_;rotate_left;(focus (intro w hSw;(try dsimp only at hSw);go_simp;(try with_reducible rfl)));(simp only [put_lit,List.set]))
  (refine tk (i:=2) (v:=?_) rfl rfl (Or.inl ⟨by rfl,?_⟩) ?_;rotate_left;(focus (intro w hSw;(try dsimp only at hSw);go_simp;(try with_reducible rfl)));(simp only [put_lit,List.set]))
  (refine tk (i:=3) (v:=?_) rfl rfl (Or.inl ⟨by rfl,?_⟩) ?_;rotate_left;(focus (intro w hSw;(try dsimp only at hSw);go_simp;(try with_reducible rfl)));(simp only [put_lit,List.set]))
  (refine tk (i:=4) (v:=?_) rfl rfl (Or.inl ⟨by rfl,?_⟩) ?_;rotate_left;(focus (intro w hSw;(try dsimp only at hSw);go_simp;(try with_reducible rfl)));(simp only [put_lit,List.set]))
  (refine tk (i:=6) (v:=?_) rfl rfl (Or.inl ⟨by rfl,?_⟩) ?_;rotate_left;(focus (intro w hSw;(try dsimp only at hSw);go_simp;(try with_reducible rfl)));(simp only [put_lit,List.set]))
  (refine tk (i:=7) (v:=?_) rfl rfl (Or.inl ⟨by rfl,?_⟩) ?_;rotate_left;(focus (intro w hSw;(try dsimp only at hSw);go_simp;(try with_reducible rfl)));(simp only [put_lit,List.set]))
  (refine tk (i:=8) (v:=?_) rfl rfl (Or.inl ⟨by rfl,?_⟩) ?_;rotate_left;(focus (intro w hSw;(try dsimp only at hSw);go_simp;(try with_reducible rfl)));(simp only [put_lit,List.set]))
  (refine wpAnyH_ready (rs:=[5]) (by kernel_rfl) (by simp) ?_;refine AllReadyH.cons rfl (fun K hK=>?_) AllReadyH.nil;go_simp)
  refine (vars_any _ _ _ PS _ _ _ _ _ _ _ s.1.q s.1.z _ (HC.out.plst.below Bel.go) (KB.out.hz.below Bel.go) (KB.out.hq.below Bel.go) fa.at E1.out (by omega)).mono ?_
  rintro e w6 ⟨he,hb6⟩
  rw [HC1.out] at he
  subst he
  have G6':=Lib.hid ((Below.trans Bel.go (hb6.mono (by simp<;>omega))):Below wk.heap.size wk w6)
  obtain ⟨hcx,hfx⟩:=bcellS hb6;refine hK.out _ _ ?_ (fun _=>?_);(focus (((try dsimp only);repeat' apply And.intro)<;>(rw [hcx _ (by go_simp)];go_simp)));clear hHeld hK K hcx hfx;rename_i hHeld;clear hb6
  (refine wpAnyH_ready (rs:=[9]) (by kernel_rfl) (by simp) ?_;refine AllReadyH.cons rfl (fun K hK=>?_) AllReadyH.nil;go_simp)
  refine (vars_any _ _ _ PS _ _ _ _ _ _ _ s.2.q s.2.z _ ((HC.out.plst.below G6'.out).below Bel.go) ((KB.out.hz'.below G6'.out).below Bel.go) ((KB.out.hq'.below G6'.out).below Bel.go) fb.at E2.out (by omega)).mono ?_
  rintro e w7 ⟨he,hb7⟩
  rw [HC2.out] at he
  subst he
  have G7:=Lib.hid (G6'.out.trans (((Below.trans Bel.go (hb7.mono (by simp<;>omega))):Below w6.heap.size w6 w7).mono G6'.out.size))
  obtain ⟨hcx,hfx⟩:=bcellS hb7;refine hK.out _ _ ?_ (fun _=>?_);(focus (((try dsimp only);repeat' apply And.intro)<;>(rw [hcx _ (by go_simp)];go_simp)));clear hHeld hK K hcx hfx;rename_i hHeld;clear hb7
  by_cases e3:((C1:Nat):Int)=((C2:Nat):Int)
  ·have b4:(((C1:Nat):Int) == ((C2:Nat):Int))=true:=by rw [e3];simp
   have FR:=Lib.hid (Free.congr (FC.out.1 e3) HGR.out)
   clear e3
   (refine tk (i:=10) (v:=?_) rfl rfl (Or.inl ⟨by rfl,?_⟩) ?_;rotate_left;(focus (intro w hSw;(try dsimp only at hSw);go_simp;(try with_reducible rfl)));(simp only [put_lit,List.set]))
   (refine tk (i:=11) (v:=?_) rfl rfl (Or.inl ⟨by rfl,?_⟩) ?_;rotate_left;(focus (intro w hSw;(try dsimp only at hSw);go_simp;(try with_reducible rfl)));(simp only [put_lit,List.set]))
   refine wpAnyH_done (by kernel_rfl) ?_ _
   replace KB:=Lib.hid (KB.out.move G7.out);replace HO:=Lib.hid (HO.out.below ikN G7.out);replace HC:=Lib.hid (HC.out.below G7.out);replace K4:=Lib.hid (K4.out.below G7.out K4.out.lt);replace Hbw:=Lib.hid (Hbw.out.trans ((G7.out).mono Hbw.out.size))
   clear hHeld G6' G7
   clear x0 x1 x2 x3 x4 x5
   have FX:=Lib.hid (root_fin (r:=s) Hbw.out K4.out Hg3.out KB.out.hz KB.out.hq KB.out.hz' KB.out.hq');have r0:=(K4.out.cell 0).trans rfl;have r1:=(K4.out.cell 1).trans rfl;have r2:=(K4.out.cell 2).trans rfl;have r3:=(K4.out.cell 3).trans rfl;have r4:=(K4.out.cell 4).trans rfl;have r5:=(K4.out.cell 5).trans rfl;have s0:=K4.out.frozen 0;have s1:=K4.out.frozen 1;have s2:=K4.out.frozen 2;have s3:=K4.out.frozen 3;have s4:=K4.out.frozen 4;have s5:=K4.out.frozen 5;have x0:=KB.out.tb.r.c0;have x1:=KB.out.tb.r.c1;have x2:=KB.out.tb.r.c2;have x3:=KB.out.tb.c3;have x4:=KB.out.tb.c4;have x5:=KB.out.tb.c5;clear K4 KB HO HC Hbw;go_wp2_with fail;refine bodyPost_ret (v:=.agg #[.bool n,.slice A l c,.slice B m d,.bool n',.slice A' l' c',.slice B' m' d']) (by simp [results,Tryz.results89,go_sem,r0,r1,r2,r3,r4,r5]) rfl ⟨⟨i,s,HI.out.2.1,HS.out.1,HS.out.2.1,HS.out.2.2,FR.out,FX.out.1⟩,FX.out.2⟩
  ·have b4:(((C1:Nat):Int) == ((C2:Nat):Int))=false:=by rw [beq_eq_false_iff_ne];exact e3
   have NF:=Lib.hid (fun h=>e3 (FC.out.2 h))
   clear e3
   (refine tk (i:=10) (v:=?_) rfl rfl (Or.inl ⟨by rfl,?_⟩) ?_;rotate_left;(focus (intro w hSw;(try dsimp only at hSw);go_simp;(try with_reducible rfl)));(simp only [put_lit,List.set]))
   (refine tk (i:=11) (v:=?_) rfl rfl (Or.inl ⟨by rfl,?_⟩) ?_;rotate_left;(focus (intro w hSw;(try dsimp only at hSw);go_simp;(try with_reducible rfl)));(simp only [put_lit,List.set]))
   refine wpAnyH_done (by kernel_rfl) ?_ _
   replace KB:=Lib.hid (KB.out.move G7.out);replace HO:=Lib.hid (HO.out.below ikN G7.out);replace HC:=Lib.hid (HC.out.below G7.out);replace K4:=Lib.hid (K4.out.below G7.out K4.out.lt);replace Hbw:=Lib.hid (Hbw.out.trans ((G7.out).mono Hbw.out.size))
   clear hHeld G6' G7
   clear x0 x1 x2 x3 x4 x5
   have HM:=Lib.hid (FM.out NF.out);have HL2:=Lib.hid (L2.out NF.out);have x0:=KB.out.tb.r.c0;have x1:=KB.out.tb.r.c1;have x2:=KB.out.tb.r.c2;have x3:=KB.out.tb.c3;have x4:=KB.out.tb.c4;have x5:=KB.out.tb.c5;go_wp2_with fail;refine (half_any ikN (r:=s) (HP.out.below ikN Hbw.out) (by omega) HQ.out KB.out.hz KB.out.hq KB.out.hz' KB.out.hq' fa fb fm).mono ?_;rintro e w9 ⟨he,hb9⟩;rw [← HT.out] at he;obtain ⟨n5,A5,l5,c5,B5,m5,d5,n6,A6,l6,c6,B6,m6,d6,rfl,z1,z2,z3,z4⟩:=he;clear x0 x1 x2 x3 x4 x5;replace KB:=Lib.hid (KB.out.move hb9);replace HO:=Lib.hid (HO.out.below ikN hb9);replace HC:=Lib.hid (HC.out.below hb9);replace K4:=Lib.hid (K4.out.below hb9 K4.out.lt);replace Hbw:=Lib.hid (Hbw.out.trans ((hb9).mono Hbw.out.size));clear hb9;have hf:=pu6_frs w9 g1 (.bool n5) (.slice A5 l5 c5) (.slice B5 m5 d5) (.bool n6) (.slice A6 l6 c6) (.slice B6 m6 d6);have R1:=Lib.hid (KB.out.put z1 z2 z3 z4);have R2:=Lib.hid (rbk_poly HO.out HL2.out KB.out hf);have R3:=Lib.hid (HC.out.off hf KB.out.ndb HB8.out);have R4:=Lib.hid (show Blk (pu6 w9 g1 (.bool n5) (.slice A5 l5 c5) (.slice B5 m5 d5) (.bool n6) (.slice A6 l6 c6) (.slice B6 m6 d6)) g3 44 rz6 from (hf.same g3 K4.out.lt (by omega) (by omega)).trans K4.out);have R5:=Lib.hid (hf.mono Hbw.out Hg1.out Hg1.out Hbw.out.size);have x0:=KB.out.tb.r.c0;have x1:=KB.out.tb.r.c1;have x2:=KB.out.tb.r.c2;have x3:=KB.out.tb.c3;have x4:=KB.out.tb.c4;have x5:=KB.out.tb.c5;have s0:=KB.out.k.frozen 0;have s1:=KB.out.k.frozen 1;have s2:=KB.out.k.frozen 2;have s3:=KB.out.k.frozen 3;have s4:=KB.out.k.frozen 4;have s5:=KB.out.k.frozen 5;clear hf z1 z2 z3 z4 KB HO HC K4 Hbw;go_wp2_with fail;go_roundg (gk-1);(case rel=>exact ⟨i+1,t,n5,A5,l5,c5,B5,m5,d5,n6,A6,l6,c6,B6,m6,d6,by have:=HI.out.1;have:=HM.out;omega,HN.out.1,Rat.le_trans HS.out.2.1 HN.out.2.lo,Rat.le_trans HN.out.2.hi HS.out.2.2,R1.out,R2.out,R3.out,R4.out,R5.out⟩);(case measure=>have:=HI.out.1;have:=HM.out;omega)
end Go.Proofs.YtbfddopopajgaaaGreat
namespace Go.Proofs.YtbfddopopajgaaaGreat
open Go Go.RowKit
set_option maxRecDepth 100000 in
set_option maxHeartbeats 8000000 in
theorem signr_any {w:World} {Af:Option Addr} {lf cf:Nat} {f:List Int} {Ag:Option Addr} {lg cg:Nat} {g:List Int} {x:Pt} {i0:Nat} {r:Fq×Fq} {n:Bool} {A:Option Addr} {l c:Nat} {B:Option Addr} {m d:Nat} {n':Bool} {A':Option Addr} {l' c':Nat} {B':Option Addr} {m' d':Nat}
 (hf:PolyN w Af lf cf f) (s6:S6 f) (h0:plen f≠0) (hg:PolyN w Ag lg cg g) (g6:G6 g) (hz:IntN w n A l c r.1.z) (hq:NatN w B m d r.1.q) (hz':IntN w n' A' l' c' r.2.z) (hq':NatN w B' m' d' r.2.q) (hi0:i0≤NN+1) (ha:ASt f x i0 r) :
 Calls Tryz.prog 50 #[.slice Af lf cf,.agg #[.bool n,.slice A l c,.slice B m d,.bool n',.slice A' l' c',.slice B' m' d'],.slice Ag lg cg] w fun e w'=>e=.returned (.tuple #[.int .i64 (sgp g x),.int .i64 0])∧Below w.heap.size w w':=by
 have hlf:lf≤6:=by have:=hf.length;have:=s6.len;omega
 have hlg:lg≤6:=by have:=hg.length;have:=g6.len;omega
 have hlen:=s6.len
 have o1:=below_new w (tbox n A l c B m d n' A' l' c' B' m' d')
 have T:=Lib.hid (TBox.make hz hq hz' hq')
 have HP:=Lib.hid (hf.below ikN o1)
 have HG:=Lib.hid (hg.below ikN o1)
 have Hb:=Lib.hid o1
 have h9:=s6.p9
 obtain ⟨fa,fb,_⟩:=ha.fqb h9 h0 hi0
 have HV:=Lib.hid (show vld 2 f r.1 r.2=true from (vld_iff h9 h0 fa.p fb.p).2 ⟨x,ha.iso⟩)
 have HA:=Lib.hid ha
 have H0:=Lib.hid h0
 obtain ⟨S,hS⟩:∃ S,S=sgp g x:=⟨_,rfl⟩
 rw [← hS]
 have HS:=Lib.hid hS
 clear hf hg hz hq hz' hq' o1 ha h0 hS
 go_enter Tryz.func50,Tryz.ntmps50
 have x0:=T.out.r.c0;have x1:=T.out.r.c1;have x2:=T.out.r.c2;have x3:=T.out.c3;have x4:=T.out.c4;have x5:=T.out.c5
 go_wp2_with fail
 refine (valid_any ikN _ _ _ f r.1 r.2 _ _ _ _ _ _ _ _ _ _ _ _ _ _ _ HP.out (by omega) h9 T.out.r.hz T.out.r.hq T.out.hz T.out.hq fa fb).mono ?_
 rintro e w1 ⟨he,hb1⟩
 rw [HV.out] at he
 subst he
 clear x0 x1 x2 x3 x4 x5
 replace HP:=Lib.hid (HP.out.below ikN hb1);replace HG:=Lib.hid (HG.out.below ikN hb1);replace T:=Lib.hid (T.out.move hb1);replace Hb:=Lib.hid (Hb.out.trans ((hb1).mono Hb.out.size))
 clear hb1
 go_wp2_with fail
 refine (part_q ikN _ _ _ f _ HP.out h9.cp.fit.smp (fun _=>h9.q) (by omega)).mono ?_
 rintro e w2 ⟨A2,l2,c2,rfl,h2,hb2⟩
 have HQ:=Lib.hid h2
 replace HP:=Lib.hid (HP.out.below ikN hb2);replace HG:=Lib.hid (HG.out.below ikN hb2);replace T:=Lib.hid (T.out.move hb2);replace Hb:=Lib.hid (Hb.out.trans ((hb2).mono Hb.out.size))
 clear h2 hb2
 have x0:=T.out.r.c0;have x1:=T.out.r.c1;have x2:=T.out.r.c2;have x3:=T.out.c3;have x4:=T.out.c4;have x5:=T.out.c5
 go_wp2_with fail
 refine (zeroat_any (r:=r) HQ.out s6 H0.out HG.out g6 T.out.r.hz T.out.r.hq T.out.hz T.out.hq fa fb HA.out.iso).mono ?_
 rintro e w3 ⟨he,hb3⟩
 rw [← HS.out] at he
 subst he
 clear x0 x1 x2 x3 x4 x5
 replace HQ:=Lib.hid (HQ.out.below ikN hb3)
 replace HP:=Lib.hid (HP.out.below ikN hb3);replace HG:=Lib.hid (HG.out.below ikN hb3);replace T:=Lib.hid (T.out.move hb3);replace Hb:=Lib.hid (Hb.out.trans ((hb3).mono Hb.out.size))
 clear hb3
 by_cases c0:S=0
 ·rw [decide_eq_true c0]
  have HC:=Lib.hid c0
  clear c0 T HP HG HQ
  go_wp2_with fail
  refine bodyPost_ret (v:=.tuple #[.int .i64 0,.int .i64 0]) (by simp [results,Tryz.results50,go_sem]) rfl ⟨by rw [HC.out],Hb.out⟩
 ·rw [decide_eq_false c0]
  have gx:sgp g x≠0:=by rw [← HS.out];exact c0
  clear c0
  have x0:=T.out.r.c0;have x1:=T.out.r.c1;have x2:=T.out.r.c2;have x3:=T.out.c3;have x4:=T.out.c4;have x5:=T.out.c5
  go_wp2_with fail
  refine (away_any (r:=r) HQ.out s6 H0.out HG.out g6 gx T.out.r.hz T.out.r.hq T.out.hz T.out.hq hi0 HA.out).mono ?_
  rintro e w4 ⟨⟨i,s,hi,hs,_,_,hfr,n4,A4,l4,c4,B4,m4,d4,n5,A5,l5,c5,B5,m5,d5,rfl,z1,z2,z3,z4⟩,hb4⟩
  clear x0 x1 x2 x3 x4 x5
  have hfd:∀ w:World,(Instr.field 44 (.agg #[.bool n4,.slice A4 l4 c4,.slice B4 m4 d4,.bool n5,.slice A5 l5 c5,.slice B5 m5 d5]) 0).run Tryz.prog w=.ok (.agg #[.bool n4,.slice A4 l4 c4,.slice B4 m4 d4]) w:=fun _=>by kernel_rfl
  obtain ⟨fc,_,_⟩:=hs.fqb h9 H0.out hi
  have hsg:s.1.sgn g=S:=by rw [sgn_pt fc.p,hs.iso.free_sg hfr,HS.out]
  have pg:=(g6_cp g6).at (z:=s.1.z) (q:=s.1.q) (by have:=g6.len;omega) fc.z fc.q
  have Z1:=Lib.hid z1
  have Z2:=Lib.hid z2
  replace HP:=Lib.hid (HP.out.below ikN hb4);replace HG:=Lib.hid (HG.out.below ikN hb4);replace T:=Lib.hid (T.out.move hb4);replace Hb:=Lib.hid (Hb.out.trans ((hb4).mono Hb.out.size))
  clear z1 z2 z3 z4 hb4 hs hfr hi HQ gx
  have HSG:=Lib.hid hsg
  clear hsg
  go_wp2_with fail
  refine (signat_any ikN _ _ _ g _ _ _ _ _ _ _ _ _ _ HG.out pg.fit (by omega) Z1.out Z2.out fc.at.u fc.at.v fc.at.pos pg.ok fc.at.fz fc.at.fq).mono ?_
  rintro e w5 ⟨he,hb5⟩
  have he2:e=.returned (.int .i64 S):=by rw [← HSG.out];exact he
  subst he2
  replace Hb:=Lib.hid (Hb.out.trans (hb5.mono Hb.out.size))
  clear he hb5 T HP HG Z1 Z2 HSG hfd
  go_wp2_with fail
  refine bodyPost_ret (v:=.tuple #[.int .i64 S,.int .i64 0]) (by simp [results,Tryz.results50,go_sem]) rfl ⟨rfl,Hb.out⟩
end Go.Proofs.YtbfddopopajgaaaGreat
namespace Go.Proofs.YtbfddopopajgaaaGreat
open Go Go.RowKit
structure I8At (w:World) (A:Option Addr) (len cap:Nat) (p:List Int):Prop where
 length:p.length=len
 range:∀ c∈p,-128≤c∧c≤127
 cells:len=0∨∃ b off,A=some ⟨b,off,none⟩∧b<w.heap.size∧∀ j,j<len→w.cell? ⟨b,off+j,none⟩=some (.int .i8 (p.getD j 0))
theorem I8At.below {w w':World} {A:Option Addr} {len cap:Nat} {p:List Int} (h:I8At w A len cap p) (hb:Below w.heap.size w w'):I8At w' A len cap p:=by
 refine ⟨h.length,h.range,?_⟩
 rcases h.cells with h0 | ⟨b,off,hA,hlt,hc⟩
 ·exact .inl h0
 ·exact .inr ⟨b,off,hA,Nat.lt_of_lt_of_le hlt hb.size,fun j hj=>(hb.cell (p:=⟨b,off+j,none⟩) hlt).trans (hc j hj)⟩
end Go.Proofs.YtbfddopopajgaaaGreat
namespace Go.Proofs.YtbfddopopajgaaaGreat
open Go Go.RowKit
theorem codes_len (f:List Int):(codes f).length=(proots f).length:=by unfold codes tabl;rw [List.length_map]
theorem w2_s6:S6 w2:=⟨by decide,by decide,fun j=>by
 match j with
 | 0=>decide
 | 1=>decide
 | 2=>decide
 | j+3=>simp [w2]⟩
theorem w2_all:nall w2=2:=by decide +kernel
theorem w2_codes:(codes w2).length=2:=by
 have h:=(cmpl_roots w2_s6.p9).1
 rw [w2_all] at h
 rw [codes_len]
 omega
theorem w2_atT (w:World):I64At (w.alloc (.cells #[.int .i64 (-2),.int .i64 0,.int .i64 1] 2)) (some ⟨w.heap.size,0,none⟩) 3 3 w2:=by
 refine ⟨rfl,by omega,.inr ⟨w.heap.size,0,rfl,by simp,fun j hj=>?_⟩⟩
 match j,hj with
 | 0,_=>simp [w2]
 | 1,_=>simp [w2]
 | 2,_=>simp [w2]
set_option maxHeartbeats 1000000 in
theorem awake19_any (w:World):Calls Tryz.prog 15 #[] w fun e w'=>e=.returned (.bool true)∧Below w.heap.size w w':=by
 have jb:=below_new w (.cells #[.int .i64 (-2),.int .i64 0,.int .i64 1] 2)
 have hat:=w2_atT w
 go_enter Tryz.func15,Tryz.ntmps15
 go_wp2_with fail
 refine (pof_any _ _ _ _ _ (by first | exact hat | simpa using hat) (by intro c hc;simp [w2] at hc;rcases hc with rfl | rfl | rfl<;>(unfold I64;omega)) (by omega)).mono ?_
 rintro e w1 ⟨A1,l1,c1,rfl,h1,hb1⟩
 rw [show ptrim w2=w2 by decide] at h1
 have HP:=Lib.hid h1
 have Hb:=Lib.hid (jb.trans (hb1.mono jb.size))
 clear hb1 h1 hat jb
 go_wp2_with fail
 refine (codes_any HP.out w2_s6).mono ?_
 rintro e w2' ⟨⟨A2,l2,c2,rfl,h2⟩,hb2⟩
 have hl:l2=2:=by rw [← h2.length];exact w2_codes
 subst hl
 replace Hb:=Lib.hid (Hb.out.trans (hb2.mono Hb.out.size))
 clear hb2 h2 HP
 go_wp2
 go_ret
 exact ⟨by first | rfl | simp,Hb.out⟩
theorem I64At.get {w:World} {A:Option Addr} {l c:Nat} {p:List Int} (h:I64At w A l c p) {k:Nat} (hk:k<l):∃ b o,A=some ⟨b,o,none⟩∧b<w.heap.size∧w.cell? ⟨b,o+k,none⟩=some (.int .i64 (p.getD k 0)):=by
 rcases h.cells with h0 | ⟨b,o,e,hb,hv⟩
 ·omega
 ·exact ⟨b,o,e,hb,hv k hk⟩
end Go.Proofs.YtbfddopopajgaaaGreat
namespace Go.Proofs.YtbfddopopajgaaaGreat
open Go Go.RowKit
set_option maxRecDepth 100000 in
set_option maxHeartbeats 8000000 in
theorem tsgs_any {w:World} {Af:Option Addr} {lf cf:Nat} {f:List Int} {Ag:Option Addr} {lg cg:Nat} {g:List Int} (hf:PolyN w Af lf cf f) (s6:S6 f) (hg:PolyN w Ag lg cg g) (g6:G6 g) :
 Calls Tryz.prog 17 #[.slice Af lf cf,.slice Ag lg cg] w fun e w'=>(∃ A l c,e=.returned (.slice A l c)∧I64At w' A l c (tsgs f g))∧Below w.heap.size w w':=by
 obtain ⟨i0,hi,hz0,hz1,hz2⟩:=info_parts info_in1
 have hlf:lf≤6:=by have:=hf.length;have:=s6.len;omega
 have h9:=s6.p9
 have hq9:=s6.q9
 have hql:=s6.ql
 have hqlen:=s6.qlen
 have HP:=Lib.hid hf
 have S6H:=Lib.hid s6
 have HG:=Lib.hid hg
 clear hg
 clear hf s6
 go_enter Tryz.func17,Tryz.ntmps17
 go_wp2_with fail
 refine (part_q ikN _ _ _ f _ HP.out h9.cp.fit.smp (fun _=>h9.q) (by omega)).mono ?_
 rintro e w1 ⟨A1,l1,c1,rfl,h1,hb1⟩
 obtain ⟨Q,hQ⟩:∃ Q,Q=qpart f:=⟨_,rfl⟩
 rw [← hQ] at h1 hq9 hql hqlen
 have hl1:l1≤6:=by have:=h1.length;omega
 have HQ:=Lib.hid h1
 have HQe:=Lib.hid hQ
 replace HP:=Lib.hid (HP.out.below ikN hb1)
 replace HG:=Lib.hid (HG.out.below ikN hb1)
 have Hb:=Lib.hid hb1
 clear h1 hb1 hQ
 go_wp2_with fail
 refine (roots_any ikN _ _ _ f _ HP.out h9.cp.fit.smp (fun _=>h9.q) (fun h=>SqF.of9 h9 h) (by omega)).mono ?_
 rintro e w3 ⟨⟨A3,l3,c3,rfl,h3⟩,hb3⟩
 have hn9:=proots_le9 h9
 obtain ⟨RS,hRS⟩:∃ R,R=proots f:=⟨_,rfl⟩
 have hfq:=proots_fqb h9
 rw [← hRS] at h3 hn9 hfq
 have HRS:=Lib.hid hRS
 have Hrl:=Lib.hid h3.length
 have HR:=Lib.hid h3
 have Hfq:=Lib.hid hfq
 replace HQ:=Lib.hid (HQ.out.below ikN hb3)
 replace HG:=Lib.hid (HG.out.below ikN hb3)
 replace Hb:=Lib.hid (Hb.out.trans (hb3.mono Hb.out.size))
 have hl3:l3≤9:=by rw [← h3.length];exact hn9
 clear hb3 h3 hRS hfq HP
 obtain ⟨F,hF⟩:∃ F:Fq×Fq→Int,F=fun r=>sgA Q r g:=⟨_,rfl⟩
 have HF:=Lib.hid hF
 clear hF
 obtain ⟨wo,hwo⟩:∃ wo,wo=w3:=⟨_,rfl⟩
 rw [← hwo] at HR HQ Hb HG ⊢
 clear hwo
 go_wp2_with fail
 go_loopw [6,14] (fun s s15 wr=>∃ k:Nat,k≤l3∧s15=.int .i64 (k:Int)∧(∃ us,OwnE InC 1 3 wo.heap.size wr s us∧Lay (InR wr) ((RS.take k).map F) us)∧Below wo.heap.size wo wr) (fun _ s15 _=>l3-(intOf s15).toNat)
 case atStart=>exact ⟨0,Nat.zero_le _,rfl,⟨[],OwnE.nil _ _ _ _ _,rfl⟩,Bel.go⟩
 case round =>
  obtain ⟨k,hk,rfl,⟨us,ho,hly⟩,hbw⟩:=hrel
  by_cases hlt:k<l3
  ·have ka:(k:Int)<(l3:Int):=by omega
   have i1:IntKind.i64.wrap ((k:Int)+1)=(k:Int)+1:=IntWalk.i64_in _ (by omega)
   obtain ⟨b,o,rfl,hb0,hv⟩:∃ b o,A3=some ⟨b,o,none⟩∧b<wr.heap.size∧Vals wr b o RS:=by
    rcases (HR.out.below hbw).elems with ⟨h,_⟩ | h
    ·omega
    ·exact h
   have hkl:k<RS.length:=by rw [Hrl.out];exact hlt
   obtain ⟨n,A,l,c,B,m,d,n',A',l',c',B',m',d',e0,e1,e2,e3,e4,e5,z1,z2,z3,z4⟩:=hv.getv hkl
   obtain ⟨fa,fb⟩:=Hfq.out _ (getD_mem hkl r00)
   obtain ⟨r,hr⟩:∃ r,r=RS.getD k r00:=⟨_,rfl⟩
   rw [← hr] at z1 z2 z3 z4 fa fb
   have HRe:=Lib.hid hr
   have HKL:=Lib.hid hkl
   have jb:=below_new wr (tbox n A l c B m d n' A' l' c' B' m' d')
   have T:=Lib.hid (TBox.make z1 z2 z3 z4)
   have O:=Lib.hid (And.intro (ho.below jb) (show Lay (InR (wr.alloc (tbox n A l c B m d n' A' l' c' B' m' d'))) ((RS.take k).map F) us from hly.mono fun _ _ hx=>hx))
   have hul:us.length=k*1:=by rw [hly.len fun x vs hx=>(show vs.length=1 by rw [show vs=_ from hx];rfl),List.length_map,List.length_take];omega
   have Hbw:=Lib.hid (hbw.trans (jb.mono hbw.size))
   have HQr:=Lib.hid ((HQ.out.below ikN hbw).below ikN jb)
   have HGr:=Lib.hid ((HG.out.below ikN hbw).below ikN jb)
   have x0:=T.out.r.c0;have x1:=T.out.r.c1;have x2:=T.out.r.c2;have x3:=T.out.c3;have x4:=T.out.c4;have x5:=T.out.c5
   have Hlt:=Lib.hid hlt
   clear z1 z2 z3 z4 hv hr ho hly hbw jb hlt hkl hk
   go_wp2_with fail
   refine (tsign_any ikN ikN (r:=r) HQr.out (by omega) hq9 hql HGr.out g6 T.out.r.hz T.out.r.hq T.out.hz T.out.hq fa fb).mono ?_
   rintro e w5 ⟨he,hb5⟩
   obtain ⟨V5,hV5⟩:∃ V,V=sgA Q r g:=⟨_,rfl⟩
   have he2:e=.returned (.int .i64 V5):=by rw [hV5];exact he
   subst he2
   clear he
   have jb:=below_new w5 (.cells #[.int .i64 V5] 3)
   have b6:=hb5.trans (jb.mono hb5.size)
   have HX6:=Lib.hid (show ∀ W,InR W (F r) [.int .i64 V5] from fun W=>by rw [HF.out,hV5];rfl)
   have HC6:=Lib.hid (show ∀ (j:Nat) (v:Value),[Value.int .i64 V5][j]?=some v→(w5.alloc (.cells #[.int .i64 V5] 3)).cell? ((⟨w5.heap.size,0,none⟩:Addr).add j)=some v from one_cell _)
   have O5:=Lib.hid (And.intro (O.out.1.below b6) (show Lay (InR (w5.alloc (.cells #[.int .i64 V5] 3))) ((RS.take k).map F) us from O.out.2.mono fun _ _ hx=>hx))
   have Hb6:=Lib.hid (Hbw.out.trans (b6.mono Hbw.out.size))
   have Hsz:=Lib.hid (show wo.heap.size≤(w5.alloc (.cells #[.int .i64 V5] 3)).heap.size from Hb6.out.size)
   clear hb5 jb b6 O Hbw HQr T x0 x1 x2 x3 x4 x5 HGr hV5
   go_wp2_with (at_builtin;refine wpList_app_own rfl (.tmp 18) (.tmp 23) 28 3 rfl 1 i0 (.int .i64 0) Tryz.underlying28 hi hz0 hz1 (by rw [hz2];omega) rfl InC inC_nd inz (by decide) wo.heap.size _ us [.int .i64 V5] rfl O5.out.1 Hsz.out ⟨w5.heap.size,0,none⟩ 1 1 rfl rfl HC6.out (fun u hu=>⟨V5,by simpa using hu⟩) (.inl (by decide)) (by rw [hul];simp;omega) 24 rfl ?_)
   intro v2 w9 hgr
   have hb9:=hgr.below Hsz.out
   have hn:InR w9 (F r) [.int .i64 V5]:=HX6.out _
   have hly9:Lay (InR w9) ((RS.take (k+1)).map F) (us ++ [.int .i64 V5]):=by
    have h1:Lay (InR w9) ((RS.take k).map F) us:=O5.out.2.mono fun p ys hp=>hp
    exact lay_take (d:=r00) h1 HKL.out (by rw [← HRe.out];exact hn)
   have O9:=Lib.hid (And.intro hgr.1 hly9)
   have Hb9:=Lib.hid (Hb6.out.trans hb9)
   clear hgr hb9 hly9 hn O5 Hb6 Hsz HC6
   go_wp2_with fail
   go_roundw
   case rel=>exact ⟨k+1,Hlt.out,by go_num,⟨_,O9.out.1,O9.out.2⟩,Hb9.out⟩
   case measure=>have:=Hlt.out;simp [intOf];omega
  ·have hk2:k=l3:=by omega
   have t1:¬ (k:Int)<(l3:Int):=by omega
   obtain ⟨A9,l9,c9,e9,h9'⟩:=ho.sle (by decide) hly fun x vs hx=>by rw [show vs=_ from hx];rfl
   subst e9
   have FX:=Lib.hid (show I64At wr A9 l9 c9 (tsgs f g) by
    rw [hk2,← Hrl.out,List.take_length,HF.out] at h9'
    unfold tsgs
    rw [← HRS.out,← HQe.out]
    exact h9'.ints)
   clear ho hly h9' hk2 hlt
   go_wp2_with fail
   go_ret
   exact ⟨⟨_,_,_,rfl,FX.out⟩,Hb.out.trans (hbw.mono Hb.out.size)⟩
end Go.Proofs.YtbfddopopajgaaaGreat
namespace Go.Proofs.YtbfddopopajgaaaGreat
open Go.RowKit
section
variable {f:List Int} {xs:List Pt} {rs:List (Fq×Fq)} {i k:Nat}
end
end Go.Proofs.YtbfddopopajgaaaGreat
namespace Go.Proofs.YtbfddopopajgaaaGreat
open Go Go.RowKit
theorem short_s6 {w:World} {A:Option Addr} {l c:Nat} {p:List Int} (h:I16At w A l c p) {n:Nat} (hn:n≤6):S6 (ptrim (p.take n)):=by
 have h1:=plen_le (p.take n)
 rw [List.length_take] at h1
 refine ⟨by rw [ptrim_length];omega,ptrim_ptrim _,fun j=>?_⟩
 rw [ptrim_getD]
 rcases Nat.lt_or_ge j (p.take n).length with hj | hj
 ·have hmem:(p.take n).getD j 0∈p:=by
   rw [List.getD_eq_getElem?_getD,List.getElem?_eq_getElem hj]
   exact List.mem_of_mem_take (List.getElem_mem _)
  have:=h.range _ hmem
  omega
 ·rw [getD_out _ hj];omega
section
variable {f g:List Int} {xs:List Pt} {k:Nat} {x:Pt}
theorem S6.sg (h:S6 f) (h0:plen f≠0) (hg:G6 g) {r:Fq×Fq} (ha:FqB r.1) (hb:FqB r.2) (hi:IsoV f x r.1 r.2):sgA (qpart f) r g=sgp g x:=by
 have hq:=q_facts h.p9.q h0
 exact sgA_eq h.q9 h.ql hg hq.q0 (fun y=>(hq.root y).symm) ha hb hi
theorem S6.nz (hk:k<(proots f).length):plen f≠0:=fun e=>by rw [proots_nil e] at hk;cases hk
theorem S6.sgk (h:S6 f) (hx:RF f xs (proots f)) (hk:k<(proots f).length) (hg:G6 g):sgA (qpart f) ((proots f).getD k r00) g=sgp g (xs.getD k default):=by
 have hk':k<xs.length:=by rw [← hx.len];exact hk
 obtain ⟨ha,hb⟩:=hx.fa hk'
 exact h.sg (S6.nz hk) hg ha hb (hx.iso k hk')
theorem map_getD {α β:Type} (F:α→β) (l:List α) (d:α) (e:β) {k:Nat} (hk:k<l.length):(l.map F).getD k e=F (l.getD k d):=by
 rw [List.getD_eq_getElem?_getD,List.getElem?_map,List.getD_eq_getElem?_getD,List.getElem?_eq_getElem hk]
 rfl
theorem tabl_get (f:List Int) (gs:List (List Int)) (hk:k<(proots f).length):(tabl f gs).getD k []=gs.map (sgA (qpart f) ((proots f).getD k r00)):=by
 unfold tabl
 exact map_getD _ _ _ _ hk
theorem tsgs_len (f g:List Int):(tsgs f g).length=(proots f).length:=by unfold tsgs;rw [List.length_map]
theorem tsgs_get (f g:List Int) (hk:k<(proots f).length):(tsgs f g).getD k 0=sgA (qpart f) ((proots f).getD k r00) g:=by
 unfold tsgs
 exact map_getD _ _ _ _ hk
end
end Go.Proofs.YtbfddopopajgaaaGreat
namespace Go.Proofs.YtbfddopopajgaaaGreat
open Go Go.RowKit
theorem S6.ders_g6 {f:List Int} (h:S6 f):∀ k,k<(ders f).length→G6 ((ders f).getD k []):=fun k hk=>by
 have hl:=h.len
 have hp:=h.pl
 unfold ders dkl at hk ⊢
 rw [List.length_map,List.length_range] at hk
 rw [List.getD_eq_getElem?_getD,List.getElem?_map,List.getElem?_range hk]
 exact dk_g6 hl h.b (by omega)
section
variable {f g h:List Int} {x y:Pt}
noncomputable def codeP (f:List Int) (x:Pt):List Int:=(ders f).map fun g=>sgp g x
theorem S6.codes_get (h:S6 f) {xs:List Pt} (hx:RF f xs (proots f)) {k:Nat} (hk:k<(proots f).length) (hg:∀ j,j<(ders f).length→G6 ((ders f).getD j [])):(codes f).getD k []=codeP f (xs.getD k default):=by
 unfold codes codeP
 rw [tabl_get f _ hk]
 refine List.map_congr_left fun g hgm=>?_
 obtain ⟨j,hj,e⟩:=List.getElem_of_mem hgm
 have:=hg j hj
 rw [List.getD_eq_getElem?_getD,List.getElem?_eq_getElem hj] at this
 have g6:G6 g:=by rw [← e];exact this
 exact h.sgk hx hk g6
end
end Go.Proofs.YtbfddopopajgaaaGreat
namespace Go.Proofs.YtbfddopopajgaaaGreat
open Go Go.RowKit
theorem root_ast {f g:List Int} (h:S6 f) (hg:G6 g) {k:Nat} (hk:k<(proots f).length):∃ x i,i≤NN+1∧ASt f x i ((proots f).getD k r00)∧(tsgs f g).getD k 0=sgp g x∧(codes f).getD k []=codeP f x:=by
 have h0:=S6.nz hk
 obtain ⟨xs,hx⟩:=rf_ex h.p9 h0
 have hk':k<xs.length:=by rw [← hx.len];exact hk
 obtain ⟨i,i1,i2⟩:=proots_ast hx hk'
 exact ⟨_,i,i1,i2,by rw [tsgs_get f g hk];exact h.sgk hx hk hg,h.codes_get hx hk h.ders_g6⟩
set_option maxRecDepth 100000 in
set_option maxHeartbeats 8000000 in
theorem law_signs (A0:Option Addr) (l0 c0:Nat) (p0:List Int) (A1:Option Addr) (l1 c1:Nat) (p1:List Int) (w:World) (h0:I16At w A0 l0 c0 p0) (h1:I16At w A1 l1 c1 p1) (hl0:l0≤9223372036854775807) (hl1:l1≤9223372036854775807) :
 Calls Tryz.prog 14 #[.slice A0 l0 c0,.slice A1 l1 c1] w fun e w'=>e=.returned (.bool true)∧Below w.heap.size w w':=by
 have sF:=short_s6 h0 (show 6≤6 by omega)
 have sG:=short_s6 h1 (show 6≤6 by omega)
 obtain ⟨F,hF⟩:∃ F,F=ptrim (p0.take 6):=⟨_,rfl⟩
 obtain ⟨G,hG⟩:∃ G,G=ptrim (p1.take 6):=⟨_,rfl⟩
 rw [← hF] at sF
 rw [← hG] at sG
 have HFe:=Lib.hid hF.symm
 have HGe:=Lib.hid hG.symm
 have SF:=Lib.hid sF
 have SG:=Lib.hid sG
 have Hi:=Lib.hid h0
 have Hj:=Lib.hid h1
 clear h0 h1 hF sF hG sG
 go_enter Tryz.func14,Tryz.ntmps14
 go_wp2_with fail
 refine (awake19_any _).mono ?_
 rintro e w1 ⟨rfl,hb1⟩
 replace Hi:=Lib.hid (Hi.out.below hb1)
 replace Hj:=Lib.hid (Hj.out.below hb1)
 have Hb:=Lib.hid hb1
 clear hb1
 go_wp2_with fail
 refine (short_any _ _ _ 6 _ _ Hi.out (by omega) hl0).mono ?_
 rintro e w2 ⟨Af,lf,cf,rfl,h2f,hb2⟩
 rw [HFe.out] at h2f
 have hlf:lf≤6:=by have:=h2f.length;have:=SF.out.len;omega
 have HP:=Lib.hid h2f
 replace Hj:=Lib.hid (Hj.out.below hb2)
 replace Hb:=Lib.hid (Hb.out.trans (hb2.mono Hb.out.size))
 clear hb2 h2f Hi
 go_wp2_with fail
 refine (short_any _ _ _ 6 _ _ Hj.out (by omega) hl1).mono ?_
 rintro e w3 ⟨Ag,lg,cg,rfl,h3g,hb3⟩
 rw [HGe.out] at h3g
 have HG:=Lib.hid h3g
 replace HP:=Lib.hid (HP.out.below ikN hb3)
 replace Hb:=Lib.hid (Hb.out.trans (hb3.mono Hb.out.size))
 clear hb3 h3g Hj
 go_wp2_with fail
 refine (tsgs_any HP.out SF.out HG.out SG.out.g6).mono ?_
 rintro e w4 ⟨⟨A4,l4,c4,rfl,h4⟩,hb4⟩
 have h4l:=h4.length
 rw [tsgs_len] at h4l
 obtain ⟨ts,hts⟩:∃ ts,ts=tsgs F G:=⟨_,rfl⟩
 rw [← hts] at h4
 have HTS:=Lib.hid hts
 have HT:=Lib.hid h4
 replace HP:=Lib.hid (HP.out.below ikN hb4)
 replace HG:=Lib.hid (HG.out.below ikN hb4)
 replace Hb:=Lib.hid (Hb.out.trans (hb4.mono Hb.out.size))
 clear h4 hb4 hts
 have h9:=SF.out.p9
 go_wp2_with fail
 refine (roots_any ikN _ _ _ F _ HP.out h9.cp.fit.smp (fun _=>h9.q) (fun h=>SqF.of9 h9 h) (by omega)).mono ?_
 rintro e w5 ⟨⟨A5,l5,c5,rfl,h5⟩,hb5⟩
 have hl5:l5=l4:=by rw [← h5.length,h4l]
 subst hl5
 have hn9:=proots_le9 h9
 have hl9:l5≤9:=by rw [← h4l];exact hn9
 have HR:=Lib.hid h5
 have Hrl:=Lib.hid h4l
 replace HP:=Lib.hid (HP.out.below ikN hb5)
 replace HG:=Lib.hid (HG.out.below ikN hb5)
 replace HT:=Lib.hid (HT.out.below hb5)
 replace Hb:=Lib.hid (Hb.out.trans (hb5.mono Hb.out.size))
 clear h5 hb5 h4l hn9
 obtain ⟨wo,hwo⟩:∃ wo,wo=w5:=⟨_,rfl⟩
 rw [← hwo] at HR HP HG HT Hb ⊢
 clear hwo
 go_wp2_with fail
 go_loopw [9] (fun s9 wr=>∃ i:Nat,i≤l5∧s9=.int .i64 (i:Int)∧Below wo.heap.size wo wr) (fun s9 _=>l5-(intOf s9).toNat)
 case atStart=>exact ⟨0,Nat.zero_le _,rfl,Bel.go⟩
 case round =>
  obtain ⟨i,hi,rfl,hbw⟩:=hrel
  have Hbw:=Lib.hid hbw
  by_cases hlt:i<l5
  case neg =>
   have t1:¬ (i:Int)<(l5:Int):=by omega
   clear hlt hbw
   go_wp2_with fail
   go_ret
   exact ⟨rfl,Hb.out.trans (Hbw.out.mono Hb.out.size)⟩
  have ka:(i:Int)<(l5:Int):=by omega
  have i1:IntKind.i64.wrap ((i:Int)+1)=(i:Int)+1:=IntWalk.i64_in _ (by omega)
  have hkl:i<(proots F).length:=by rw [Hrl.out];exact hlt
  obtain ⟨b,o,rfl,hb0,hv⟩:∃ b o,A5=some ⟨b,o,none⟩∧b<wr.heap.size∧Vals wr b o (proots F):=by
   rcases (HR.out.below hbw).elems with ⟨h,_⟩ | h
   ·omega
   ·exact h
  obtain ⟨n,A,l,c,B,m,d,n',A',l',c',B',m',d',e0,e1,e2,e3,e4,e5,z1,z2,z3,z4⟩:=hv.getv hkl
  obtain ⟨x,j,hj,hst,htx,_⟩:=root_ast SF.out SG.out.g6 hkl
  rw [← HTS.out] at htx
  have HPr:=Lib.hid (HP.out.below ikN hbw)
  have HGr:=Lib.hid (HG.out.below ikN hbw)
  have HTr:=Lib.hid (HT.out.below hbw)
  have Z:=Lib.hid (And.intro (And.intro z1 z2) (And.intro z3 z4))
  have HST:=Lib.hid (And.intro hst hj)
  have HX:=Lib.hid htx
  have HF0:=Lib.hid (show plen F≠0 from S6.nz hkl)
  have HLt:=Lib.hid hlt
  clear z1 z2 z3 z4 hv hst hj htx hlt hbw hkl
  go_wp2_with fail
  refine (signr_any HPr.out SF.out HF0.out HGr.out SG.out.g6 Z.out.1.1 Z.out.1.2 Z.out.2.1 Z.out.2.2 HST.out.2 HST.out.1).mono ?_
  rintro e w6 ⟨rfl,hb6⟩
  obtain ⟨b2,o2,rfl,lt2,x2⟩:=(HTr.out.below hb6).get HLt.out
  rw [HX.out] at x2
  replace Hbw:=Lib.hid (Hbw.out.trans (hb6.mono Hbw.out.size))
  clear hb6 HPr HGr HTr Z e0 e1 e2 e3 e4 e5
  go_wp2_with fail
  go_roundw
  case rel=>exact ⟨i+1,HLt.out,by go_num,Hbw.out⟩
  case measure=>have:=HLt.out;simp [intOf];omega
end Go.Proofs.YtbfddopopajgaaaGreat
namespace Go.Proofs.YtbfddopopajgaaaGreat
open Go.ChangeShapes Go.WideShapes Go.ChangeAt Go.RowKit
set_option maxRecDepth 100000 in
theorem signs_lifted (os:Os) (started:os.Started) (H:Type) (enc:TypeId×Value→H) :
 ReturnsInHanded {} Tryz.checked os 14 .any (Rows.thomSignsSpec.pre6 enc Tryz.prog Tryz.f14 Rows.thomSignsRow.domain false) (Rows.thomSignsSpec.post enc Tryz.prog Tryz.f14 false true false false):=by
 refine returnsInHanded_of_change (C:=Tryz.checked) Tryz.own started (by kernel_rfl) Tryz.func14
  (ChangeSpec.witness6 (enc:=enc) (C:=Tryz.checked) false ⟨#[],#[.slice none 0 0,.slice none 0 0],[]⟩ 8 (by kernel_rfl) (by kernel_rfl) (by kernel_rfl) (by kernel_rfl)) ?_
 intro W base args ds gs before hval0 hW hcnd _
 exact lifted_two16 _ Tryz.f14 Tryz.params14 rfl enc _ rfl (fun _ _=>rfl) (fun A la ca p B lb cb q w h h' hla hlb=>law_signs A la ca p B lb cb q w h h' hla hlb) W args ds gs before hval0 hW
theorem thomSigns_holds:Rows.ThomSignsSaid :=
 OpenClaim.holds_of_wide 14 Tryz.f14 rfl rfl rfl rfl rfl rfl rfl ⟨rfl,rfl,rfl,rfl,rfl⟩ rfl rfl rfl rfl rfl (by kernel_rfl) Tryz.func14 (by kernel_rfl)
  (of_decide_eq_true (by kernel_rfl)) (by unfold Func.isWrapper;first | (rw [if_pos (by decide +kernel)];kernel_rfl) | (rw [if_neg (by decide +kernel)];exact ⟨rfl,rfl⟩))
  (fun os started H enc _=>signs_lifted os started H enc)
#print axioms thomSigns_holds
end Go.Proofs.YtbfddopopajgaaaGreat
