/- For any slice of int16s and any uint8 the law RefineHalves returns true and its arguments read as before: refine.Halve halves an isolating interval of the same root. No condition. -/
import Derived.Test.YtbfddopopajgaaaGreatRowP
import Derived.OpenShut
import Derived.Test.YtbfddopopajgaaaGreatIvp
import Derived.Test.YtbfddopopajgaaaGreatRed
import Derived.Test.YtbfddopopajgaaaGreatIdP
import Derived.Test.YtbfddopopajgaaaGreatLin
namespace Go.Proofs.YtbfddopopajgaaaGreat
open Go.ChangeShapes Go.WideShapes Go.ChangeAt Go.RowKit
theorem u8_wf {n:Int} (h:(Lit.int .u8 n).wf=true):0≤n∧n≤255:=by
 have h1:IntKind.u8.min=0:=rfl
 have h2:IntKind.u8.max=255:=rfl
 simp only [Lit.wf,Bool.and_eq_true,decide_eq_true_eq] at h
 omega
set_option maxRecDepth 100000 in
theorem lifted_s16u8 (f:Nat) (fn:Func) (hp:fn.params=#[22,5]) (hr:fn.resultTypes=#[4]) {H:Type} (enc:TypeId×Value→H) (spec:ChangeSpec) (hsv:spec.vars=[]) (hsf:∀ d d',spec.fn H [d,d']={ results:=[.lit (.bool true)],args:=[d,d'] })
  (walk:∀ A len cap p n w,I16At w A len cap p→len≤9223372036854775807→(0≤n∧n≤255)→Calls Tryz.prog f #[.slice A len cap,.int .u8 n] w fun e w'=>e=.returned (.bool true)∧Below w.heap.size w w')
  (W:World) (args:Array Value) (ds gs:List (DataW H)) (before:List MemPlace)
  (hval:∀ (j:Nat) t v,fn.params[j]?=some t→args[j]?=some v→Value.okWide Tryz.prog W .any 0 t v)
  (hW:DataW.Whole enc Tryz.prog fn.params.toList spec.vars false W args.toList ds gs before) :
  Calls Tryz.prog f args W fun e W'=>∃ v,e=Ending.returned v∧spec.post enc Tryz.prog fn false true false false W args v W':=by
 have hW':=hW
 obtain ⟨p,q,hA0,hV,rfl,_,_⟩:=hW
 have hA:DataW.TrodAll enc Tryz.prog W 0 (fun _=>true) true fn.params.toList args.toList ds p:=hA0
 rw [hp] at hA hval
 obtain ⟨v0,v1,d0,d1,p0,p1,rfl,rfl,rfl,h0,h1⟩:=trodAll_two hA
 rw [hsv] at hV
 obtain ⟨rfl,rfl⟩:=trodVars_none hV
 obtain ⟨a0,len,cap,rfl⟩:=okWide_slice Tryz.underlying22 (hval 0 22 v0 rfl rfl)
 obtain ⟨n,rfl,rfl,rfl,wn⟩:=open_int Tryz.underlying5 (hval 1 5 v1 rfl rfl) h1
 simp only [List.append_nil] at hW'
 have hlt:∀ x∈p0,x.block<W.heap.size:=fun x hx=>by simpa using hW'.lt x hx
 obtain ⟨hlm,zs,hat⟩:=open_i16 h0 hlt
 refine (walk a0 len cap zs n W hat hlm (u8_wf wn)).mono fun e W' ⟨he,hb⟩=>?_
 subst he
 refine ⟨_,rfl,post_below (pa:=p0) (pv:=[]) hW' (fun _ _ _=>?_) (fun sp hs=>?_) (fun _ _=>?_) (by simp) hb ?_⟩
 ·rw [List.append_nil,hsf,hr]
  exact trodAll_mk1 (shut_bool Tryz.underlying4 _)
 ·rw [List.append_nil,hsf,hp]
  have h3:=trodAll_mk2 (Go.WideElems.Trod_stays Tryz.laidOut (by kernel_rfl) (of_decide_eq_true (by kernel_rfl)) h0 (fun x hx=>hb.same (hlt x hx)) hs) (shut_int (enc:=enc) (w:=W') (base:=0) (spare:=sp) (held:=true) Tryz.underlying5 wn)
  simpa using h3
 ·rw [hsv,List.append_nil,hsf]
  rfl
 ·exact ok_one hr rfl (okWide_bool_mk Tryz.underlying4 _)
end Go.Proofs.YtbfddopopajgaaaGreat
namespace Go.Proofs.YtbfddopopajgaaaGreat
open Go.RowKit
section
variable {Q f:List Int} {a b m:Fq} {x y:Pt}
theorem sgn_turn (h0:plen Q≠0) (hx:sgp Q x=0) (hs:mult x Q≤1) (ha:a.p<x) (hb:x<b.p) (hu:∀ y,sgp Q y=0→a.p<y→y<b.p→y=x) (na:sgp Q a.p≠0) (nb:sgp Q b.p≠0):sgp Q a.p=- sgp Q b.p:=by
 obtain ⟨l,u,hl⟩:=side_ex h0 x
 have hm:mult x Q=1:=by
  have:mult x Q≠0:=fun e=>(mult_zero h0).1 e hx
  omega
 rw [hm] at hl
 obtain ⟨y,y1,y2,y3⟩:=Pt.two_up hb hl.hi
 obtain ⟨z,z1,z2,z3⟩:∃ z,z<x∧a.p<z∧Pt.of l<z:=by
  rcases Pt.tri a.p (Pt.of l) with h | h | h
  ·obtain ⟨q,h1,h2⟩:=Pt.mid hl.lo;exact ⟨_,h2,Pt.lt_trans h h1,h1⟩
  ·obtain ⟨q,h1,h2⟩:=Pt.mid hl.lo;exact ⟨_,h2,by rw [h];exact h1,h1⟩
  ·obtain ⟨q,h1,h2⟩:=Pt.mid ha;exact ⟨_,h2,h1,Pt.lt_trans h h1⟩
 have ey:=hl.r y y1 y3
 have ez:=hl.l z z3 z1
 have nz:sgp Q z≠0:=fun e=>by
  have:=hu z e z2 (Pt.lt_trans z1 hb);rw [this] at z1;exact Pt.irr _ z1
 have ny:sgp Q y≠0:=fun e=>by
  have:=hu y e (Pt.lt_trans ha y1) y2;rw [this] at y1;exact Pt.irr _ y1
 have e1:sgp Q a.p=sgp Q z:=sgp_stay z2 (fun t t1 t2 e=>by
  have:=hu t e t1 (Pt.lt_trans t2 (Pt.lt_trans z1 hb));rw [this] at t2;exact Pt.asym z1 t2) na nz
 have e2:sgp Q y=sgp Q b.p:=sgp_stay y2 (fun t t1 t2 e=>by
  have:=hu t e (Pt.lt_trans ha (Pt.lt_trans y1 t1)) t2;rw [this] at t1;exact Pt.asym y1 t1) ny nb
 rw [e1,← e2,ey,ez]
 omega
theorem IsoV.cut (h0:plen Q≠0) (hs:∀ x,mult x Q≤1) (e:∀ y,sgp f y=0↔sgp Q y=0) (h:IsoV f x a b) (hlt:a.v<b.v) (ma:a.v<m.v) (mb:m.v<b.v) (hm:sgp Q m.p≠0) :
 if sgp Q m.p=sgp Q a.p then IsoV f x m b else IsoV f x a m:=by
 rcases h.2 with h2 | ⟨_,n1,n2,x1,x2,hu⟩
 ·grind
 have ma':a.p<m.p:=Pt.of_lt_of.2 ma
 have mb':m.p<b.p:=Pt.of_lt_of.2 mb
 have hx:=(e x).1 h.1
 have n1':sgp Q a.p≠0:=fun c=>n1 ((e _).2 c)
 have n2':sgp Q b.p≠0:=fun c=>n2 ((e _).2 c)
 have hm':sgp f m.p≠0:=fun c=>hm ((e _).1 c)
 have hu':∀ y,sgp Q y=0→a.p<y→y<b.p→y=x:=fun y hy=>hu y ((e y).2 hy)
 have ht:=sgn_turn h0 hx (hs x) x1 x2 hu' n1' n2'
 rcases Pt.tri x m.p with c | c | c
 ·have s:sgp Q m.p=sgp Q b.p:=sgp_stay mb' (fun t t1 t2 et=>by
   have:=hu' t et (Pt.lt_trans ma' t1) t2;rw [this] at t1;exact Pt.asym c t1) hm n2'
  rw [if_neg (by omega)]
  exact ⟨h.1,.inr ⟨ma,n1,hm',x1,c,fun y hy y1 y2=>hu y hy y1 (Pt.lt_trans y2 mb')⟩⟩
 ·exact absurd (c ▸ hx) hm
 ·have s:sgp Q a.p=sgp Q m.p:=sgp_stay ma' (fun t t1 t2 et=>by
   have:=hu' t et t1 (Pt.lt_trans t2 mb');rw [this] at t2;exact Pt.asym c t2) n1' hm
  rw [if_pos s.symm]
  exact ⟨h.1,.inr ⟨mb,hm',n2,c,x2,fun y hy y1 y2=>hu y hy (Pt.lt_trans ma' y1) y2⟩⟩
theorem IsoV.at_ (h:IsoV f x a b) (hlt:a.v<b.v) (ma:a.v<m.v) (mb:m.v<b.v) (hm:sgp f m.p=0):x=m.p:=by
 rcases h.2 with h2 | ⟨_,n1,n2,x1,x2,hu⟩
 ·grind
 ·exact (hu m.p hm (Pt.of_lt_of.2 ma) (Pt.of_lt_of.2 mb)).symm
theorem IsoV.pt {m':Fq} (hx:sgp f m.p=0) (hv:m'.v=m.v):IsoV f m.p m' m':=⟨hx,.inl ⟨rfl,by unfold Fq.p;rw [hv]⟩⟩
def hlf (Q:List Int) (r:Fq×Fq):Fq×Fq :=
 if fcmp r.1 r.2=0 then r
 else if (r.1.mid r.2).sgn Q=0 then ((r.1.mid r.2).nf,(r.1.mid r.2).nf)
 else if (r.1.mid r.2).sgn Q=r.1.sgn Q then (r.1.mid r.2,r.2) else (r.1,r.1.mid r.2)
structure Half (r s:Fq×Fq):Prop where
 p1:0<s.1.q
 p2:0<s.2.q
 lo:r.1.v≤s.1.v
 hi:s.2.v≤r.2.v
 w:2*(s.2.v-s.1.v)≤r.2.v-r.1.v
theorem hlf_spec {r:Fq×Fq} (h0:plen Q≠0) (hs:∀ x,mult x Q≤1) (e:∀ y,sgp f y=0↔sgp Q y=0) (ha:0<r.1.q) (hb:0<r.2.q) (h:IsoV f x r.1 r.2):IsoV f x (hlf Q r).1 (hlf Q r).2∧Half r (hlf Q r):=by
 have hle:=h.le
 unfold hlf
 by_cases c:fcmp r.1 r.2=0
 ·rw [if_pos c]
  have:=(fcmp_zero ha hb).1 c
  exact ⟨h,ha,hb,Rat.le_refl,Rat.le_refl,by grind⟩
 rw [if_neg c]
 have hlt:r.1.v<r.2.v:=by
  have:r.1.v≠r.2.v:=fun e=>c ((fcmp_zero ha hb).2 e)
  grind
 obtain ⟨mv,mq⟩:=Fq.mid_v ha hb
 generalize r.1.mid r.2=m at *
 have ma:r.1.v<m.v:=by rw [mv];grind
 have mb:m.v<r.2.v:=by rw [mv];grind
 rw [sgn_pt mq,sgn_pt ha]
 by_cases c2:sgp Q m.p=0
 ·rw [if_pos c2]
  obtain ⟨nv,nq⟩:=Fq.nf_v mq
  have ex:=h.at_ hlt ma mb ((e _).2 c2)
  rw [ex]
  exact ⟨.pt ((e _).2 c2) nv,nq,nq,by show r.1.v≤m.nf.v;rw [nv];grind,by show m.nf.v≤r.2.v;rw [nv];grind,by show 2*(m.nf.v-m.nf.v)≤_;grind⟩
 rw [if_neg c2]
 have hc:=h.cut h0 hs e hlt ma mb c2
 by_cases c3:sgp Q m.p=sgp Q r.1.p
 ·rw [if_pos c3] at hc ⊢
  exact ⟨hc,mq,hb,by show r.1.v≤m.v;grind,Rat.le_refl,by show 2*(r.2.v-m.v)≤_;rw [mv];grind⟩
 ·rw [if_neg c3] at hc ⊢
  exact ⟨hc,ha,mq,Rat.le_refl,by show m.v≤r.2.v;grind,by show 2*(m.v-r.1.v)≤_;rw [mv];grind⟩
end
end Go.Proofs.YtbfddopopajgaaaGreat
namespace Go.Proofs.YtbfddopopajgaaaGreat
open Go.RowKit
section
variable {K i j:Nat} {a b:Fq} {r:Fq×Fq} {Q f:List Int}
theorem Dy.le (h:Dy K i a) (hij:i≤j):Dy K j a:=⟨h.p,Nat.dvd_trans h.d (Nat.pow_dvd_pow 2 hij),h.z⟩
theorem Dy.nf (h:Dy K i a):Dy K i a.nf:=by
 have hp:=(Go.Proofs.YtbfddopopajgaaaGreat.nf_v (z:=a.z) h.p).2.1
 obtain ⟨g,hg⟩:∃ g,g=Nat.gcd a.z.natAbs a.q:=⟨_,rfl⟩
 have hg0:0<g:=by rw [hg];exact Nat.gcd_pos_of_pos_right _ h.p
 have d2:g∣a.q:=by rw [hg];exact Nat.gcd_dvd_right _ _
 have d1:g∣a.z.natAbs:=by rw [hg];exact Nat.gcd_dvd_left _ _
 have eq:a.nf.q=a.q / g:=by rw [hg];rfl
 have ez:a.nf.z.natAbs=a.z.natAbs / g:=by
  show (rz a.z a.q).natAbs=_
  unfold rz
  rw [Int.natAbs_tdiv,hg,Int.natAbs_natCast];rfl
 refine ⟨hp,?_,?_⟩
 ·rw [eq];exact Nat.dvd_trans (Nat.div_dvd_of_dvd d2) h.d
 ·rw [ez,eq,← Nat.mul_div_assoc _ d2]
  exact Nat.div_le_div_right h.z
def DyR (K i:Nat) (r:Fq×Fq):Prop:=Dy K i r.1∧Dy K i r.2
theorem DyR.le (h:DyR K i r) (hij:i≤j):DyR K j r:=⟨h.1.le hij,h.2.le hij⟩
theorem hlf_dy (h:DyR K i r):DyR K (i+1) (hlf Q r):=by
 have hm:=h.1.mid h.2
 unfold hlf
 split
 ·exact h.le (Nat.le_succ _)
 ·split
  ·exact ⟨hm.nf,hm.nf⟩
  ·split
   ·exact ⟨hm,h.2.up⟩
   ·exact ⟨h.1.up,hm⟩
structure DyW (K:Nat) (W:Rat) (i:Nat) (r:Fq×Fq):Prop where
 d:DyR K i r
 w:r.1.v=r.2.v∨(r.2.v-r.1.v)*2^i=W
theorem pow2_succ (i:Nat):(2:Rat)^(i+1)=2^i*2:=by rw [Rat.pow_succ]
theorem hlf_dw {W:Rat} (h:DyW K W i r):DyW K W (i+1) (hlf Q r):=by
 refine ⟨hlf_dy h.d,?_⟩
 have hv:=Fq.mid_v h.d.1.p h.d.2.p
 have h0:=fcmp_zero h.d.1.p h.d.2.p
 unfold hlf
 split
 ·rename_i c
  exact .inl (h0.1 c)
 ·rename_i c
  have hw:=h.w.resolve_left fun e=>c (h0.2 e)
  split
  ·exact .inl rfl
  ·split
   ·refine .inr ?_
    show (r.2.v-(r.1.mid r.2).v)*2^(i+1)=W
    rw [hv.1,pow2_succ]
    grind
   ·refine .inr ?_
    show ((r.1.mid r.2).v-r.1.v)*2^(i+1)=W
    rw [hv.1,pow2_succ]
    grind
theorem isl_dw {PS:List (List Int)} {W:Rat}:∀ (n i:Nat) (a b:Fq),Dy K i a→Dy K i b→(b.v-a.v)*2^i=W→∀ r∈isl Q PS n a b,∃ j,i≤j∧j≤i+n∧DyW K W j r
 | 0,_,_,_,_,_,_,r,hr=>by simp [isl] at hr
 | n+1,i,a,b,ha,hb,hw,r,hr=>by
   have e:isl Q PS (n+1) a b=if icnt Q PS a b<1 then [] else if icnt Q PS a b=1∧a.sgn Q≠0∧b.sgn Q≠0 then [(a.nf,b.nf)] else isl Q PS n a (a.mid b) ++ (if (a.mid b).sgn Q=0 then [((a.mid b).nf,(a.mid b).nf)] else []) ++ isl Q PS n (a.mid b) b:=rfl
   rw [e] at hr
   have hm:=ha.mid hb
   have hv:=Fq.mid_v ha.p hb.p
   by_cases c1:icnt Q PS a b<1
   ·rw [if_pos c1] at hr;simp at hr
   rw [if_neg c1] at hr
   by_cases c2:icnt Q PS a b=1∧a.sgn Q≠0∧b.sgn Q≠0
   ·rw [if_pos c2,List.mem_singleton] at hr
    rw [hr]
    refine ⟨i,Nat.le_refl _,by omega,⟨ha.nf,hb.nf⟩,.inr ?_⟩
    show (b.nf.v-a.nf.v)*2^i=W
    rw [(Fq.nf_v ha.p).1,(Fq.nf_v hb.p).1]
    exact hw
   rw [if_neg c2] at hr
   rcases List.mem_append.1 hr with hr | hr
   ·rcases List.mem_append.1 hr with hr | hr
    ·obtain ⟨j,j1,j2,j3⟩:=isl_dw (W:=W) n (i+1) a (a.mid b) ha.up hm (by rw [hv.1,pow2_succ];grind) r hr
     exact ⟨j,by omega,by omega,j3⟩
    ·split at hr
     ·rw [List.mem_singleton] at hr
      rw [hr]
      exact ⟨i+1,by omega,by omega,⟨hm.nf,hm.nf⟩,.inl rfl⟩
     ·simp at hr
   ·obtain ⟨j,j1,j2,j3⟩:=isl_dw (W:=W) n (i+1) (a.mid b) b hm hb.up (by rw [hv.1,pow2_succ];grind) r hr
    exact ⟨j,by omega,by omega,j3⟩
theorem nn_zb2 (h:SqF Q 16):(cbn Q+1)*2^(NN+2500)≤ZB:=by
 have h1:=cbn_le h
 have h2:BB^17+1≤BB^18:=by
  have h3:BB^17<BB^18:=Nat.pow_lt_pow_right (by rw [BB_eq];decide) (by decide)
  omega
 obtain ⟨k,hk⟩:∃ k:Nat,k=18:=⟨_,rfl⟩
 have h4:cbn Q+1≤2^(32*k):=by rw [← bb_two,hk];omega
 have e:ZB=2^(32*ZK):=by unfold ZB;rw [bb_two]
 refine Nat.le_trans (Nat.mul_le_mul_right _ h4) ?_
 rw [e,← Nat.pow_add]
 exact Nat.pow_le_pow_right (by decide) (by rw [hk,NN_eq,ZK_eq];decide)
theorem DyR.fqb {N:Nat} (h:DyR K i r) (hi:i≤N) (hN:(K+1)*2^N≤ZB):FqB r.1∧FqB r.2∧(i+1≤N→FqB (r.1.mid r.2)):=⟨h.1.fqb hi hN,h.2.fqb hi hN,fun h2=>(h.1.mid h.2).fqb h2 hN⟩
theorem proots_dw (f:List Int):∀ r∈proots f,∃ j,j≤NN+1∧DyW (cbn (qpart f)) (2*(cbn (qpart f):Nat)) j r:=by
 unfold proots
 by_cases h:plen (qpart f)<2
 ·rw [if_pos h];intro r hr;simp at hr
 ·rw [if_neg h]
  have hv:=end_v (cbn (qpart f))
  intro r hr
  obtain ⟨j,_,j2,j3⟩:=isl_dw (K:=cbn (qpart f)) (W:=2*((cbn (qpart f):Nat):Rat)) (NN+1) 0 ⟨-((cbn (qpart f):Nat):Int),1⟩ ⟨((cbn (qpart f):Nat):Int),1⟩ ⟨Nat.one_pos,by simp,by simp⟩ ⟨Nat.one_pos,by simp,by simp⟩ (by rw [hv.1,hv.2,Rat.pow_zero];grind) r hr
  exact ⟨j,by omega,j3⟩
end
end Go.Proofs.YtbfddopopajgaaaGreat
namespace Go.Proofs.YtbfddopopajgaaaGreat
open Go Go.RowKit
def RootE (r:Fq×Fq) (e:Ending) (w:World):Prop :=
 ∃ n A l c B m d n' A' l' c' B' m' d',e=.returned (.agg #[.bool n,.slice A l c,.slice B m d,.bool n',.slice A' l' c',.slice B' m' d'])∧IntN w n A l c r.1.z∧NatN w B m d r.1.q∧IntN w n' A' l' c' r.2.z∧NatN w B' m' d' r.2.q
def pu6 (w:World) (g:Nat) (v0 v1 v2 v3 v4 v5:Value):World:=(((((w.setCell ⟨g,0,none⟩ v0).setCell ⟨g,1,none⟩ v1).setCell ⟨g,2,none⟩ v2).setCell ⟨g,3,none⟩ v3).setCell ⟨g,4,none⟩ v4).setCell ⟨g,5,none⟩ v5
theorem pu6_frs (w:World) (g:Nat) (v0 v1 v2 v3 v4 v5:Value):FrS g g w (pu6 w g v0 v1 v2 v3 v4 v5):=frs_set (frs_set (frs_set (frs_set (frs_set (frs_set (FrS.refl g g w) 0 v0) 1 v1) 2 v2) 3 v3) 4 v4) 5 v5
abbrev rtObj:Obj:=.cells #[.bool false,.slice none 0 0,.slice none 0 0,.bool false,.slice none 0 0,.slice none 0 0] 44
abbrev rz6:Array Value:=#[.bool false,.slice none 0 0,.slice none 0 0,.bool false,.slice none 0 0,.slice none 0 0]
theorem rz6_ndb {w:World} {g t:Nat} (h:Blk w g t rz6):NdB w g:=blk_ndb h fun j v hv=>by
 match j,hv with
 | 0,hv=>simp at hv;subst hv;exact noDigit_bool _
 | 1,hv=>simp at hv;subst hv;exact noDigit_slice _ _ _
 | 2,hv=>simp at hv;subst hv;exact noDigit_slice _ _ _
 | 3,hv=>simp at hv;subst hv;exact noDigit_bool _
 | 4,hv=>simp at hv;subst hv;exact noDigit_slice _ _ _
 | 5,hv=>simp at hv;subst hv;exact noDigit_slice _ _ _
 | j+6,hv=>simp at hv
section
variable {I:IntPred} {w w9:World} {g t:Nat} {a b:Fq} {r:Fq×Fq} {n:Bool} {A:Option Addr} {l c:Nat} {B:Option Addr} {m d:Nat} {n':Bool} {A':Option Addr} {l' c':Nat} {B':Option Addr} {m' d':Nat}
theorem root_fin (hw:Below w.heap.size w w9) (hk:Blk w9 g t rz6) (hg:w.heap.size≤g) (hz:IntN w9 n A l c r.1.z) (hq:NatN w9 B m d r.1.q) (hz':IntN w9 n' A' l' c' r.2.z) (hq':NatN w9 B' m' d' r.2.q) :
  RootE r (.returned (.agg #[.bool n,.slice A l c,.slice B m d,.bool n',.slice A' l' c',.slice B' m' d'])) (pu6 w9 g (.bool n) (.slice A l c) (.slice B m d) (.bool n') (.slice A' l' c') (.slice B' m' d'))∧Below w.heap.size w (pu6 w9 g (.bool n) (.slice A l c) (.slice B m d) (.bool n') (.slice A' l' c') (.slice B' m' d')):=by
 have hf:=pu6_frs w9 g (.bool n) (.slice A l c) (.slice B m d) (.bool n') (.slice A' l' c') (.slice B' m' d')
 have nd:=rz6_ndb hk
 exact ⟨⟨n,A,l,c,B,m,d,n',A',l',c',B',m',d',rfl,hz.frs hf nd nd,hq.frs hf nd nd,hz'.frs hf nd nd,hq'.frs hf nd nd⟩,hf.mono hw hg hg hw.size⟩
theorem isexact_any (hz:IntN w n A l c r.1.z) (hq:NatN w B m d r.1.q) (hz':IntN w n' A' l' c' r.2.z) (hq':NatN w B' m' d' r.2.q) (ha:FqB r.1) (hb:FqB r.2) :
  Calls Tryz.prog 80 #[.agg #[.bool n,.slice A l c,.slice B m d,.bool n',.slice A' l' c',.slice B' m' d']] w fun e w'=>e=.returned (.bool (fcmp r.1 r.2 == 0))∧Below w.heap.size w w':=by
 have o1:=below_new w (tbox n A l c B m d n' A' l' c' B' m' d')
 have T:=Lib.hid (TBox.make hz hq hz' hq')
 have Hb:=Lib.hid o1
 have p1:=ha.p
 have p2:=hb.p
 clear hz hq hz' hq' o1
 go_enter Tryz.func80,Tryz.ntmps80
 have x0:=T.out.r.c0;have x1:=T.out.r.c1;have x2:=T.out.r.c2;have x3:=T.out.c3;have x4:=T.out.c4;have x5:=T.out.c5
 go_wp2_with fail
 refine (rcmp_any _ _ _ _ _ _ _ _ _ _ _ _ _ _ _ _ _ _ _ T.out.r.hz.at_ T.out.r.hq.at_ T.out.hz.at_ T.out.hq.at_ (by omega) (by omega) ha.fz ha.fq hb.fz hb.fq).mono ?_
 rintro e w3 ⟨rfl,hb3⟩
 replace Hb:=Lib.hid (Hb.out.trans (hb3.mono Hb.out.size))
 obtain ⟨C,hC⟩:∃ C,C=fcmp r.1 r.2:=⟨_,rfl⟩
 rw [show cmpz (r.1.z*(r.2.q:Int)) (r.2.z*(r.1.q:Int))=C from hC.symm]
 have HC:=Lib.hid hC
 clear hb3 hC T
 clear x0 x1 x2 x3 x4 x5
 go_wp2
 go_ret
 exact ⟨by first | (rw [HC.out];done) | (rw [HC.out];rfl),Hb.out⟩
set_option maxRecDepth 100000 in
set_option maxHeartbeats 4000000 in
theorem exact_rt (hz:IntN w n A l c a.z) (hq:NatN w B m d a.q) (ha:FqB a) :
  Calls Tryz.prog 111 #[.agg #[.bool n,.slice A l c,.slice B m d]] w fun e w'=>RootE (a.nf,a.nf) e w'∧Below w.heap.size w w':=by
 have o1:=below_new w (rbox n A l c B m d)
 have o2:=below_new (w.alloc (rbox n A l c B m d)) rtObj
 have b2:Below w.heap.size w ((w.alloc (rbox n A l c B m d)).alloc rtObj):=o1.alloc (by simp) _
 have R1:=(RBox.make hz hq).move o2
 have K3:Blk ((w.alloc (rbox n A l c B m d)).alloc rtObj) (w.alloc (rbox n A l c B m d)).heap.size 44 rz6:=Blk.new _ _ _
 simp only [World.size_alloc] at K3
 have a0:=R1.c0
 have a1:=R1.c1
 have a2:=R1.c2
 replace R1:=Lib.hid R1
 have K4:=Lib.hid K3
 have Hb:=Lib.hid b2
 have hl3:=K3.lt
 obtain ⟨wb,hwb⟩:∃ wb,wb=(w.alloc (rbox n A l c B m d)).alloc rtObj:=⟨_,rfl⟩
 clear o1 o2 b2 hz hq K3
 go_enter Tryz.func111,Tryz.ntmps111
 go_wp2_with fail
 rw [← hwb] at R1 K4 Hb a0 a1 a2 hl3 ⊢
 clear hwb
 obtain ⟨g1,hg1⟩:∃ g,g=w.heap.size:=⟨_,rfl⟩
 obtain ⟨g3,hg3⟩:∃ g,g=w.heap.size+1:=⟨_,rfl⟩
 rw [← hg1] at R1 a0 a1 a2
 rw [← hg3] at K4 hl3
 rw [← hg3,← hg1]
 have l1:g1<wb.heap.size:=by omega
 have Hg:=Lib.hid (show w.heap.size≤g3 by omega)
 clear hg1 hg3
 refine wp_region_lastT (S:=fun w'=>w'.cell? ⟨g1,0,none⟩=some (.bool n)∧w'.cell? ⟨g1,1,none⟩=some (.slice A l c)∧w'.cell? ⟨g1,2,none⟩=some (.slice B m d)) (by kernel_rfl) (by kernel_rfl) (by (try dsimp only);go_keep) (fun hHeld=>?_)
 simp only [List.pop_toArray,List.dropLast]
 (refine tk (i:=0) (v:=?_) rfl rfl (Or.inl ⟨by rfl,?_⟩) ?_;rotate_left;(focus (intro w hSw;(try dsimp only at hSw);go_simp;(try with_reducible rfl)));(simp only [put_lit,List.set]))
 (refine tk (i:=2) (v:=?_) rfl rfl (Or.inl ⟨by rfl,?_⟩) ?_;rotate_left;(focus (intro w hSw;(try dsimp only at hSw);go_simp;(try with_reducible rfl)));(simp only [put_lit,List.set]))
 refine wpAnyH_ready (rs:=[1]) (by kernel_rfl) (by simp) ?_
 refine AllReadyH.cons rfl (fun K hK=>?_) AllReadyH.nil;go_simp
 refine (rnormal_any _ _ _ _ _ _ _ _ _ _ (R1.out.hz.below Bel.go) (R1.out.hq.below Bel.go) ha.fz ha.fq ha.p).mono ?_
 rintro e w7 ⟨⟨n7,A7,l7,c7,B7,m7,d7,rfl,h7,k7⟩,hb7⟩
 obtain ⟨hcx,hfx⟩:=bcellS hb7
 have hbz:Below wb.heap.size wb w7:=(Below.trans Bel.go (hb7.mono (by simp<;>omega)))
 replace R1:=Lib.hid (R1.out.move hbz)
 replace K4:=Lib.hid (K4.out.below hbz K4.out.lt)
 replace Hb:=Lib.hid (Hb.out.trans (hbz.mono Hb.out.size))
 refine hK.out _ _ ?_ (fun _=>?_)
 ·((try dsimp only);repeat' apply And.intro)<;>(rw [hcx _ (by go_simp)];go_simp)
 clear hHeld hK K hcx hfx;rename_i hHeld
 have hs7:=hbz.size
 have H7:=Lib.hid (And.intro h7 k7)
 clear h7 k7 hb7 hbz
 refine wpAnyH_ready (rs:=[3]) (by kernel_rfl) (by simp) ?_
 refine AllReadyH.cons rfl (fun K hK=>?_) AllReadyH.nil;go_simp
 refine (rnormal_any _ _ _ _ _ _ _ _ _ _ (R1.out.hz.below Bel.go) (R1.out.hq.below Bel.go) ha.fz ha.fq ha.p).mono ?_
 rintro e w9 ⟨⟨n9,A9,l9,c9,B9,m9,d9,rfl,h9,k9⟩,hb9⟩
 obtain ⟨hcx,hfx⟩:=bcellS hb9
 have hbz:Below w7.heap.size w7 w9:=(Below.trans Bel.go (hb9.mono (by simp<;>omega)))
 replace K4:=Lib.hid (K4.out.below hbz K4.out.lt)
 replace Hb:=Lib.hid (Hb.out.trans (hbz.mono Hb.out.size))
 replace H7:=Lib.hid (And.intro (H7.out.1.below hbz) (H7.out.2.below hbz))
 refine hK.out _ _ ?_ (fun _=>?_)
 ·((try dsimp only);repeat' apply And.intro)<;>(rw [hcx _ (by go_simp)];go_simp)
 clear hHeld hK K hcx hfx;rename_i hHeld
 have H9:=Lib.hid (And.intro h9 k9)
 clear h9 k9 hb9 hbz R1
 (refine tk (i:=4) (v:=?_) rfl rfl (Or.inl ⟨by rfl,?_⟩) ?_;rotate_left;(focus (intro w hSw;(try dsimp only at hSw);go_simp;(try with_reducible rfl)));(simp only [put_lit,List.set]))
 refine wpAnyH_done (by kernel_rfl) (lastQ_list rfl ?_) _
 clear hHeld a0 a1 a2
 have FX:=Lib.hid (root_fin (r:=(a.nf,a.nf)) Hb.out K4.out Hg.out H7.out.1 H7.out.2 H9.out.1 H9.out.2);have r0:=(K4.out.cell 0).trans rfl;have r1:=(K4.out.cell 1).trans rfl;have r2:=(K4.out.cell 2).trans rfl;have r3:=(K4.out.cell 3).trans rfl;have r4:=(K4.out.cell 4).trans rfl;have r5:=(K4.out.cell 5).trans rfl;have s0:=K4.out.frozen 0;have s1:=K4.out.frozen 1;have s2:=K4.out.frozen 2;have s3:=K4.out.frozen 3;have s4:=K4.out.frozen 4;have s5:=K4.out.frozen 5;clear K4 Hb;go_wp2;(try clear T);refine bodyPost_ret (v:=.agg #[.bool n7,.slice A7 l7 c7,.slice B7 m7 d7,.bool n9,.slice A9 l9 c9,.slice B9 m9 d9]) (by simp [results,Tryz.results111,go_sem,r0,r1,r2,r3,r4,r5]) rfl FX.out
set_option maxRecDepth 100000 in
set_option maxHeartbeats 4000000 in
theorem rcopy_any (hz:IntN w n A l c r.1.z) (hq:NatN w B m d r.1.q) (hz':IntN w n' A' l' c' r.2.z) (hq':NatN w B' m' d' r.2.q) (ha:FqB r.1) (hb:FqB r.2) :
  Calls Tryz.prog 70 #[.agg #[.bool n,.slice A l c,.slice B m d,.bool n',.slice A' l' c',.slice B' m' d']] w fun e w'=>RootE (r.1.nf,r.2.nf) e w'∧Below w.heap.size w w':=by
 have o1:=below_new w (tbox n A l c B m d n' A' l' c' B' m' d')
 have o2:=below_new (w.alloc (tbox n A l c B m d n' A' l' c' B' m' d')) rtObj
 have b2:Below w.heap.size w ((w.alloc (tbox n A l c B m d n' A' l' c' B' m' d')).alloc rtObj):=o1.alloc (by simp) _
 have T:=Lib.hid ((TBox.make hz hq hz' hq').move o2)
 have K3:Blk ((w.alloc (tbox n A l c B m d n' A' l' c' B' m' d')).alloc rtObj) (w.alloc (tbox n A l c B m d n' A' l' c' B' m' d')).heap.size 44 rz6:=Blk.new _ _ _
 simp only [World.size_alloc] at K3
 have x0:=T.out.r.c0;have x1:=T.out.r.c1;have x2:=T.out.r.c2;have x3:=T.out.c3;have x4:=T.out.c4;have x5:=T.out.c5
 have K4:=Lib.hid K3
 have Hb:=Lib.hid b2
 have hl3:=K3.lt
 obtain ⟨wb,hwb⟩:∃ wb,wb=(w.alloc (tbox n A l c B m d n' A' l' c' B' m' d')).alloc rtObj:=⟨_,rfl⟩
 clear o1 o2 b2 hz hq hz' hq' K3
 go_enter Tryz.func70,Tryz.ntmps70
 go_wp2_with fail
 rw [← hwb] at T K4 Hb x0 x1 x2 x3 x4 x5 hl3 ⊢
 clear hwb
 obtain ⟨g1,hg1⟩:∃ g,g=w.heap.size:=⟨_,rfl⟩
 obtain ⟨g3,hg3⟩:∃ g,g=w.heap.size+1:=⟨_,rfl⟩
 rw [← hg1] at T x0 x1 x2 x3 x4 x5
 rw [← hg3] at K4 hl3
 rw [← hg3,← hg1]
 have l1:g1<wb.heap.size:=by omega
 have Hg:=Lib.hid (show w.heap.size≤g3 by omega)
 clear hg1 hg3
 refine wp_region_lastT (S:=fun w'=>w'.cell? ⟨g1,0,none⟩=some (.bool n)∧w'.cell? ⟨g1,1,none⟩=some (.slice A l c)∧w'.cell? ⟨g1,2,none⟩=some (.slice B m d)∧w'.cell? ⟨g1,3,none⟩=some (.bool n')∧w'.cell? ⟨g1,4,none⟩=some (.slice A' l' c')∧w'.cell? ⟨g1,5,none⟩=some (.slice B' m' d')) (by kernel_rfl) (by kernel_rfl) (by (try dsimp only);go_keep) (fun hHeld=>?_)
 simp only [List.pop_toArray,List.dropLast]
 (refine tk (i:=0) (v:=?_) rfl rfl (Or.inl ⟨by rfl,?_⟩) ?_;rotate_left;(focus (intro w hSw;(try dsimp only at hSw);go_simp;(try with_reducible rfl)));(simp only [put_lit,List.set]))
 (refine tk (i:=1) (v:=?_) rfl rfl (Or.inl ⟨by rfl,?_⟩) ?_;rotate_left;(focus (intro w hSw;(try dsimp only at hSw);go_simp;(try with_reducible rfl)));(simp only [put_lit,List.set]))
 (refine tk (i:=3) (v:=?_) rfl rfl (Or.inl ⟨by rfl,?_⟩) ?_;rotate_left;(focus (intro w hSw;(try dsimp only at hSw);go_simp;(try with_reducible rfl)));(simp only [put_lit,List.set]))
 (refine tk (i:=4) (v:=?_) rfl rfl (Or.inl ⟨by rfl,?_⟩) ?_;rotate_left;(focus (intro w hSw;(try dsimp only at hSw);go_simp;(try with_reducible rfl)));(simp only [put_lit,List.set]))
 refine wpAnyH_ready (rs:=[2]) (by kernel_rfl) (by simp) ?_
 refine AllReadyH.cons rfl (fun K hK=>?_) AllReadyH.nil;go_simp
 refine (rnormal_any _ _ _ _ _ _ _ _ _ _ (T.out.r.hz.below Bel.go) (T.out.r.hq.below Bel.go) ha.fz ha.fq ha.p).mono ?_
 rintro e w7 ⟨⟨n7,A7,l7,c7,B7,m7,d7,rfl,h7,k7⟩,hb7⟩
 obtain ⟨hcx,hfx⟩:=bcellS hb7
 have hbz:Below wb.heap.size wb w7:=(Below.trans Bel.go (hb7.mono (by simp<;>omega)))
 replace T:=Lib.hid (T.out.move hbz)
 replace K4:=Lib.hid (K4.out.below hbz K4.out.lt)
 replace Hb:=Lib.hid (Hb.out.trans (hbz.mono Hb.out.size))
 refine hK.out _ _ ?_ (fun _=>?_)
 ·((try dsimp only);repeat' apply And.intro)<;>(rw [hcx _ (by go_simp)];go_simp)
 clear hHeld hK K hcx hfx;rename_i hHeld
 have hs7:=hbz.size
 have H7:=Lib.hid (And.intro h7 k7)
 clear h7 k7 hb7 hbz
 refine wpAnyH_ready (rs:=[5]) (by kernel_rfl) (by simp) ?_
 refine AllReadyH.cons rfl (fun K hK=>?_) AllReadyH.nil;go_simp
 refine (rnormal_any _ _ _ _ _ _ _ _ _ _ (T.out.hz.below Bel.go) (T.out.hq.below Bel.go) hb.fz hb.fq hb.p).mono ?_
 rintro e w9 ⟨⟨n9,A9,l9,c9,B9,m9,d9,rfl,h9,k9⟩,hb9⟩
 obtain ⟨hcx,hfx⟩:=bcellS hb9
 have hbz:Below w7.heap.size w7 w9:=(Below.trans Bel.go (hb9.mono (by simp<;>omega)))
 replace K4:=Lib.hid (K4.out.below hbz K4.out.lt)
 replace Hb:=Lib.hid (Hb.out.trans (hbz.mono Hb.out.size))
 replace H7:=Lib.hid (And.intro (H7.out.1.below hbz) (H7.out.2.below hbz))
 refine hK.out _ _ ?_ (fun _=>?_)
 ·((try dsimp only);repeat' apply And.intro)<;>(rw [hcx _ (by go_simp)];go_simp)
 clear hHeld hK K hcx hfx;rename_i hHeld
 have H9:=Lib.hid (And.intro h9 k9)
 clear h9 k9 hb9 hbz T
 (refine tk (i:=6) (v:=?_) rfl rfl (Or.inl ⟨by rfl,?_⟩) ?_;rotate_left;(focus (intro w hSw;(try dsimp only at hSw);go_simp;(try with_reducible rfl)));(simp only [put_lit,List.set]))
 refine wpAnyH_done (by kernel_rfl) (lastQ_list rfl ?_) _
 clear hHeld x0 x1 x2 x3 x4 x5
 have FX:=Lib.hid (root_fin (r:=(r.1.nf,r.2.nf)) Hb.out K4.out Hg.out H7.out.1 H7.out.2 H9.out.1 H9.out.2);have r0:=(K4.out.cell 0).trans rfl;have r1:=(K4.out.cell 1).trans rfl;have r2:=(K4.out.cell 2).trans rfl;have r3:=(K4.out.cell 3).trans rfl;have r4:=(K4.out.cell 4).trans rfl;have r5:=(K4.out.cell 5).trans rfl;have s0:=K4.out.frozen 0;have s1:=K4.out.frozen 1;have s2:=K4.out.frozen 2;have s3:=K4.out.frozen 3;have s4:=K4.out.frozen 4;have s5:=K4.out.frozen 5;clear K4 Hb;go_wp2;(try clear T);refine bodyPost_ret (v:=.agg #[.bool n7,.slice A7 l7 c7,.slice B7 m7 d7,.bool n9,.slice A9 l9 c9,.slice B9 m9 d9]) (by simp [results,Tryz.results70,go_sem,r0,r1,r2,r3,r4,r5]) rfl FX.out
end
end Go.Proofs.YtbfddopopajgaaaGreat
namespace Go.Proofs.YtbfddopopajgaaaGreat
open Go Go.RowKit
set_option maxRecDepth 100000 in
set_option maxHeartbeats 4000000 in
theorem half_any {I:IntPred} (hI:IK I) {w:World} {Ap:Option Addr} {lp cp:Nat} {Q:List Int} {r:Fq×Fq} {n:Bool} {A:Option Addr} {l c:Nat} {B:Option Addr} {m d:Nat} {n':Bool} {A':Option Addr} {l' c':Nat} {B':Option Addr} {m' d':Nat}
  (hp:PolyP I w Ap lp cp Q) (hlp:lp≤1000000) (hQ:∀ x,FqB x→PoOK x.z x.q Q) (hz:IntN w n A l c r.1.z) (hq:NatN w B m d r.1.q) (hz':IntN w n' A' l' c' r.2.z) (hq':NatN w B' m' d' r.2.q) (ha:FqB r.1) (hb:FqB r.2) (hm:FqB (r.1.mid r.2)) :
  Calls Tryz.prog 71 #[.slice Ap lp cp,.agg #[.bool n,.slice A l c,.slice B m d,.bool n',.slice A' l' c',.slice B' m' d']] w fun e w'=>RootE (hlf Q r) e w'∧Below w.heap.size w w':=by
 have o1:=below_new w (tbox n A l c B m d n' A' l' c' B' m' d')
 have o2:=below_new (w.alloc (tbox n A l c B m d n' A' l' c' B' m' d')) rtObj
 have b2:Below w.heap.size w ((w.alloc (tbox n A l c B m d n' A' l' c' B' m' d')).alloc rtObj):=o1.alloc (by simp) _
 have T:=Lib.hid ((TBox.make hz hq hz' hq').move o2)
 have K3:Blk ((w.alloc (tbox n A l c B m d n' A' l' c' B' m' d')).alloc rtObj) (w.alloc (tbox n A l c B m d n' A' l' c' B' m' d')).heap.size 44 rz6:=Blk.new _ _ _
 simp only [World.size_alloc] at K3
 have HP:=Lib.hid (hp.below hI b2)
 have x0:=T.out.r.c0;have x1:=T.out.r.c1;have x2:=T.out.r.c2;have x3:=T.out.c3;have x4:=T.out.c4;have x5:=T.out.c5
 have K4:=Lib.hid K3
 have Hb:=Lib.hid b2
 have hl3:=K3.lt
 have pa:=hQ _ ha
 have pm:=hQ _ hm
 have HQ:=Lib.hid hQ
 obtain ⟨R,hR⟩:∃ R,R=hlf Q r:=⟨_,rfl⟩
 rw [← hR]
 unfold hlf at hR
 have HR:=Lib.hid hR
 obtain ⟨S,hS⟩:∃ S,S=(r.1.mid r.2).sgn Q:=⟨_,rfl⟩
 obtain ⟨S2,hS2⟩:∃ S,S=r.1.sgn Q:=⟨_,rfl⟩
 have HS:=Lib.hid hS
 have HS2:=Lib.hid hS2
 obtain ⟨wb,hwb⟩:∃ wb,wb=(w.alloc (tbox n A l c B m d n' A' l' c' B' m' d')).alloc rtObj:=⟨_,rfl⟩
 clear o1 o2 b2 hz hq hz' hq' K3 hp hQ hR hS hS2
 go_enter Tryz.func71,Tryz.ntmps71
 go_wp2_with fail
 rw [← hwb] at T K4 HP Hb x0 x1 x2 x3 x4 x5 hl3 ⊢
 clear hwb
 obtain ⟨g1,hg1⟩:∃ g,g=w.heap.size:=⟨_,rfl⟩
 obtain ⟨g3,hg3⟩:∃ g,g=w.heap.size+1:=⟨_,rfl⟩
 rw [← hg1] at T x0 x1 x2 x3 x4 x5
 rw [← hg3] at K4 hl3
 rw [← hg3,← hg1]
 have l1:g1<wb.heap.size:=by omega
 have Hg:=Lib.hid (show w.heap.size≤g3 by omega)
 have ng1:g1≠g3:=by omega
 have ng2:g3≠g1:=by omega
 clear hg1 hg3
 refine (isexact_any T.out.r.hz T.out.r.hq T.out.hz T.out.hq ha hb).mono ?_
 rintro e w1 ⟨rfl,hb1⟩
 replace HP:=Lib.hid (HP.out.below hI hb1);replace T:=Lib.hid (T.out.move hb1);replace K4:=Lib.hid (K4.out.below hb1 K4.out.lt);replace Hb:=Lib.hid (Hb.out.trans ((hb1).mono Hb.out.size))
 clear hb1
 clear x0 x1 x2 x3 x4 x5
 by_cases c0:fcmp r.1 r.2=0
 ·have b1:(fcmp r.1 r.2 == 0)=true:=by rw [c0];rfl
  have ER:=Lib.hid (show R=r by rw [HR.out,if_pos c0])
  clear c0
  have x0:=T.out.r.c0;have x1:=T.out.r.c1;have x2:=T.out.r.c2;have x3:=T.out.c3;have x4:=T.out.c4;have x5:=T.out.c5
  have FX:=Lib.hid (root_fin (r:=r) Hb.out K4.out Hg.out T.out.r.hz T.out.r.hq T.out.hz T.out.hq);rw [← ER.out] at FX;have r0:=(K4.out.cell 0).trans rfl;have r1:=(K4.out.cell 1).trans rfl;have r2:=(K4.out.cell 2).trans rfl;have r3:=(K4.out.cell 3).trans rfl;have r4:=(K4.out.cell 4).trans rfl;have r5:=(K4.out.cell 5).trans rfl;have s0:=K4.out.frozen 0;have s1:=K4.out.frozen 1;have s2:=K4.out.frozen 2;have s3:=K4.out.frozen 3;have s4:=K4.out.frozen 4;have s5:=K4.out.frozen 5;clear K4 Hb;go_wp2_with fail;refine bodyPost_ret (v:=.agg #[.bool n,.slice A l c,.slice B m d,.bool n',.slice A' l' c',.slice B' m' d']) (by simp [results,Tryz.results71,go_sem,r0,r1,r2,r3,r4,r5]) rfl FX.out
 have b1:(fcmp r.1 r.2 == 0)=false:=by rw [beq_eq_false_iff_ne];exact c0
 have hR:=HR.out
 rw [if_neg c0] at hR
 replace HR:=Lib.hid hR
 clear c0 hR
 have x0:=T.out.r.c0;have x1:=T.out.r.c1;have x2:=T.out.r.c2;have x3:=T.out.c3;have x4:=T.out.c4;have x5:=T.out.c5
 go_wp2_with fail
 refine (mid_any _ _ _ _ _ _ _ _ _ _ _ _ _ _ _ _ _ _ _ T.out.r.hz T.out.r.hq T.out.hz T.out.hq ha.fz ha.fq ha.p hb.fz hb.fq hb.p).mono ?_
 rintro e w2 ⟨⟨n5,A5,l5,c5,B5,m5,d5,rfl,h5,k5⟩,hb2⟩
 obtain ⟨M,hM⟩:∃ M,M=r.1.mid r.2:=⟨_,rfl⟩
 have h5':IntN w2 n5 A5 l5 c5 M.z:=by rw [hM];exact h5
 have k5':NatN w2 B5 m5 d5 M.q:=by rw [hM];exact k5
 rw [← hM] at hm pm
 have HM:=Lib.hid hM
 have o5:=below_new w2 (rbox n5 A5 l5 c5 B5 m5 d5)
 have b5:Below w1.heap.size w1 (w2.alloc (rbox n5 A5 l5 c5 B5 m5 d5)):=hb2.trans (o5.mono hb2.size)
 have R5:=Lib.hid (RBox.make h5' k5')
 replace HP:=Lib.hid (HP.out.below hI b5);replace T:=Lib.hid (T.out.move b5);replace K4:=Lib.hid (K4.out.below b5 K4.out.lt);replace Hb:=Lib.hid (Hb.out.trans ((b5).mono Hb.out.size))
 have a0:=R5.out.c0
 have a1:=R5.out.c1
 have a2:=R5.out.c2
 clear hb2 h5 k5 h5' k5' hM o5 b5 x0 x1 x2 x3 x4 x5
 go_wp2_with fail
 refine (signat_any hI _ _ _ Q _ _ _ _ _ _ _ _ _ _ HP.out pm.fit (by omega) R5.out.hz R5.out.hq hm.at.u hm.at.v hm.at.pos pm.ok hm.at.fz hm.at.fq).mono ?_
 rintro e w4 ⟨he,hb4⟩
 have he2:e=.returned (.int .i64 S):=by rw [HS.out,← HM.out];exact he
 subst he2
 clear he a0 a1 a2
 replace HP:=Lib.hid (HP.out.below hI hb4);replace T:=Lib.hid (T.out.move hb4);replace K4:=Lib.hid (K4.out.below hb4 K4.out.lt);replace Hb:=Lib.hid (Hb.out.trans ((hb4).mono Hb.out.size))
 replace R5:=Lib.hid (R5.out.move hb4)
 clear hb4
 by_cases c2:S=0
 ·have b2:(S == 0)=true:=by rw [c2];rfl
  have ER:=Lib.hid (show R=(M.nf,M.nf) by rw [HR.out,← HS.out,if_pos c2,HM.out])
  clear c2
  have a0:=R5.out.c0
  have a1:=R5.out.c1
  have a2:=R5.out.c2
  go_wp2_with fail
  refine (exact_rt R5.out.hz R5.out.hq hm).mono ?_
  rintro e w6 ⟨⟨n6,A6,l6,c6,B6,m6,d6,n7,A7,l7,c7,B7,m7,d7,rfl,h6,k6,h7,k7⟩,hb6⟩
  replace HP:=Lib.hid (HP.out.below hI hb6);replace T:=Lib.hid (T.out.move hb6);replace K4:=Lib.hid (K4.out.below hb6 K4.out.lt);replace Hb:=Lib.hid (Hb.out.trans ((hb6).mono Hb.out.size))
  have H6:=Lib.hid (And.intro (And.intro h6 k6) (And.intro h7 k7))
  clear hb6 h6 k6 h7 k7 R5 a0 a1 a2 T HP
  have FX:=Lib.hid (root_fin (r:=(M.nf,M.nf)) Hb.out K4.out Hg.out H6.out.1.1 H6.out.1.2 H6.out.2.1 H6.out.2.2);rw [← ER.out] at FX;have r0:=(K4.out.cell 0).trans rfl;have r1:=(K4.out.cell 1).trans rfl;have r2:=(K4.out.cell 2).trans rfl;have r3:=(K4.out.cell 3).trans rfl;have r4:=(K4.out.cell 4).trans rfl;have r5:=(K4.out.cell 5).trans rfl;have s0:=K4.out.frozen 0;have s1:=K4.out.frozen 1;have s2:=K4.out.frozen 2;have s3:=K4.out.frozen 3;have s4:=K4.out.frozen 4;have s5:=K4.out.frozen 5;clear K4 Hb;go_wp2_with fail;refine bodyPost_ret (v:=.agg #[.bool n6,.slice A6 l6 c6,.slice B6 m6 d6,.bool n7,.slice A7 l7 c7,.slice B7 m7 d7]) (by simp [results,Tryz.results71,go_sem,r0,r1,r2,r3,r4,r5]) rfl FX.out
 have b2:(S == 0)=false:=by rw [beq_eq_false_iff_ne];exact c2
 have hR:=HR.out
 rw [← HS.out,if_neg c2,← HS2.out,← HM.out] at hR
 replace HR:=Lib.hid hR
 clear c2 hR
 have x0:=T.out.r.c0;have x1:=T.out.r.c1;have x2:=T.out.r.c2;have x3:=T.out.c3;have x4:=T.out.c4;have x5:=T.out.c5
 go_wp2_with fail
 refine (signat_any hI _ _ _ Q _ _ _ _ _ _ _ _ _ _ HP.out pa.fit (by omega) T.out.r.hz T.out.r.hq ha.at.u ha.at.v ha.at.pos pa.ok ha.at.fz ha.at.fq).mono ?_
 rintro e w6 ⟨he,hb6⟩
 have he2:e=.returned (.int .i64 S2):=by rw [HS2.out];exact he
 subst he2
 clear he
 clear x0 x1 x2 x3 x4 x5
 replace HP:=Lib.hid (HP.out.below hI hb6);replace T:=Lib.hid (T.out.move hb6);replace K4:=Lib.hid (K4.out.below hb6 K4.out.lt);replace Hb:=Lib.hid (Hb.out.trans ((hb6).mono Hb.out.size))
 replace R5:=Lib.hid (R5.out.move hb6)
 clear hb6
 by_cases c3:S=S2
 ·have b3:(S == S2)=true:=by rw [c3];simp
  have ER:=Lib.hid (show R=(M,r.2) by rw [HR.out,if_pos c3])
  clear c3
  have x0:=T.out.r.c0;have x1:=T.out.r.c1;have x2:=T.out.r.c2;have x3:=T.out.c3;have x4:=T.out.c4;have x5:=T.out.c5
  have a0:=R5.out.c0
  have a1:=R5.out.c1
  have a2:=R5.out.c2
  have FX:=Lib.hid (root_fin (r:=(M,r.2)) Hb.out K4.out Hg.out R5.out.hz R5.out.hq T.out.hz T.out.hq);rw [← ER.out] at FX;have r0:=(K4.out.cell 0).trans rfl;have r1:=(K4.out.cell 1).trans rfl;have r2:=(K4.out.cell 2).trans rfl;have r3:=(K4.out.cell 3).trans rfl;have r4:=(K4.out.cell 4).trans rfl;have r5:=(K4.out.cell 5).trans rfl;have s0:=K4.out.frozen 0;have s1:=K4.out.frozen 1;have s2:=K4.out.frozen 2;have s3:=K4.out.frozen 3;have s4:=K4.out.frozen 4;have s5:=K4.out.frozen 5;clear K4 Hb;go_wp2_with fail;refine bodyPost_ret (v:=.agg #[.bool n5,.slice A5 l5 c5,.slice B5 m5 d5,.bool n',.slice A' l' c',.slice B' m' d']) (by simp [results,Tryz.results71,go_sem,r0,r1,r2,r3,r4,r5]) rfl FX.out
 ·have b3:(S == S2)=false:=by rw [beq_eq_false_iff_ne];exact c3
  have ER:=Lib.hid (show R=(r.1,M) by rw [HR.out,if_neg c3])
  clear c3
  have x0:=T.out.r.c0;have x1:=T.out.r.c1;have x2:=T.out.r.c2;have x3:=T.out.c3;have x4:=T.out.c4;have x5:=T.out.c5
  have a0:=R5.out.c0
  have a1:=R5.out.c1
  have a2:=R5.out.c2
  have FX:=Lib.hid (root_fin (r:=(r.1,M)) Hb.out K4.out Hg.out T.out.r.hz T.out.r.hq R5.out.hz R5.out.hq);rw [← ER.out] at FX;have r0:=(K4.out.cell 0).trans rfl;have r1:=(K4.out.cell 1).trans rfl;have r2:=(K4.out.cell 2).trans rfl;have r3:=(K4.out.cell 3).trans rfl;have r4:=(K4.out.cell 4).trans rfl;have r5:=(K4.out.cell 5).trans rfl;have s0:=K4.out.frozen 0;have s1:=K4.out.frozen 1;have s2:=K4.out.frozen 2;have s3:=K4.out.frozen 3;have s4:=K4.out.frozen 4;have s5:=K4.out.frozen 5;clear K4 Hb;go_wp2_with fail;refine bodyPost_ret (v:=.agg #[.bool n,.slice A l c,.slice B m d,.bool n5,.slice A5 l5 c5,.slice B5 m5 d5]) (by simp [results,Tryz.results71,go_sem,r0,r1,r2,r3,r4,r5]) rfl FX.out
end Go.Proofs.YtbfddopopajgaaaGreat
namespace Go.Proofs.YtbfddopopajgaaaGreat
open Go Go.RowKit
def cmpr (Q:List Int) (r:Fq×Fq) (a:Fq):Int :=
 if fcmp r.1 r.2=0 then fcmp r.1 a else if fcmp a r.1≤0 then 1 else if 0≤fcmp a r.2 then -1 else if a.sgn Q=0 then 0 else if a.sgn Q=r.1.sgn Q then 1 else -1
theorem rat_lec2 {a b:Rat} (h:a≤b):a<b∨a=b:=by
 by_cases c:a<b
 ·exact .inl c
 ·exact .inr (by grind)
section
variable {Q f:List Int} {r:Fq×Fq} {a:Fq} {x:Pt}
noncomputable def pcmp (x a:Pt):Int:=open Classical in if x<a then -1 else if x=a then 0 else 1
theorem pcmp_lt (h:x<a.p):pcmp x a.p=-1:=by unfold pcmp;rw [if_pos h]
theorem pcmp_gt {y:Pt} (h:y<x):pcmp x y=1:=by
 unfold pcmp
 rw [if_neg (Pt.asym h),if_neg (fun e=>Pt.irr _ (e ▸ h))]
theorem pcmp_eq {y:Pt} (h:x=y):pcmp x y=0:=by
 unfold pcmp
 rw [h,if_neg (Pt.irr _),if_pos rfl]
theorem fcmp_pt {b:Fq} (ha:0<a.q) (hb:0<b.q):fcmp a b=pcmp a.p b.p:=by
 rcases fcmp_or a b with h | h | h
 ·rw [h];exact (pcmp_lt (x:=a.p) (a:=b) (Pt.of_lt_of.2 ((fcmp_lt ha hb).1 h))).symm
 ·rw [h,pcmp_eq]
  unfold Fq.p
  rw [(fcmp_zero ha hb).1 h]
 ·rw [h];exact (pcmp_gt (x:=a.p) (y:=b.p) (Pt.of_lt_of.2 ((fcmp_gt ha hb).1 h))).symm
theorem cmpr_spec (h0:plen Q≠0) (hs:∀ x,mult x Q≤1) (e:∀ y,sgp f y=0↔sgp Q y=0) (p1:0<r.1.q) (p2:0<r.2.q) (pa:0<a.q) (h:IsoV f x r.1 r.2):cmpr Q r a=pcmp x a.p:=by
 have hle:=h.le
 unfold cmpr
 by_cases c:fcmp r.1 r.2=0
 ·rw [if_pos c,fcmp_pt p1 pa]
  have:=(fcmp_zero p1 p2).1 c
  rcases h.2 with h2 | h2
  ·rw [h2.2]
  ·grind
 rw [if_neg c]
 have hlt:r.1.v<r.2.v:=by
  have:r.1.v≠r.2.v:=fun e=>c ((fcmp_zero p1 p2).2 e)
  grind
 rcases h.2 with h2 | ⟨_,n1,n2,x1,x2,hu⟩
 ·grind
 by_cases c1:fcmp a r.1≤0
 ·rw [if_pos c1]
  have:¬ r.1.v<a.v:=fun h=>by have:=(fcmp_pos pa p1).2 h;omega
  rcases rat_lec2 (Rat.not_lt.1 this) with h3 | h3
  ·exact (pcmp_gt (Pt.lt_trans (Pt.of_lt_of.2 h3) x1)).symm
  ·exact (pcmp_gt (by unfold Fq.p;rw [h3];exact x1)).symm
 rw [if_neg c1]
 have ha1:r.1.v<a.v:=(fcmp_pos pa p1).1 (by omega)
 by_cases c2:0≤fcmp a r.2
 ·rw [if_pos c2]
  have:¬ a.v<r.2.v:=fun h=>by have:=(fcmp_neg pa p2).2 h;omega
  rcases rat_lec2 (Rat.not_lt.1 this) with h3 | h3
  ·exact (pcmp_lt (Pt.lt_trans x2 (Pt.of_lt_of.2 h3))).symm
  ·exact (pcmp_lt (by unfold Fq.p;rw [← h3];exact x2)).symm
 rw [if_neg c2]
 have ha2:a.v<r.2.v:=(fcmp_neg pa p2).1 (by omega)
 rw [sgn_pt pa,sgn_pt p1]
 by_cases c3:sgp Q a.p=0
 ·rw [if_pos c3]
  exact (pcmp_eq (h.at_ hlt ha1 ha2 ((e _).2 c3))).symm
 rw [if_neg c3]
 have hc:=h.cut h0 hs e hlt ha1 ha2 c3
 by_cases c4:sgp Q a.p=sgp Q r.1.p
 ·rw [if_pos c4] at hc ⊢
  rcases hc.2 with h3 | h3
  ·grind
  ·exact (pcmp_gt h3.2.2.2.1).symm
 ·rw [if_neg c4] at hc ⊢
  rcases hc.2 with h3 | h3
  ·grind
  ·exact (pcmp_lt h3.2.2.2.2.1).symm
end
set_option maxRecDepth 100000 in
set_option maxHeartbeats 4000000 in
theorem compare_any {I:IntPred} (hI:IK I) {w:World} {Ap:Option Addr} {lp cp:Nat} {Q:List Int} {r:Fq×Fq} {a:Fq} {n:Bool} {A:Option Addr} {l c:Nat} {B:Option Addr} {m d:Nat} {n':Bool} {A':Option Addr} {l' c':Nat} {B':Option Addr} {m' d':Nat} {na:Bool} {Aa:Option Addr} {la ca:Nat} {Ba:Option Addr} {ma da:Nat}
  (hp:PolyP I w Ap lp cp Q) (hlp:lp≤1000000) (hQ:∀ x,FqB x→PoOK x.z x.q Q) (hz:IntN w n A l c r.1.z) (hq:NatN w B m d r.1.q) (hz':IntN w n' A' l' c' r.2.z) (hq':NatN w B' m' d' r.2.q) (hza:IntN w na Aa la ca a.z) (hqa:NatN w Ba ma da a.q) (ha:FqB r.1) (hb:FqB r.2) (hc:FqB a) :
  Calls Tryz.prog 67 #[.slice Ap lp cp,.agg #[.bool n,.slice A l c,.slice B m d,.bool n',.slice A' l' c',.slice B' m' d'],.agg #[.bool na,.slice Aa la ca,.slice Ba ma da]] w fun e w'=>e=.returned (.int .i64 (cmpr Q r a))∧Below w.heap.size w w':=by
 have o1:=below_new w (tbox n A l c B m d n' A' l' c' B' m' d')
 have o2:=below_new (w.alloc (tbox n A l c B m d n' A' l' c' B' m' d')) (rbox na Aa la ca Ba ma da)
 have b2:Below w.heap.size w ((w.alloc (tbox n A l c B m d n' A' l' c' B' m' d')).alloc (rbox na Aa la ca Ba ma da)):=o1.alloc (by simp) _
 have T:=Lib.hid ((TBox.make hz hq hz' hq').move o2)
 have r2:=RBox.make (hza.below o1) (hqa.below o1)
 simp only [World.size_alloc] at r2
 have R:=Lib.hid r2
 have HP:=Lib.hid (hp.below hI b2)
 have Hb:=Lib.hid b2
 have p1:=ha.p
 have p2:=hb.p
 have p3:=hc.p
 have pa:=hQ _ ha
 have pc:=hQ _ hc
 obtain ⟨V,hV⟩:∃ V,V=cmpr Q r a:=⟨_,rfl⟩
 rw [← hV]
 unfold cmpr at hV
 have HV:=Lib.hid hV
 obtain ⟨S,hS⟩:∃ S,S=a.sgn Q:=⟨_,rfl⟩
 obtain ⟨S2,hS2⟩:∃ S,S=r.1.sgn Q:=⟨_,rfl⟩
 have HS:=Lib.hid hS
 have HS2:=Lib.hid hS2
 clear hz hq hz' hq' hza hqa o1 o2 b2 r2 hp hV hS hS2 hQ
 go_enter Tryz.func67,Tryz.ntmps67
 have x0:=T.out.r.c0;have x1:=T.out.r.c1;have x2:=T.out.r.c2;have x3:=T.out.c3;have x4:=T.out.c4;have x5:=T.out.c5;have y0:=R.out.c0;have y1:=R.out.c1;have y2:=R.out.c2
 go_wp2_with fail
 refine (isexact_any T.out.r.hz T.out.r.hq T.out.hz T.out.hq ha hb).mono ?_
 rintro e w1 ⟨rfl,hb1⟩
 clear x0 x1 x2 x3 x4 x5 y0 y1 y2
 replace HP:=Lib.hid (HP.out.below hI hb1);replace T:=Lib.hid (T.out.move hb1);replace R:=Lib.hid (R.out.move hb1);replace Hb:=Lib.hid (Hb.out.trans ((hb1).mono Hb.out.size))
 clear hb1
 by_cases c0:fcmp r.1 r.2=0
 ·have b1:(fcmp r.1 r.2 == 0)=true:=by rw [c0];rfl
  have EV:=Lib.hid (show V=fcmp r.1 a by rw [HV.out,if_pos c0])
  clear c0
  have x0:=T.out.r.c0;have x1:=T.out.r.c1;have x2:=T.out.r.c2;have x3:=T.out.c3;have x4:=T.out.c4;have x5:=T.out.c5;have y0:=R.out.c0;have y1:=R.out.c1;have y2:=R.out.c2
  go_wp2_with fail
  refine (rcmp_any _ _ _ _ _ _ _ _ _ _ _ _ _ _ _ _ _ _ _ T.out.r.hz.at_ T.out.r.hq.at_ R.out.hz.at_ R.out.hq.at_ (by omega) (by omega) ha.fz ha.fq hc.fz hc.fq).mono ?_;rintro e w2 ⟨rfl,hb9⟩;clear x0 x1 x2 x3 x4 x5 y0 y1 y2;replace HP:=Lib.hid (HP.out.below hI hb9);replace T:=Lib.hid (T.out.move hb9);replace R:=Lib.hid (R.out.move hb9);replace Hb:=Lib.hid (Hb.out.trans ((hb9).mono Hb.out.size));clear hb9
  obtain ⟨C,hC⟩:∃ C,C=fcmp r.1 a:=⟨_,rfl⟩
  rw [show cmpz (r.1.z*(a.q:Int)) (a.z*(r.1.q:Int))=C from hC.symm]
  replace EV:=Lib.hid (EV.out.trans hC.symm)
  clear hC T R HP
  go_wp2;go_ret;exact ⟨(by first | (rw [EV.out];done) | (rw [EV.out];rfl)),Hb.out⟩
 have b1:(fcmp r.1 r.2 == 0)=false:=by rw [beq_eq_false_iff_ne];exact c0
 have hV:=HV.out
 rw [if_neg c0] at hV
 replace HV:=Lib.hid hV
 clear c0 hV
 have x0:=T.out.r.c0;have x1:=T.out.r.c1;have x2:=T.out.r.c2;have x3:=T.out.c3;have x4:=T.out.c4;have x5:=T.out.c5;have y0:=R.out.c0;have y1:=R.out.c1;have y2:=R.out.c2
 go_wp2_with fail
 refine (rcmp_any _ _ _ _ _ _ _ _ _ _ _ _ _ _ _ _ _ _ _ R.out.hz.at_ R.out.hq.at_ T.out.r.hz.at_ T.out.r.hq.at_ (by omega) (by omega) hc.fz hc.fq ha.fz ha.fq).mono ?_;rintro e w2 ⟨rfl,hb9⟩;clear x0 x1 x2 x3 x4 x5 y0 y1 y2;replace HP:=Lib.hid (HP.out.below hI hb9);replace T:=Lib.hid (T.out.move hb9);replace R:=Lib.hid (R.out.move hb9);replace Hb:=Lib.hid (Hb.out.trans ((hb9).mono Hb.out.size));clear hb9
 obtain ⟨C1,hC1⟩:∃ C,C=fcmp a r.1:=⟨_,rfl⟩
 rw [show cmpz (a.z*(r.1.q:Int)) (r.1.z*(a.q:Int))=C1 from hC1.symm]
 have hV:=HV.out
 rw [← hC1] at hV
 replace HV:=Lib.hid hV
 clear hC1 hV
 by_cases c1:C1≤0
 ·have b2:decide (C1≤0)=true:=decide_eq_true c1
  have EV:=Lib.hid (show V=1 by rw [HV.out,if_pos c1])
  clear c1 T R HP
  go_wp2;go_ret;exact ⟨(by first | (rw [EV.out];done) | (rw [EV.out];rfl)),Hb.out⟩
 have b2:decide (C1≤0)=false:=decide_eq_false c1
 have hV:=HV.out
 rw [if_neg c1] at hV
 replace HV:=Lib.hid hV
 clear c1 hV
 have x0:=T.out.r.c0;have x1:=T.out.r.c1;have x2:=T.out.r.c2;have x3:=T.out.c3;have x4:=T.out.c4;have x5:=T.out.c5;have y0:=R.out.c0;have y1:=R.out.c1;have y2:=R.out.c2
 go_wp2_with fail
 refine (rcmp_any _ _ _ _ _ _ _ _ _ _ _ _ _ _ _ _ _ _ _ R.out.hz.at_ R.out.hq.at_ T.out.hz.at_ T.out.hq.at_ (by omega) (by omega) hc.fz hc.fq hb.fz hb.fq).mono ?_;rintro e w3 ⟨rfl,hb9⟩;clear x0 x1 x2 x3 x4 x5 y0 y1 y2;replace HP:=Lib.hid (HP.out.below hI hb9);replace T:=Lib.hid (T.out.move hb9);replace R:=Lib.hid (R.out.move hb9);replace Hb:=Lib.hid (Hb.out.trans ((hb9).mono Hb.out.size));clear hb9
 obtain ⟨C2,hC2⟩:∃ C,C=fcmp a r.2:=⟨_,rfl⟩
 rw [show cmpz (a.z*(r.2.q:Int)) (r.2.z*(a.q:Int))=C2 from hC2.symm]
 have hV:=HV.out
 rw [← hC2] at hV
 replace HV:=Lib.hid hV
 clear hC2 hV
 by_cases c2:0≤C2
 ·have b3:decide (0≤C2)=true:=decide_eq_true c2
  have EV:=Lib.hid (show V=-1 by rw [HV.out,if_pos c2])
  clear c2 T R HP
  go_wp2;go_ret;exact ⟨(by first | (rw [EV.out];done) | (rw [EV.out];rfl)),Hb.out⟩
 have b3:decide (0≤C2)=false:=decide_eq_false c2
 have hV:=HV.out
 rw [if_neg c2,← HS.out,← HS2.out] at hV
 replace HV:=Lib.hid hV
 clear c2 hV
 have x0:=T.out.r.c0;have x1:=T.out.r.c1;have x2:=T.out.r.c2;have x3:=T.out.c3;have x4:=T.out.c4;have x5:=T.out.c5;have y0:=R.out.c0;have y1:=R.out.c1;have y2:=R.out.c2
 go_wp2_with fail
 refine (signat_any hI _ _ _ Q _ _ _ _ _ _ _ _ _ _ HP.out (pc).fit (by omega) R.out.hz R.out.hq (hc).at.u (hc).at.v (hc).at.pos (pc).ok (hc).at.fz (hc).at.fq).mono ?_;rintro e w4 ⟨he,hb9⟩;have he2:e=.returned (.int .i64 S):=(by rw [HS.out];exact he);subst he2;clear he;clear x0 x1 x2 x3 x4 x5 y0 y1 y2;replace HP:=Lib.hid (HP.out.below hI hb9);replace T:=Lib.hid (T.out.move hb9);replace R:=Lib.hid (R.out.move hb9);replace Hb:=Lib.hid (Hb.out.trans ((hb9).mono Hb.out.size));clear hb9
 by_cases c3:S=0
 ·have b4:(S == 0)=true:=by rw [c3];rfl
  have EV:=Lib.hid (show V=0 by rw [HV.out,if_pos c3])
  clear c3 T R HP
  go_wp2;go_ret;exact ⟨(by first | (rw [EV.out];done) | (rw [EV.out];rfl)),Hb.out⟩
 have b4:(S == 0)=false:=by rw [beq_eq_false_iff_ne];exact c3
 have hV:=HV.out
 rw [if_neg c3] at hV
 replace HV:=Lib.hid hV
 clear c3 hV
 have x0:=T.out.r.c0;have x1:=T.out.r.c1;have x2:=T.out.r.c2;have x3:=T.out.c3;have x4:=T.out.c4;have x5:=T.out.c5;have y0:=R.out.c0;have y1:=R.out.c1;have y2:=R.out.c2
 go_wp2_with fail
 refine (signat_any hI _ _ _ Q _ _ _ _ _ _ _ _ _ _ HP.out (pa).fit (by omega) T.out.r.hz T.out.r.hq (ha).at.u (ha).at.v (ha).at.pos (pa).ok (ha).at.fz (ha).at.fq).mono ?_;rintro e w5 ⟨he,hb9⟩;have he2:e=.returned (.int .i64 S2):=(by rw [HS2.out];exact he);subst he2;clear he;clear x0 x1 x2 x3 x4 x5 y0 y1 y2;replace HP:=Lib.hid (HP.out.below hI hb9);replace T:=Lib.hid (T.out.move hb9);replace R:=Lib.hid (R.out.move hb9);replace Hb:=Lib.hid (Hb.out.trans ((hb9).mono Hb.out.size));clear hb9
 by_cases c4:S=S2
 ·have b5:(S == S2)=true:=by rw [c4];simp
  have EV:=Lib.hid (show V=1 by rw [HV.out,if_pos c4])
  clear c4 T R HP
  go_wp2;go_ret;exact ⟨(by first | (rw [EV.out];done) | (rw [EV.out];rfl)),Hb.out⟩
 ·have b5:(S == S2)=false:=by rw [beq_eq_false_iff_ne];exact c4
  have EV:=Lib.hid (show V=-1 by rw [HV.out,if_neg c4])
  clear c4 T R HP
  go_wp2;go_ret;exact ⟨(by first | (rw [EV.out];done) | (rw [EV.out];rfl)),Hb.out⟩
end Go.Proofs.YtbfddopopajgaaaGreat
namespace Go.Proofs.YtbfddopopajgaaaGreat
open Go Go.RowKit
noncomputable def cmpV (f:List Int) (r:Fq×Fq) (a:Fq):Int:=bif vld 2 f r.1 r.2 then cmpr (qpart f) r a else 0
def errV (V:Bool):Int:=bif V then 0 else 1
set_option maxRecDepth 100000 in
set_option maxHeartbeats 4000000 in
theorem rcmpr_any {I:IntPred} (hI:IK I) {w:World} {Af:Option Addr} {lf cf:Nat} {f:List Int} {r:Fq×Fq} {a:Fq} {n:Bool} {A:Option Addr} {l c:Nat} {B:Option Addr} {m d:Nat} {n':Bool} {A':Option Addr} {l' c':Nat} {B':Option Addr} {m' d':Nat} {na:Bool} {Aa:Option Addr} {la ca:Nat} {Ba:Option Addr} {ma da:Nat}
  (hf:PolyP I w Af lf cf f) (hl:f.length≤10) (h9:P9 f) (hz:IntN w n A l c r.1.z) (hq:NatN w B m d r.1.q) (hz':IntN w n' A' l' c' r.2.z) (hq':NatN w B' m' d' r.2.q) (hza:IntN w na Aa la ca a.z) (hqa:NatN w Ba ma da a.q) (ha:FqB r.1) (hb:FqB r.2) (hc:FqB a) :
  Calls Tryz.prog 26 #[.slice Af lf cf,.agg #[.bool n,.slice A l c,.slice B m d,.bool n',.slice A' l' c',.slice B' m' d'],.agg #[.bool na,.slice Aa la ca,.slice Ba ma da]] w fun e w'=>e=.returned (.tuple #[.int .i64 (cmpV f r a),.int .i64 (errV (vld 2 f r.1 r.2))])∧Below w.heap.size w w':=by
 have hlf:lf≤10:=by have:=hf.length;omega
 have o1:=below_new w (tbox n A l c B m d n' A' l' c' B' m' d')
 have o2:=below_new (w.alloc (tbox n A l c B m d n' A' l' c' B' m' d')) (rbox na Aa la ca Ba ma da)
 have b2:Below w.heap.size w ((w.alloc (tbox n A l c B m d n' A' l' c' B' m' d')).alloc (rbox na Aa la ca Ba ma da)):=o1.alloc (by simp) _
 have T:=Lib.hid ((TBox.make hz hq hz' hq').move o2)
 have r2:=RBox.make (hza.below o1) (hqa.below o1)
 simp only [World.size_alloc] at r2
 have R:=Lib.hid r2
 have HP:=Lib.hid (hf.below hI b2)
 have Hb:=Lib.hid b2
 obtain ⟨V,hV⟩:∃ V,V=vld 2 f r.1 r.2:=⟨_,rfl⟩
 obtain ⟨X,hX⟩:∃ X,X=cmpV f r a:=⟨_,rfl⟩
 rw [← hV,← hX]
 unfold cmpV at hX
 rw [← hV] at hX
 have HX:=Lib.hid hX
 have HV:=Lib.hid hV
 clear hz hq hz' hq' hza hqa o1 o2 b2 r2 hf hV hX
 go_enter Tryz.func26,Tryz.ntmps26
 have x0:=T.out.r.c0;have x1:=T.out.r.c1;have x2:=T.out.r.c2;have x3:=T.out.c3;have x4:=T.out.c4;have x5:=T.out.c5;have y0:=R.out.c0;have y1:=R.out.c1;have y2:=R.out.c2
 go_wp2_with fail
 refine (valid_any hI _ _ _ f r.1 r.2 _ _ _ _ _ _ _ _ _ _ _ _ _ _ _ HP.out hl h9 T.out.r.hz T.out.r.hq T.out.hz T.out.hq ha hb).mono ?_
 rintro e w1 ⟨he,hb1⟩
 have he2:e=.returned (.bool V):=by rw [HV.out];exact he
 subst he2
 clear he
 clear x0 x1 x2 x3 x4 x5 y0 y1 y2
 replace HP:=Lib.hid (HP.out.below hI hb1);replace T:=Lib.hid (T.out.move hb1);replace R:=Lib.hid (R.out.move hb1);replace Hb:=Lib.hid (Hb.out.trans ((hb1).mono Hb.out.size))
 clear hb1
 cases V with
 | false =>
   have EX:=Lib.hid (show X=0 by rw [HX.out];rfl)
   go_wp2_with fail
   refine bodyPost_ret (v:=.tuple #[.int .i64 0,.int .i64 1]) (by simp [results,Tryz.results26,go_sem]) rfl ⟨by rw [EX.out];rfl,Hb.out⟩
 | true =>
   obtain ⟨wb,hwb⟩:∃ wb,wb=w1:=⟨_,rfl⟩
   obtain ⟨g1,hg1⟩:∃ g,g=w.heap.size:=⟨_,rfl⟩
   obtain ⟨g2,hg2⟩:∃ g,g=w.heap.size+1:=⟨_,rfl⟩
   rw [← hwb] at T R HP Hb ⊢
   rw [← hg1] at T
   rw [← hg2] at R
   rw [← hg2,← hg1]
   have l1:=T.out.r.lt
   have l2:=R.out.lt
   clear hwb hg1 hg2
   have x0:=T.out.r.c0;have x1:=T.out.r.c1;have x2:=T.out.r.c2;have x3:=T.out.c3;have x4:=T.out.c4;have x5:=T.out.c5;have y0:=R.out.c0;have y1:=R.out.c1;have y2:=R.out.c2
   have h0:plen f≠0:=fun h0=>by have:=HV.out;rw [vld_nil h0 2 (by omega)] at this;cases this
   have hQ:∀ x,FqB x→PoOK x.z x.q (qpart f):=fun x hx=>h9.part.at (by rw [← h9.part_t,ptrim_length];have:=h9.part_l;have:=h9.len;omega) hx.z hx.q
   have hql:(qpart f).length≤10:=by rw [← h9.part_t,ptrim_length];have:=h9.part_l;have:=h9.len;omega
   obtain ⟨Q,hQe⟩:∃ Q,Q=qpart f:=⟨_,rfl⟩
   rw [← hQe] at hQ hql
   have HQ:=Lib.hid hQ
   have HQe:=Lib.hid hQe
   have EX:=Lib.hid (show X=cmpr Q r a by rw [HX.out,hQe];rfl)
   clear h0 hQ hQe
   go_wp2_with fail
   refine wp_region_held_drew (S:=fun w'=>w'.cell? ⟨g1,0,none⟩=some (.bool n)∧w'.cell? ⟨g1,1,none⟩=some (.slice A l c)∧w'.cell? ⟨g1,2,none⟩=some (.slice B m d)∧w'.cell? ⟨g1,3,none⟩=some (.bool n')∧w'.cell? ⟨g1,4,none⟩=some (.slice A' l' c')∧w'.cell? ⟨g1,5,none⟩=some (.slice B' m' d')∧w'.cell? ⟨g2,0,none⟩=some (.bool na)∧w'.cell? ⟨g2,1,none⟩=some (.slice Aa la ca)∧w'.cell? ⟨g2,2,none⟩=some (.slice Ba ma da)) (by kernel_rfl) (by (try dsimp only);go_keep) (fun hHeld=>?_)
   (refine tk (i:=0) (v:=?_) rfl rfl (Or.inl ⟨by rfl,?_⟩) ?_;rotate_left;(focus (intro w hSw;(try dsimp only at hSw);go_simp;(try with_reducible rfl)));(simp only [put_lit,List.set]))
   (refine tk (i:=2) (v:=?_) rfl rfl (Or.inl ⟨by rfl,?_⟩) ?_;rotate_left;(focus (intro w hSw;(try dsimp only at hSw);go_simp;(try with_reducible rfl)));(simp only [put_lit,List.set]))
   (refine tk (i:=3) (v:=?_) rfl rfl (Or.inl ⟨by rfl,?_⟩) ?_;rotate_left;(focus (intro w hSw;(try dsimp only at hSw);go_simp;(try with_reducible rfl)));(simp only [put_lit,List.set]))
   (refine wpAnyH_ready (rs:=[1]) (by kernel_rfl) (by simp) ?_;refine AllReadyH.cons rfl (fun K hK=>?_) AllReadyH.nil;go_simp)
   refine (part_q hI _ _ _ f _ (HP.out.below hI Bel.go) h9.cp.fit.smp (fun _=>h9.q) (by omega)).mono ?_
   rintro e w4 ⟨A4,l4,c4,rfl,h4,hb4⟩
   rw [← HQe.out] at h4
   have hl4:l4≤10:=by have:=h4.length;omega
   have G4:=Lib.hid ((Below.trans Bel.go (hb4.mono (by simp<;>omega))):Below wb.heap.size wb w4)
   have H4:=Lib.hid h4
   obtain ⟨hcx,hfx⟩:=bcellS hb4;refine hK.out _ _ ?_ (fun _=>?_);(focus (((try dsimp only);repeat' apply And.intro)<;>(rw [hcx _ (by go_simp)];go_simp)));clear hHeld hK K hcx hfx;rename_i hHeld
   clear h4 hb4
   (refine wpAnyH_ready (rs:=[4]) (by kernel_rfl) (by simp) ?_;refine AllReadyH.cons rfl (fun K hK=>?_) AllReadyH.nil;go_simp)
   have T4:=T.out.move G4.out
   have R4:=R.out.move G4.out
   refine (compare_any ikN (r:=r) (a:=a) (H4.out.below ikN Bel.go) (by omega) HQ.out (T4.r.hz.below Bel.go) (T4.r.hq.below Bel.go) (T4.hz.below Bel.go) (T4.hq.below Bel.go) (R4.hz.below Bel.go) (R4.hq.below Bel.go) ha hb hc).mono ?_
   rintro e w5 ⟨he,hb5⟩
   have he2:e=.returned (.int .i64 X):=by rw [EX.out];exact he
   subst he2
   have G5:=Lib.hid (G4.out.trans (((Below.trans Bel.go (hb5.mono (by simp<;>omega))):Below w4.heap.size w4 w5).mono G4.out.size))
   obtain ⟨hcx,hfx⟩:=bcellS hb5;refine hK.out _ _ ?_ (fun _=>?_);(focus (((try dsimp only);repeat' apply And.intro)<;>(rw [hcx _ (by go_simp)];go_simp)));clear hHeld hK K hcx hfx;rename_i hHeld
   clear hb5 he T4 R4
   (refine tk (i:=5) (v:=?_) rfl rfl (Or.inl ⟨by rfl,?_⟩) ?_;rotate_left;(focus (intro w hSw;(try dsimp only at hSw);go_simp;(try with_reducible rfl)));(simp only [put_lit,List.set]))
   (refine tk (i:=6) (v:=?_) rfl rfl (Or.inl ⟨by rfl,?_⟩) ?_;rotate_left;(focus (intro w hSw;(try dsimp only at hSw);go_simp;(try with_reducible rfl)));(simp only [put_lit,List.set]))
   refine wpAnyH_done (by kernel_rfl) ?_ _
   replace Hb:=Lib.hid (Hb.out.trans (G5.out.mono Hb.out.size))
   clear hHeld T R HP G4 G5 H4
   clear x0 x1 x2 x3 x4 x5 y0 y1 y2
   go_wp2
   refine bodyPost_ret (v:=.tuple #[.int .i64 X,.int .i64 0]) (by simp [results,Tryz.results26,go_sem]) rfl ⟨by rfl,Hb.out⟩
end Go.Proofs.YtbfddopopajgaaaGreat
namespace Go.Proofs.YtbfddopopajgaaaGreat
open Go Go.RowKit
def RtErr (er:Int) (s:Fq×Fq) (e:Ending) (w:World):Prop :=
 ∃ n A l c B m d n' A' l' c' B' m' d',e=.returned (.tuple #[.agg #[.bool n,.slice A l c,.slice B m d,.bool n',.slice A' l' c',.slice B' m' d'],.int .i64 er])∧IntN w n A l c s.1.z∧NatN w B m d s.1.q∧IntN w n' A' l' c' s.2.z∧NatN w B' m' d' s.2.q
def z00:Fq×Fq:=(⟨0,0⟩,⟨0,0⟩)
theorem intn_zero (w:World):IntN w false none 0 0 0:=⟨NatN.zero _ _ _,by simp⟩
def nfr (r:Fq×Fq):Fq×Fq:=(r.1.nf,r.2.nf)
theorem root_err {w w9:World} {g t:Nat} {r:Fq×Fq} {n:Bool} {A:Option Addr} {l c:Nat} {B:Option Addr} {m d:Nat} {n':Bool} {A':Option Addr} {l' c':Nat} {B':Option Addr} {m' d':Nat} (er:Int) (hw:Below w.heap.size w w9) (hk:Blk w9 g t rz6) (hg:w.heap.size≤g) (hz:IntN w9 n A l c r.1.z) (hq:NatN w9 B m d r.1.q) (hz':IntN w9 n' A' l' c' r.2.z) (hq':NatN w9 B' m' d' r.2.q) :
  RtErr er r (.returned (.tuple #[.agg #[.bool n,.slice A l c,.slice B m d,.bool n',.slice A' l' c',.slice B' m' d'],.int .i64 er])) (pu6 w9 g (.bool n) (.slice A l c) (.slice B m d) (.bool n') (.slice A' l' c') (.slice B' m' d'))∧Below w.heap.size w (pu6 w9 g (.bool n) (.slice A l c) (.slice B m d) (.bool n') (.slice A' l' c') (.slice B' m' d')):=by
 have hf:=pu6_frs w9 g (.bool n) (.slice A l c) (.slice B m d) (.bool n') (.slice A' l' c') (.slice B' m' d')
 have nd:=rz6_ndb hk
 exact ⟨⟨n,A,l,c,B,m,d,n',A',l',c',B',m',d',rfl,hz.frs hf nd nd,hq.frs hf nd nd,hz'.frs hf nd nd,hq'.frs hf nd nd⟩,hf.mono hw hg hg hw.size⟩
set_option maxRecDepth 100000 in
set_option maxHeartbeats 8000000 in
theorem halve_any {I:IntPred} (hI:IK I) {w:World} {Af:Option Addr} {lf cf:Nat} {f:List Int} {r:Fq×Fq} {n:Bool} {A:Option Addr} {l c:Nat} {B:Option Addr} {m d:Nat} {n':Bool} {A':Option Addr} {l' c':Nat} {B':Option Addr} {m' d':Nat}
  (hf:PolyP I w Af lf cf f) (hl:f.length≤10) (h9:P9 f) (hz:IntN w n A l c r.1.z) (hq:NatN w B m d r.1.q) (hz':IntN w n' A' l' c' r.2.z) (hq':NatN w B' m' d' r.2.q) (ha:FqB r.1) (hb:FqB r.2) (hm:vld 2 f r.1 r.2=true→FqB (r.1.mid r.2)) (hh:vld 2 f r.1 r.2=true→FqB (hlf (qpart f) r).1∧FqB (hlf (qpart f) r).2) :
  Calls Tryz.prog 30 #[.slice Af lf cf,.agg #[.bool n,.slice A l c,.slice B m d,.bool n',.slice A' l' c',.slice B' m' d']] w fun e w'=>RtErr (errV (vld 2 f r.1 r.2)) (bif vld 2 f r.1 r.2 then nfr (hlf (qpart f) r) else z00) e w'∧Below w.heap.size w w':=by
 have hlf':lf≤10:=by have:=hf.length;omega
 have o1:=below_new w (tbox n A l c B m d n' A' l' c' B' m' d')
 have o2:=below_new (w.alloc (tbox n A l c B m d n' A' l' c' B' m' d')) rtObj
 have b2:Below w.heap.size w ((w.alloc (tbox n A l c B m d n' A' l' c' B' m' d')).alloc rtObj):=o1.alloc (by simp) _
 have T:=Lib.hid ((TBox.make hz hq hz' hq').move o2)
 have K3:Blk ((w.alloc (tbox n A l c B m d n' A' l' c' B' m' d')).alloc rtObj) (w.alloc (tbox n A l c B m d n' A' l' c' B' m' d')).heap.size 44 rz6:=Blk.new _ _ _
 simp only [World.size_alloc] at K3
 have K4:=Lib.hid K3
 have HP:=Lib.hid (hf.below hI b2)
 have Hb:=Lib.hid b2
 have hl3:=K3.lt
 obtain ⟨V,hV⟩:∃ V,V=vld 2 f r.1 r.2:=⟨_,rfl⟩
 rw [← hV] at hm hh ⊢
 have HV:=Lib.hid hV
 have HM:=Lib.hid hm
 have HH:=Lib.hid hh
 clear hz hq hz' hq' o1 o2 b2 hf hV K3 hm hh
 go_enter Tryz.func30,Tryz.ntmps30
 have x0:=T.out.r.c0;have x1:=T.out.r.c1;have x2:=T.out.r.c2;have x3:=T.out.c3;have x4:=T.out.c4;have x5:=T.out.c5
 go_wp2_with fail
 refine (valid_any hI _ _ _ f r.1 r.2 _ _ _ _ _ _ _ _ _ _ _ _ _ _ _ HP.out hl h9 T.out.r.hz T.out.r.hq T.out.hz T.out.hq ha hb).mono ?_
 rintro e w1 ⟨he,hb1⟩
 have he2:e=.returned (.bool V):=by rw [HV.out];exact he
 subst he2
 clear he
 clear x0 x1 x2 x3 x4 x5
 replace HP:=Lib.hid (HP.out.below hI hb1);replace T:=Lib.hid (T.out.move hb1);replace K4:=Lib.hid (K4.out.below hb1 K4.out.lt);replace Hb:=Lib.hid (Hb.out.trans ((hb1).mono Hb.out.size))
 clear hb1
 obtain ⟨wb,hwb⟩:∃ wb,wb=w1:=⟨_,rfl⟩
 obtain ⟨g1,hg1⟩:∃ g,g=w.heap.size:=⟨_,rfl⟩
 obtain ⟨g3,hg3⟩:∃ g,g=w.heap.size+1:=⟨_,rfl⟩
 rw [← hwb] at T K4 HP Hb ⊢
 rw [← hg1] at T
 rw [← hg3] at K4
 rw [← hg3,← hg1]
 have l1:=T.out.r.lt
 have l3:=K4.out.lt
 have Hg:=Lib.hid (show w.heap.size≤g3 by omega)
 have ng1:g1≠g3:=by omega
 have ng2:g3≠g1:=by omega
 clear hwb hg1 hg3 hl3
 cases V with
 | false =>
   have FX:=Lib.hid (root_err (r:=z00) 1 Hb.out K4.out Hg.out (intn_zero _) (NatN.zero _ none 0) (intn_zero _) (NatN.zero _ none 0))
   have r0:=(K4.out.cell 0).trans rfl;have r1:=(K4.out.cell 1).trans rfl;have r2:=(K4.out.cell 2).trans rfl;have r3:=(K4.out.cell 3).trans rfl;have r4:=(K4.out.cell 4).trans rfl;have r5:=(K4.out.cell 5).trans rfl;have s0:=K4.out.frozen 0;have s1:=K4.out.frozen 1;have s2:=K4.out.frozen 2;have s3:=K4.out.frozen 3;have s4:=K4.out.frozen 4;have s5:=K4.out.frozen 5
   clear K4 Hb T HP
   go_wp2_with fail
   refine bodyPost_ret (v:=.tuple #[.agg rz6,.int .i64 1]) (by simp [results,Tryz.results30,go_sem,r0,r1,r2,r3,r4,r5]) rfl FX.out
 | true =>
   have x0:=T.out.r.c0;have x1:=T.out.r.c1;have x2:=T.out.r.c2;have x3:=T.out.c3;have x4:=T.out.c4;have x5:=T.out.c5
   have hmm:=HM.out rfl
   obtain ⟨hh1,hh2⟩:=HH.out rfl
   have hQ:∀ x,FqB x→PoOK x.z x.q (qpart f):=fun x hx=>h9.part.at (by rw [← h9.part_t,ptrim_length];have:=h9.part_l;have:=h9.len;omega) hx.z hx.q
   have hql:(qpart f).length≤10:=by rw [← h9.part_t,ptrim_length];have:=h9.part_l;have:=h9.len;omega
   obtain ⟨Q,hQe⟩:∃ Q,Q=qpart f:=⟨_,rfl⟩
   rw [← hQe] at hQ hql hh1 hh2
   have HQ:=Lib.hid hQ
   have HQe:=Lib.hid hQe
   have EX:=Lib.hid (show nfr (hlf Q r)=nfr (hlf (qpart f) r) by rw [hQe])
   clear hQ hQe
   go_wp2_with fail
   refine wp_region_held_drew (S:=fun w'=>w'.cell? ⟨g1,0,none⟩=some (.bool n)∧w'.cell? ⟨g1,1,none⟩=some (.slice A l c)∧w'.cell? ⟨g1,2,none⟩=some (.slice B m d)∧w'.cell? ⟨g1,3,none⟩=some (.bool n')∧w'.cell? ⟨g1,4,none⟩=some (.slice A' l' c')∧w'.cell? ⟨g1,5,none⟩=some (.slice B' m' d')) (by kernel_rfl) (by (try dsimp only);go_keep) (fun hHeld=>?_)
   (refine tk (i:=0) (v:=?_) rfl rfl (Or.inl ⟨by rfl,?_⟩) ?_;rotate_left;(focus (intro w hSw;(try dsimp only at hSw);go_simp;(try with_reducible rfl)));(simp only [put_lit,List.set]))
   (refine tk (i:=2) (v:=?_) rfl rfl (Or.inl ⟨by rfl,?_⟩) ?_;rotate_left;(focus (intro w hSw;(try dsimp only at hSw);go_simp;(try with_reducible rfl)));(simp only [put_lit,List.set]))
   (refine wpAnyH_ready (rs:=[1]) (by kernel_rfl) (by simp) ?_;refine AllReadyH.cons rfl (fun K hK=>?_) AllReadyH.nil;go_simp)
   refine (part_q hI _ _ _ f _ (HP.out.below hI Bel.go) h9.cp.fit.smp (fun _=>h9.q) (by omega)).mono ?_
   rintro e w4 ⟨A4,l4,c4,rfl,h4,hb4⟩
   rw [← HQe.out] at h4
   have hl4:l4≤10:=by have:=h4.length;omega
   have G4:=Lib.hid ((Below.trans Bel.go (hb4.mono (by simp<;>omega))):Below wb.heap.size wb w4)
   have H4:=Lib.hid h4
   obtain ⟨hcx,hfx⟩:=bcellS hb4;refine hK.out _ _ ?_ (fun _=>?_);(focus (((try dsimp only);repeat' apply And.intro)<;>(rw [hcx _ (by go_simp)];go_simp)));clear hHeld hK K hcx hfx;rename_i hHeld
   clear h4 hb4
   (refine wpAnyH_ready (rs:=[3]) (by kernel_rfl) (by simp) ?_;refine AllReadyH.cons rfl (fun K hK=>?_) AllReadyH.nil;go_simp)
   have T4:=T.out.move G4.out
   refine (half_any ikN (r:=r) (H4.out.below ikN Bel.go) (by omega) HQ.out (T4.r.hz.below Bel.go) (T4.r.hq.below Bel.go) (T4.hz.below Bel.go) (T4.hq.below Bel.go) ha hb hmm).mono ?_
   rintro e w5 ⟨⟨n5,A5,l5,c5,B5,m5,d5,n6,A6,l6,c6,B6,m6,d6,rfl,z1,z2,z3,z4⟩,hb5⟩
   have G5:=Lib.hid (G4.out.trans (((Below.trans Bel.go (hb5.mono (by simp<;>omega))):Below w4.heap.size w4 w5).mono G4.out.size))
   have Z:=Lib.hid (And.intro (And.intro z1 z2) (And.intro z3 z4))
   obtain ⟨hcx,hfx⟩:=bcellS hb5;refine hK.out _ _ ?_ (fun _=>?_);(focus (((try dsimp only);repeat' apply And.intro)<;>(rw [hcx _ (by go_simp)];go_simp)));clear hHeld hK K hcx hfx;rename_i hHeld
   clear hb5 T4 z1 z2 z3 z4 H4
   (refine wpAnyH_ready (rs:=[4]) (by kernel_rfl) (by simp) ?_;refine AllReadyH.cons rfl (fun K hK=>?_) AllReadyH.nil;go_simp)
   refine (rcopy_any (r:=hlf Q r) (Z.out.1.1.below Bel.go) (Z.out.1.2.below Bel.go) (Z.out.2.1.below Bel.go) (Z.out.2.2.below Bel.go) hh1 hh2).mono ?_
   rintro e w6 ⟨⟨n7,A7,l7,c7,B7,m7,d7,n8,A8,l8,c8,B8,m8,d8,rfl,z1,z2,z3,z4⟩,hb6⟩
   have G6:=Lib.hid (G5.out.trans (((Below.trans Bel.go (hb6.mono (by simp<;>omega))):Below w5.heap.size w5 w6).mono G5.out.size))
   have K6:=Lib.hid (K4.out.below G6.out K4.out.lt)
   have FX:=Lib.hid (root_err (r:=nfr (hlf Q r)) 0 (Hb.out.trans (G6.out.mono Hb.out.size)) K6.out Hg.out z1 z2 z3 z4)
   obtain ⟨hcx,hfx⟩:=bcellS hb6;refine hK.out _ _ ?_ (fun _=>?_);(focus (((try dsimp only);repeat' apply And.intro)<;>(rw [hcx _ (by go_simp)];go_simp)));clear hHeld hK K hcx hfx;rename_i hHeld
   clear hb6 z1 z2 z3 z4 Z G4 G5 K4
   have K4:=K6
   have r0:=(K4.out.cell 0).trans rfl;have r1:=(K4.out.cell 1).trans rfl;have r2:=(K4.out.cell 2).trans rfl;have r3:=(K4.out.cell 3).trans rfl;have r4:=(K4.out.cell 4).trans rfl;have r5:=(K4.out.cell 5).trans rfl;have s0:=K4.out.frozen 0;have s1:=K4.out.frozen 1;have s2:=K4.out.frozen 2;have s3:=K4.out.frozen 3;have s4:=K4.out.frozen 4;have s5:=K4.out.frozen 5
   refine wpAnyH_ready (rs:=[5]) (by kernel_rfl) (by simp) ?_
   refine AllReadyH.cons rfl (fun K hK=>?_) AllReadyH.nil;go_simp
   refine hK.out _ _ ?_ (fun _=>?_)
   ·((try dsimp only);repeat' apply And.intro)<;>go_simp
   clear hHeld hK K
   rename_i hHeld
   (refine tk (i:=6) (v:=?_) rfl rfl (Or.inl ⟨by rfl,?_⟩) ?_;rotate_left;(focus (intro w hSw;(try dsimp only at hSw);go_simp;(try with_reducible rfl)));(simp only [put_lit,List.set]))
   refine wpAnyH_done (by kernel_rfl) ?_ _
   clear hHeld T HP G6 Hb
   clear x0 x1 x2 x3 x4 x5
   go_wp2_with fail
   refine bodyPost_ret (v:=.tuple #[.agg #[.bool n7,.slice A7 l7 c7,.slice B7 m7 d7,.bool n8,.slice A8 l8 c8,.slice B8 m8 d8],.int .i64 0]) (by simp [results,Tryz.results30,go_sem,r0,r1,r2,r3,r4,r5]) rfl (by have h:=FX.out;rw [EX.out] at h;exact h)
end Go.Proofs.YtbfddopopajgaaaGreat
namespace Go.Proofs.YtbfddopopajgaaaGreat
open Go.RowKit
def Fq.sub (a b:Fq):Fq:=⟨(a.z*(b.q:Int)-b.z*(a.q:Int)).tdiv (Nat.gcd (a.z*(b.q:Int)-b.z*(a.q:Int)).natAbs (a.q*b.q)),a.q*b.q / Nat.gcd (a.z*(b.q:Int)-b.z*(a.q:Int)).natAbs (a.q*b.q)⟩
def Fq.add (a b:Fq):Fq:=⟨(a.z*(b.q:Int)+b.z*(a.q:Int)).tdiv (Nat.gcd (a.z*(b.q:Int)+b.z*(a.q:Int)).natAbs (a.q*b.q)),a.q*b.q / Nat.gcd (a.z*(b.q:Int)+b.z*(a.q:Int)).natAbs (a.q*b.q)⟩
theorem fit_one:Fit 1:=zb_fit (z:=1) (Nat.le_trans (by decide) zb_128)
theorem fit_onen:Fit ((1:Nat):Int):=fit_one
structure Sz (k:Nat) (a:Fq):Prop where
 p:0<a.q
 z:a.z.natAbs≤BB^k
 q:a.q≤BB^k
section
variable {a b:Fq} {j k:Nat}
theorem FqB.sz (h:FqB a):Sz ZK a:=⟨h.p,h.z,h.q⟩
theorem Sz.fz (h:Sz k a) (hk:k<FW):Fit a.z:=Nat.lt_of_le_of_lt h.z (Nat.pow_lt_pow_right (by rw [BB_eq];decide) hk)
theorem Sz.fq (h:Sz k a) (hk:k<FW):Fit (a.q:Int):=by
 unfold Fit
 rw [Int.natAbs_natCast]
 exact Nat.lt_of_le_of_lt h.q (Nat.pow_lt_pow_right (by rw [BB_eq];decide) hk)
theorem sz_le {Z D j k:Nat} (h1:Z≤BB^j) (h2:D≤BB^k):Z*D≤BB^(j+k):=by
 rw [Nat.pow_add]
 exact Nat.mul_le_mul h1 h2
theorem Sz.red (z:Int) (q:Nat) (h0:0<q) (hz:z.natAbs≤BB^k) (hq:q≤BB^k):Sz k ⟨rz z q,rq z q⟩:=by
 refine ⟨(nf_v (z:=z) h0).2.1,?_,?_⟩
 ·show (rz z q).natAbs≤_
  unfold rz
  rw [Int.natAbs_tdiv]
  exact Nat.le_trans (Nat.div_le_self _ _) hz
 ·show rq z q≤_
  unfold rq
  exact Nat.le_trans (Nat.div_le_self _ _) hq
theorem Sz.two (ha:Sz j a) (hb:Sz k b):(a.z*(b.q:Int)).natAbs+(b.z*(a.q:Int)).natAbs≤BB^(j+k+1)∧a.q*b.q≤BB^(j+k+1):=by
 have h1:=sz_le ha.z hb.q
 have h2:=sz_le hb.z ha.q
 have h3:=sz_le ha.q hb.q
 rw [Nat.add_comm k j] at h2
 have h4:2*BB^(j+k)≤BB^(j+k+1):=by
  rw [Nat.pow_succ,Nat.mul_comm]
  exact Nat.mul_le_mul_left _ (by rw [BB_eq];decide)
 rw [Int.natAbs_mul,Int.natAbs_mul,Int.natAbs_natCast,Int.natAbs_natCast]
 omega
theorem Sz.sub (ha:Sz j a) (hb:Sz k b):Sz (j+k+1) (a.sub b):=by
 obtain ⟨h1,h2⟩:=ha.two hb
 exact Sz.red _ _ (Nat.mul_pos ha.p hb.p) (by omega) h2
theorem Sz.add (ha:Sz j a) (hb:Sz k b):Sz (j+k+1) (a.add b):=by
 obtain ⟨h1,h2⟩:=ha.two hb
 exact Sz.red _ _ (Nat.mul_pos ha.p hb.p) (by omega) h2
theorem Fq.sub_v (ha:0<a.q) (hb:0<b.q):(a.sub b).v=a.v-b.v:=by
 have hq:0<a.q*b.q:=Nat.mul_pos ha hb
 have h1:=(Go.Proofs.YtbfddopopajgaaaGreat.nf_v (z:=a.z*(b.q:Int)-b.z*(a.q:Int)) hq).1
 refine Eq.trans (show _=((rz (a.z*(b.q:Int)-b.z*(a.q:Int)) (a.q*b.q):Int):Rat) / ((rq (a.z*(b.q:Int)-b.z*(a.q:Int)) (a.q*b.q):Nat):Rat) from rfl) ?_
 rw [h1]
 unfold Fq.v
 have x1:(0:Rat)<((a.q:Nat):Rat):=by exact_mod_cast ha
 have x2:(0:Rat)<((b.q:Nat):Rat):=by exact_mod_cast hb
 have x3:=Rat.mul_pos x1 x2
 rw [Rat.intCast_sub,Rat.intCast_mul,Rat.intCast_mul,Rat.natCast_mul,Rat.intCast_natCast,Rat.intCast_natCast,Rat.div_def,Rat.div_def,Rat.div_def]
 generalize ((a.q:Nat):Rat)=s at *
 generalize ((b.q:Nat):Rat)=t at *
 generalize ((a.z:Int):Rat)=u at *
 generalize ((b.z:Int):Rat)=v at *
 grind
theorem Fq.add_v (ha:0<a.q) (hb:0<b.q):(a.add b).v=a.v+b.v:=by
 have hq:0<a.q*b.q:=Nat.mul_pos ha hb
 have h1:=(Go.Proofs.YtbfddopopajgaaaGreat.nf_v (z:=a.z*(b.q:Int)+b.z*(a.q:Int)) hq).1
 refine Eq.trans (show _=((rz (a.z*(b.q:Int)+b.z*(a.q:Int)) (a.q*b.q):Int):Rat) / ((rq (a.z*(b.q:Int)+b.z*(a.q:Int)) (a.q*b.q):Nat):Rat) from rfl) ?_
 rw [h1]
 unfold Fq.v
 have x1:(0:Rat)<((a.q:Nat):Rat):=by exact_mod_cast ha
 have x2:(0:Rat)<((b.q:Nat):Rat):=by exact_mod_cast hb
 have x3:=Rat.mul_pos x1 x2
 rw [Rat.intCast_add,Rat.intCast_mul,Rat.intCast_mul,Rat.natCast_mul,Rat.intCast_natCast,Rat.intCast_natCast,Rat.div_def,Rat.div_def,Rat.div_def]
 generalize ((a.q:Nat):Rat)=s at *
 generalize ((b.q:Nat):Rat)=t at *
 generalize ((a.z:Int):Rat)=u at *
 generalize ((b.z:Int):Rat)=v at *
 grind
end
end Go.Proofs.YtbfddopopajgaaaGreat
namespace Go.Proofs.YtbfddopopajgaaaGreat
open Go.RowKit
theorem new_below (w:World) (o:Obj):Below w.heap.size w (w.alloc o):=(Below.refl _ _).alloc (Nat.le_refl _) _
theorem Fit.smnat {a:Nat} (h:Fit (a:Int)):Sm a:=by
 have:=h.sm
 unfold SmI at this
 rw [Int.natAbs_natCast] at this
 exact this
set_option maxRecDepth 100000 in
set_option maxHeartbeats 8000000 in
theorem rsub_any (n:Bool) (A:Option Addr) (l c:Nat) (B:Option Addr) (m d q:Nat) (z:Int) (n':Bool) (A':Option Addr) (l' c':Nat) (B':Option Addr) (m' d' q':Nat) (z':Int) (w:World) (hz:IntN w n A l c z) (hq:NatN w B m d q) (hz':IntN w n' A' l' c' z') (hq':NatN w B' m' d' q') (fz:Fit z) (fq:Fit (q:Int)) (h0:0<q) (fz':Fit z') (fq':Fit (q':Int)) (h0':0<q') :
 Calls Tryz.prog 77 #[.agg #[.bool n,.slice A l c,.slice B m d],.agg #[.bool n',.slice A' l' c',.slice B' m' d']] w fun e w'=>RatE ((z*(q':Int)-z'*(q:Int)).tdiv (Nat.gcd (z*(q':Int)-z'*(q:Int)).natAbs (q*q'))) (q*q' / Nat.gcd (z*(q':Int)-z'*(q:Int)).natAbs (q*q')) e w'∧Below w.heap.size w w':=by
 have sq:=fq.smnat
 have sq':=fq'.smnat
 obtain ⟨S1,hS1⟩:∃ S1,S1=z*(q':Int):=⟨_,rfl⟩
 obtain ⟨S2,hS2⟩:∃ S2,S2=z'*(q:Int):=⟨_,rfl⟩
 obtain ⟨DD,hDD⟩:∃ DD,DD=q*q':=⟨_,rfl⟩
 have ss1:SmI S1:=by rw [hS1];exact fz.sm2 fq'
 have ss2:SmI S2:=by rw [hS2];exact fz'.sm2 fq
 have ssum:Sm (S1.natAbs+S2.natAbs):=by
  have a1:=fz.mul fq'
  have a2:=fz'.mul fq
  rw [← hS1] at a1
  rw [← hS2] at a2
  refine sm_pow (k:=FW+FW+1) ?_ (by rw [FW_eq];decide)
  have a3:2*BB^(FW+FW)<BB^(FW+FW+1):=mulpow_lt (by omega)
  omega
 have sS:SmI (S1-S2):=Sm.mono ssum (by omega)
 have sqq:SmI ((q:Int)*(q':Int)):=fq.sm2 fq'
 have sD:SmI (DD:Int):=by rw [hDD,Int.natCast_mul];exact sqq
 have hD0:0<DD:=by rw [hDD];exact Nat.mul_pos h0 h0'
 rw [← hS1,← hS2,← hDD]
 have HS1:=Lib.hid hS1
 have HS2:=Lib.hid hS2
 have HDD:=Lib.hid hDD
 clear hS1 hS2 hDD
 have o1:=new_below w (rbox n A l c B m d)
 have o2:=new_below (w.alloc (rbox n A l c B m d)) (rbox n' A' l' c' B' m' d')
 have o3:=new_below ((w.alloc (rbox n A l c B m d)).alloc (rbox n' A' l' c' B' m' d')) (rbox false none 0 0 none 0 0)
 have b3:Below w.heap.size w (((w.alloc (rbox n A l c B m d)).alloc (rbox n' A' l' c' B' m' d')).alloc (rbox false none 0 0 none 0 0)):=(o1.alloc (by simp) _).alloc (by simp;omega) _
 have R1:=((RBox.make hz hq).move o2).move o3
 have R2:=(RBox.make (hz'.below o1) (hq'.below o1)).move o3
 have R4:=RBox.nil ((w.alloc (rbox n A l c B m d)).alloc (rbox n' A' l' c' B' m' d'))
 simp only [World.size_alloc] at R2 R4
 replace R1:=Lib.hid R1
 replace R2:=Lib.hid R2
 replace R4:=Lib.hid R4
 have Hb:=Lib.hid b3
 clear o1 o2 o3 b3 hz hq hz' hq'
 go_enter Tryz.func77,Tryz.ntmps77
 go_wp2_with fail
 refine (parts_any _ _ _ _ _ _ _ _ _ R1.out.hq.at_ sq (by omega)).mono ?_
 rintro e w1 ⟨rfl,hb1⟩
 replace R1:=Lib.hid (R1.out.move hb1)
 replace R2:=Lib.hid (R2.out.move hb1)
 replace R4:=Lib.hid (R4.out.move hb1)
 replace Hb:=Lib.hid (Hb.out.trans (hb1.mono Hb.out.size))
 have lt4:w.heap.size+1+1<w1.heap.size:=R4.out.lt
 have x0:=R2.out.c0
 have x1:=R2.out.c1
 have x2:=R2.out.c2
 have ltx:w.heap.size+1<w1.heap.size:=by omega
 have lty:w.heap.size+1<w1.heap.size+1:=by omega
 clear hb1
 go_wp2_with fail
 have k1:=new_below w1 (ibox n A l c)
 have k2:=new_below (w1.alloc (ibox n A l c)) (ibox false B m d)
 have kb:Below w1.heap.size w1 ((w1.alloc (ibox n A l c)).alloc (ibox false B m d)):=k1.alloc (by simp) _
 have i5:=(IBox.make R1.out.hz).move k2
 have hqP:IntN w1 false B m d (q:Int):=⟨by rw [Int.natAbs_natCast];exact R1.out.hq,by simp⟩
 have i6:=IBox.make (hqP.below k1)
 simp only [World.size_alloc] at i6
 replace R2:=Lib.hid (R2.out.move kb)
 replace R4:=Lib.hid (R4.out.move kb)
 replace Hb:=Lib.hid (Hb.out.trans (kb.mono Hb.out.size))
 have I5:=Lib.hid i5
 have I6:=Lib.hid i6
 clear k1 k2 kb i5 i6 hqP R1 x0 x1 x2
 refine (parts_any _ _ _ _ _ _ _ _ _ R2.out.hq.at_ sq' (by omega)).mono ?_
 rintro e w2 ⟨rfl,hb2⟩
 have hsz2:=hb2.size
 simp only [World.size_alloc] at hsz2
 replace I5:=Lib.hid (I5.out.move hb2)
 replace I6:=Lib.hid (I6.out.move hb2)
 replace R2:=Lib.hid (R2.out.move hb2)
 replace R4:=Lib.hid (R4.out.move hb2)
 replace Hb:=Lib.hid (Hb.out.trans (hb2.mono Hb.out.size))
 have k1:=new_below w2 (ibox n' A' l' c')
 have k2:=new_below (w2.alloc (ibox n' A' l' c')) (ibox false B' m' d')
 have kb:Below w2.heap.size w2 ((w2.alloc (ibox n' A' l' c')).alloc (ibox false B' m' d')):=k1.alloc (by simp) _
 have i7:=(IBox.make R2.out.hz).move k2
 have hqP:IntN w2 false B' m' d' (q':Int):=⟨by rw [Int.natAbs_natCast];exact R2.out.hq,by simp⟩
 have i8:=IBox.make (hqP.below k1)
 simp only [World.size_alloc] at i8
 replace I5:=Lib.hid (I5.out.move kb)
 replace I6:=Lib.hid (I6.out.move kb)
 replace R4:=Lib.hid (R4.out.move kb)
 replace Hb:=Lib.hid (Hb.out.trans (kb.mono Hb.out.size))
 have I7:=Lib.hid i7
 have I8:=Lib.hid i8
 clear k1 k2 kb i7 i8 hqP R2 hb2
 obtain ⟨wc,hwc⟩:∃ wc,wc=(w2.alloc (ibox n' A' l' c')).alloc (ibox false B' m' d'):=⟨_,rfl⟩
 have hszc:wc.heap.size=w2.heap.size+1+1:=by rw [hwc];simp
 go_wp2_with fail
 rw [← hwc] at I5 I6 I7 I8 R4 Hb ⊢
 clear hwc
 obtain ⟨g4,hg4⟩:∃ g,g=w.heap.size+1+1:=⟨_,rfl⟩
 obtain ⟨g5,hg5⟩:∃ g,g=w1.heap.size:=⟨_,rfl⟩
 obtain ⟨g6,hg6⟩:∃ g,g=w1.heap.size+1:=⟨_,rfl⟩
 obtain ⟨g7,hg7⟩:∃ g,g=w2.heap.size:=⟨_,rfl⟩
 obtain ⟨g8,hg8⟩:∃ g,g=w2.heap.size+1:=⟨_,rfl⟩
 rw [← hg4] at R4
 rw [← hg5] at I5
 rw [← hg6] at I6
 rw [← hg7] at I7
 rw [← hg8] at I8
 rw [← hg4,← hg6,← hg5,← hg8,← hg7]
 have l4:g4<wc.heap.size:=by omega
 have l4w:w.heap.size<g4:=by omega
 have l5:g5<wc.heap.size:=by omega
 have l6:g6<wc.heap.size:=by omega
 have l7:g7<wc.heap.size:=by omega
 have l8:g8<wc.heap.size:=by omega
 clear hg4 hg5 hg6 hg7 hg8 hszc hsz2 lt4 ltx lty
 have a0:=I5.out.c0
 have a1:=I5.out.c1
 have b0:=I6.out.c0
 have b1:=I6.out.c1
 have d0:=I7.out.c0
 have d1:=I7.out.c1
 have e0:=I8.out.c0
 have e1:=I8.out.c1
 refine wp_region_last (S:=fun w'=>w'.cell? ⟨g5,0,none⟩=some (.bool n)∧w'.cell? ⟨g5,1,none⟩=some (.slice A l c)∧w'.cell? ⟨g6,0,none⟩=some (.bool false)∧w'.cell? ⟨g6,1,none⟩=some (.slice B m d)∧w'.cell? ⟨g7,0,none⟩=some (.bool n')∧w'.cell? ⟨g7,1,none⟩=some (.slice A' l' c')∧w'.cell? ⟨g8,0,none⟩=some (.bool false)∧w'.cell? ⟨g8,1,none⟩=some (.slice B' m' d')) (by kernel_rfl) (by kernel_rfl) (by (try dsimp only);go_keep) (fun hHeld=>?_)
 simp only [List.pop_toArray,List.dropLast]
 (refine tk (i:=0) (v:=?_) rfl rfl (Or.inl ⟨by rfl,?_⟩) ?_;rotate_left;(focus (intro w hSw;(try dsimp only at hSw);go_simp;(try with_reducible rfl)));(simp only [put_lit,List.set]))
 (refine tk (i:=1) (v:=?_) rfl rfl (Or.inl ⟨by rfl,?_⟩) ?_;rotate_left;(focus (intro w hSw;(try dsimp only at hSw);go_simp;(try with_reducible rfl)));(simp only [put_lit,List.set]))
 (refine tk (i:=3) (v:=?_) rfl rfl (Or.inl ⟨by rfl,?_⟩) ?_;rotate_left;(focus (intro w hSw;(try dsimp only at hSw);go_simp;(try with_reducible rfl)));(simp only [put_lit,List.set]))
 (refine tk (i:=4) (v:=?_) rfl rfl (Or.inl ⟨by rfl,?_⟩) ?_;rotate_left;(focus (intro w hSw;(try dsimp only at hSw);go_simp;(try with_reducible rfl)));(simp only [put_lit,List.set]))
 (refine tk (i:=7) (v:=?_) rfl rfl (Or.inl ⟨by rfl,?_⟩) ?_;rotate_left;(focus (intro w hSw;(try dsimp only at hSw);go_simp;(try with_reducible rfl)));(simp only [put_lit,List.set]))
 (refine tk (i:=8) (v:=?_) rfl rfl (Or.inl ⟨by rfl,?_⟩) ?_;rotate_left;(focus (intro w hSw;(try dsimp only at hSw);go_simp;(try with_reducible rfl)));(simp only [put_lit,List.set]))
 refine wpAnyH_ready (rs:=[2]) (by kernel_rfl) (by simp) ?_
 refine AllReadyH.cons rfl (fun K hK=>?_) AllReadyH.nil;go_simp
 refine (imul_any _ _ _ _ _ _ _ _ _ _ _ ?_ ?_ fz.sm fq'.sm (fz.mulok _)).mono ?_
 ·exact I5.out.hz.at_.below Bel.go
 ·exact I8.out.hz.at_.below Bel.go
 rintro e w10 ⟨n10,A10,l10,c10,rfl,h10,hb10⟩
 rw [← HS1.out] at h10
 obtain ⟨hcx,hfx⟩:=bcellS hb10
 replace I6:=Lib.hid (I6.out.move (Below.trans Bel.go (hb10.mono (by simp<;>omega))))
 replace I7:=Lib.hid (I7.out.move (Below.trans Bel.go (hb10.mono (by simp<;>omega))))
 replace I8:=Lib.hid (I8.out.move (Below.trans Bel.go (hb10.mono (by simp<;>omega))))
 replace R4:=Lib.hid (R4.out.move (Below.trans Bel.go (hb10.mono (by simp<;>omega))))
 replace Hb:=Lib.hid (Hb.out.trans ((Below.trans Bel.go (hb10.mono (by simp<;>omega))).mono Hb.out.size))
 have H10:=Lib.hid h10
 refine hK.out _ _ ?_ (fun _=>?_)
 ·((try dsimp only);repeat' apply And.intro)<;>(rw [hcx _ (by go_simp)];go_simp)
 clear hHeld hK K hcx hfx;rename_i hHeld
 clear h10 hb10
 refine wpAnyH_ready (rs:=[5]) (by kernel_rfl) (by simp) ?_
 refine AllReadyH.cons rfl (fun K hK=>?_) AllReadyH.nil;go_simp
 refine (imul_any _ _ _ _ _ _ _ _ _ _ _ ?_ ?_ fz'.sm fq.sm (fz'.mulok _)).mono ?_
 ·exact I7.out.hz.at_.below Bel.go
 ·exact I6.out.hz.at_.below Bel.go
 rintro e w11 ⟨n11,A11,l11,c11,rfl,h11,hb11⟩
 rw [← HS2.out] at h11
 obtain ⟨hcx,hfx⟩:=bcellS hb11
 replace I6:=Lib.hid (I6.out.move (Below.trans Bel.go (hb11.mono (by simp<;>omega))))
 replace I8:=Lib.hid (I8.out.move (Below.trans Bel.go (hb11.mono (by simp<;>omega))))
 replace R4:=Lib.hid (R4.out.move (Below.trans Bel.go (hb11.mono (by simp<;>omega))))
 replace Hb:=Lib.hid (Hb.out.trans ((Below.trans Bel.go (hb11.mono (by simp<;>omega))).mono Hb.out.size))
 replace H10:=Lib.hid (H10.out.below (Below.trans Bel.go (hb11.mono (by simp<;>omega))))
 have H11:=Lib.hid h11
 refine hK.out _ _ ?_ (fun _=>?_)
 ·((try dsimp only);repeat' apply And.intro)<;>(rw [hcx _ (by go_simp)];go_simp)
 clear hHeld hK K hcx hfx;rename_i hHeld
 clear h11 hb11
 refine wpAnyH_ready (rs:=[6]) (by kernel_rfl) (by simp) ?_
 refine AllReadyH.cons rfl (fun K hK=>?_) AllReadyH.nil;go_simp
 refine (isub_any _ _ _ _ S1 _ _ _ _ S2 _ (H10.out.at_.below Bel.go) (H11.out.at_.below Bel.go) ss1 ss2 ssum).mono ?_
 rintro e w12 ⟨n12,A12,l12,c12,rfl,h12,hb12⟩
 obtain ⟨hcx,hfx⟩:=bcellS hb12
 replace I6:=Lib.hid (I6.out.move (Below.trans Bel.go (hb12.mono (by simp<;>omega))))
 replace I8:=Lib.hid (I8.out.move (Below.trans Bel.go (hb12.mono (by simp<;>omega))))
 replace R4:=Lib.hid (R4.out.move (Below.trans Bel.go (hb12.mono (by simp<;>omega))))
 replace Hb:=Lib.hid (Hb.out.trans ((Below.trans Bel.go (hb12.mono (by simp<;>omega))).mono Hb.out.size))
 have H12:=Lib.hid h12
 refine hK.out _ _ ?_ (fun _=>?_)
 ·((try dsimp only);repeat' apply And.intro)<;>(rw [hcx _ (by go_simp)];go_simp)
 clear hHeld hK K hcx hfx;rename_i hHeld
 clear h12 hb12 H10 H11
 refine wpAnyH_ready (rs:=[9]) (by kernel_rfl) (by simp) ?_
 refine AllReadyH.cons rfl (fun K hK=>?_) AllReadyH.nil;go_simp
 refine (imul_any _ _ _ _ _ _ _ _ _ _ _ ?_ ?_ fq.sm fq'.sm (fq.mulok _)).mono ?_
 ·exact I6.out.hz.at_.below Bel.go
 ·exact I8.out.hz.at_.below Bel.go
 rintro e w13 ⟨n13,A13,l13,c13,rfl,h13,hb13⟩
 have e13:(q:Int)*(q':Int)=(DD:Int):=by rw [HDD.out,Int.natCast_mul]
 rw [e13] at h13
 obtain ⟨hcx,hfx⟩:=bcellS hb13
 replace R4:=Lib.hid (R4.out.move (Below.trans Bel.go (hb13.mono (by simp<;>omega))))
 replace Hb:=Lib.hid (Hb.out.trans ((Below.trans Bel.go (hb13.mono (by simp<;>omega))).mono Hb.out.size))
 replace H12:=Lib.hid (H12.out.below (Below.trans Bel.go (hb13.mono (by simp<;>omega))))
 have H13:=Lib.hid h13
 refine hK.out _ _ ?_ (fun _=>?_)
 ·((try dsimp only);repeat' apply And.intro)<;>(rw [hcx _ (by go_simp)];go_simp)
 clear hHeld hK K hcx hfx;rename_i hHeld
 clear h13 hb13 e13
 refine wpAnyH_ready (rs:=[10]) (by kernel_rfl) (by simp) ?_
 refine AllReadyH.cons rfl (fun K hK=>?_) AllReadyH.nil;go_simp
 refine (reduce_all _ _ _ _ (S1-S2) _ _ _ _ DD _ (H12.out.below Bel.go) (H13.out.below Bel.go) sS sD hD0).mono ?_
 rintro e w14 ⟨⟨n14,A14,l14,c14,B14,m14,d14,rfl,h14,k14⟩,hb14⟩
 obtain ⟨hcx,hfx⟩:=bcellS hb14
 have j4:=R4.out.move (Below.trans Bel.go (hb14.mono (by simp<;>omega)))
 have Jb2:=Lib.hid (Hb.out.trans ((Below.trans Bel.go (hb14.mono (by simp<;>omega))).mono Hb.out.size))
 refine hK.out _ _ ?_ (fun _=>?_)
 ·((try dsimp only);repeat' apply And.intro)<;>(rw [hcx _ (by go_simp)];go_simp)
 clear hHeld hK K hcx hfx;rename_i hHeld
 refine wpAnyH_done (by kernel_rfl) (lastQ_list rfl ?_) _
 have HP:=Lib.hid (j4.put h14 k14)
 have r0:=j4.c0
 have r1:=j4.c1
 have r2:=j4.c2
 have r3:=j4.f0
 have r4:=j4.f1
 have r5:=j4.f2
 clear hHeld j4 h14 k14 hb14 a0 a1 b0 b1 d0 d1 e0 e1
 go_wp2
 refine bodyPost_ret (v:=.agg #[.bool n14,.slice A14 l14 c14,.slice B14 m14 d14]) (by simp [results,Tryz.results77,go_sem,r0,r1,r2]) rfl ⟨⟨_,_,_,_,_,_,_,rfl,HP.out.hz,HP.out.hq⟩,?_⟩
 exact ((Jb2.out.setCell (p:=⟨g4,0,none⟩) (by simp;omega) _).setCell (p:=⟨g4,1,none⟩) (by simp;omega) _).setCell (p:=⟨g4,2,none⟩) (by simp;omega) _
end Go.Proofs.YtbfddopopajgaaaGreat
namespace Go.Proofs.YtbfddopopajgaaaGreat
open Go Go.RowKit
section
variable {w:World} {r:Fq×Fq} {n:Bool} {A:Option Addr} {l c:Nat} {B:Option Addr} {m d:Nat} {n':Bool} {A':Option Addr} {l' c':Nat} {B':Option Addr} {m' d':Nat}
set_option maxRecDepth 100000 in
set_option maxHeartbeats 4000000 in
theorem width_any (hz:IntN w n A l c r.1.z) (hq:NatN w B m d r.1.q) (hz':IntN w n' A' l' c' r.2.z) (hq':NatN w B' m' d' r.2.q) (ha:FqB r.1) (hb:FqB r.2) :
  Calls Tryz.prog 34 #[.agg #[.bool n,.slice A l c,.slice B m d,.bool n',.slice A' l' c',.slice B' m' d']] w fun e w'=>RatE (r.2.sub r.1).z (r.2.sub r.1).q e w'∧Below w.heap.size w w':=by
 have o1:=below_new w (tbox n A l c B m d n' A' l' c' B' m' d')
 have o2:=below_new (w.alloc (tbox n A l c B m d n' A' l' c' B' m' d')) (rbox false none 0 0 none 0 0)
 have b2:Below w.heap.size w ((w.alloc (tbox n A l c B m d n' A' l' c' B' m' d')).alloc (rbox false none 0 0 none 0 0)):=o1.alloc (by simp) _
 have T:=Lib.hid ((TBox.make hz hq hz' hq').move o2)
 have r4:=RBox.nil (w.alloc (tbox n A l c B m d n' A' l' c' B' m' d'))
 simp only [World.size_alloc] at r4
 have R4:=Lib.hid r4
 have Hb:=Lib.hid b2
 obtain ⟨g4,hg4⟩:∃ g,g=w.heap.size+1:=⟨_,rfl⟩
 rw [← hg4] at R4
 have HG4:=Lib.hid hg4
 have Hg:=Lib.hid (show w.heap.size≤g4 by omega)
 clear hz hq hz' hq' o1 o2 b2 r4 hg4
 go_enter Tryz.func34,Tryz.ntmps34
 have x0:=T.out.r.c0;have x1:=T.out.r.c1;have x2:=T.out.r.c2;have x3:=T.out.c3;have x4:=T.out.c4;have x5:=T.out.c5
 go_wp2_with fail
 refine (rsub_any _ _ _ _ _ _ _ _ _ _ _ _ _ _ _ _ _ _ _ T.out.hz T.out.hq T.out.r.hz T.out.r.hq hb.fz hb.fq hb.p ha.fz ha.fq ha.p).mono ?_
 rintro e w1 ⟨⟨n1,A1,l1,c1,B1,m1,d1,rfl,h1,k1⟩,hb1⟩
 have j4:=R4.out.move hb1
 have HP:=Lib.hid (show IntN (put3 w1 g4 n1 A1 l1 c1 B1 m1 d1) n1 A1 l1 c1 (r.2.sub r.1).z∧NatN (put3 w1 g4 n1 A1 l1 c1 B1 m1 d1) B1 m1 d1 (r.2.sub r.1).q from ⟨(j4.put (z':=(r.2.sub r.1).z) (q':=(r.2.sub r.1).q) h1 k1).hz,(j4.put (z':=(r.2.sub r.1).z) (q':=(r.2.sub r.1).q) h1 k1).hq⟩)
 replace Hb:=Lib.hid (Hb.out.trans (hb1.mono Hb.out.size))
 have r0:=j4.c0
 have r1:=j4.c1
 have r2:=j4.c2
 have r3:=j4.f0
 have r4:=j4.f1
 have r5:=j4.f2
 rw [← HG4.out]
 clear j4 h1 k1 hb1 x0 x1 x2 x3 x4 x5 T R4
 go_wp2_with fail
 refine bodyPost_ret (v:=.agg #[.bool n1,.slice A1 l1 c1,.slice B1 m1 d1]) (by simp [results,Tryz.results34,go_sem,r0,r1,r2]) rfl ⟨⟨_,_,_,_,_,_,_,rfl,HP.out.1,HP.out.2⟩,?_⟩
 exact ((Hb.out.setCell (p:=⟨g4,0,none⟩) Hg.out _).setCell (p:=⟨g4,1,none⟩) Hg.out _).setCell (p:=⟨g4,2,none⟩) Hg.out _
def wthn (f:List Int) (a r:Fq×Fq):Prop:=vld 1 f a.1 a.2=true∧fcmp r.1 a.1≤0∧fcmp a.2 r.2≤0
variable {s:Fq×Fq} {n₂:Bool} {A₂:Option Addr} {l₂ c₂:Nat} {B₂:Option Addr} {m₂ d₂:Nat} {n₃:Bool} {A₃:Option Addr} {l₃ c₃:Nat} {B₃:Option Addr} {m₃ d₃:Nat}
set_option maxRecDepth 100000 in
set_option maxHeartbeats 4000000 in
theorem within_any {I:IntPred} (hI:IK I) {Af:Option Addr} {lf cf:Nat} {f:List Int} (hf:PolyP I w Af lf cf f) (hl:f.length≤10) (h9:P9 f)
  (hz:IntN w n A l c r.1.z) (hq:NatN w B m d r.1.q) (hz':IntN w n' A' l' c' r.2.z) (hq':NatN w B' m' d' r.2.q) (hs1:IntN w n₂ A₂ l₂ c₂ s.1.z) (hs2:NatN w B₂ m₂ d₂ s.1.q) (hs3:IntN w n₃ A₃ l₃ c₃ s.2.z) (hs4:NatN w B₃ m₃ d₃ s.2.q) (ha:FqB r.1) (hb:FqB r.2) (hc:FqB s.1) (hd:FqB s.2) (hw:wthn f r s) :
  Calls Tryz.prog 31 #[.slice Af lf cf,.agg #[.bool n,.slice A l c,.slice B m d,.bool n',.slice A' l' c',.slice B' m' d'],.agg #[.bool n₂,.slice A₂ l₂ c₂,.slice B₂ m₂ d₂,.bool n₃,.slice A₃ l₃ c₃,.slice B₃ m₃ d₃]] w fun e w'=>e=.returned (.bool true)∧Below w.heap.size w w':=by
 have o1:=below_new w (tbox n A l c B m d n' A' l' c' B' m' d')
 have o2:=below_new (w.alloc (tbox n A l c B m d n' A' l' c' B' m' d')) (tbox n₂ A₂ l₂ c₂ B₂ m₂ d₂ n₃ A₃ l₃ c₃ B₃ m₃ d₃)
 have b2:Below w.heap.size w ((w.alloc (tbox n A l c B m d n' A' l' c' B' m' d')).alloc (tbox n₂ A₂ l₂ c₂ B₂ m₂ d₂ n₃ A₃ l₃ c₃ B₃ m₃ d₃)):=o1.alloc (by simp) _
 have T:=Lib.hid ((TBox.make hz hq hz' hq').move o2)
 have s4:=TBox.make (hs1.below o1) (hs2.below o1) (hs3.below o1) (hs4.below o1)
 simp only [World.size_alloc] at s4
 have S:=Lib.hid s4
 have HP:=Lib.hid (hf.below hI b2)
 have Hb:=Lib.hid b2
 have p1:=ha.p
 have p2:=hb.p
 have p3:=hc.p
 have p4:=hd.p
 obtain ⟨C1,hC1⟩:∃ C,C=fcmp s.1 r.1:=⟨_,rfl⟩
 obtain ⟨C2,hC2⟩:∃ C,C=fcmp r.2 s.2:=⟨_,rfl⟩
 obtain ⟨hw1,hw2,hw3⟩:=hw
 rw [← hC1] at hw2
 rw [← hC2] at hw3
 have g1:decide (C1≤0)=true:=decide_eq_true hw2
 have g2:decide (C2≤0)=true:=decide_eq_true hw3
 have HW:=Lib.hid hw1
 have HC1:=Lib.hid hC1
 have HC2:=Lib.hid hC2
 clear hz hq hz' hq' hs1 hs2 hs3 hs4 o1 o2 b2 s4 hf hw1 hw2 hw3 hC1 hC2
 go_enter Tryz.func31,Tryz.ntmps31
 have x0:=T.out.r.c0;have x1:=T.out.r.c1;have x2:=T.out.r.c2;have x3:=T.out.c3;have x4:=T.out.c4;have x5:=T.out.c5
 have y0:=S.out.r.c0;have y1:=S.out.r.c1;have y2:=S.out.r.c2;have y3:=S.out.c3;have y4:=S.out.c4;have y5:=S.out.c5
 go_wp2_with fail
 refine (lawvalid_any hI _ _ _ f r.1 r.2 _ _ _ _ _ _ _ _ _ _ _ _ _ _ _ HP.out hl h9 T.out.r.hz T.out.r.hq T.out.hz T.out.hq ha hb).mono ?_
 rintro e w1 ⟨he,hb1⟩
 have he2:e=.returned (.bool true):=by rw [← HW.out];exact he
 subst he2
 replace T:=Lib.hid (T.out.move hb1)
 replace S:=Lib.hid (S.out.move hb1)
 replace Hb:=Lib.hid (Hb.out.trans (hb1.mono Hb.out.size))
 clear he hb1 x0 x1 x2 x3 x4 x5 y0 y1 y2 y3 y4 y5 HP
 have x0:=T.out.r.c0;have x1:=T.out.r.c1;have x2:=T.out.r.c2;have x3:=T.out.c3;have x4:=T.out.c4;have x5:=T.out.c5
 have y0:=S.out.r.c0;have y1:=S.out.r.c1;have y2:=S.out.r.c2;have y3:=S.out.c3;have y4:=S.out.c4;have y5:=S.out.c5
 go_wp2_with fail
 refine (rcmp_any _ _ _ _ _ _ _ _ _ _ _ _ _ _ _ _ _ _ _ S.out.r.hz.at_ S.out.r.hq.at_ T.out.r.hz.at_ T.out.r.hq.at_ (by omega) (by omega) hc.fz hc.fq ha.fz ha.fq).mono ?_
 rintro e w2 ⟨rfl,hb1⟩
 rw [show cmpz (s.1.z*(r.1.q:Int)) (r.1.z*(s.1.q:Int))=C1 from HC1.out.symm]
 replace T:=Lib.hid (T.out.move hb1)
 replace S:=Lib.hid (S.out.move hb1)
 replace Hb:=Lib.hid (Hb.out.trans (hb1.mono Hb.out.size))
 clear hb1 x0 x1 x2 x3 x4 x5 y0 y1 y2 y3 y4 y5
 have x0:=T.out.r.c0;have x1:=T.out.r.c1;have x2:=T.out.r.c2;have x3:=T.out.c3;have x4:=T.out.c4;have x5:=T.out.c5
 have y0:=S.out.r.c0;have y1:=S.out.r.c1;have y2:=S.out.r.c2;have y3:=S.out.c3;have y4:=S.out.c4;have y5:=S.out.c5
 go_wp2_with fail
 refine (rcmp_any _ _ _ _ _ _ _ _ _ _ _ _ _ _ _ _ _ _ _ T.out.hz.at_ T.out.hq.at_ S.out.hz.at_ S.out.hq.at_ (by omega) (by omega) hb.fz hb.fq hd.fz hd.fq).mono ?_
 rintro e w3 ⟨rfl,hb1⟩
 rw [show cmpz (r.2.z*(s.2.q:Int)) (s.2.z*(r.2.q:Int))=C2 from HC2.out.symm]
 replace Hb:=Lib.hid (Hb.out.trans (hb1.mono Hb.out.size))
 clear hb1 x0 x1 x2 x3 x4 x5 y0 y1 y2 y3 y4 y5 T S
 go_wp2
 go_ret
 exact ⟨by first | rfl | simp,Hb.out⟩
end
end Go.Proofs.YtbfddopopajgaaaGreat
namespace Go.Proofs.YtbfddopopajgaaaGreat
open Go Go.RowKit
section
variable {f:List Int} {x:Pt} {a b a' b':Fq} {s:Fq×Fq} {j:Nat}
theorem IsoV.congr (h:IsoV f x a b) (ha:a'.v=a.v) (hb:b'.v=b.v):IsoV f x a' b':=by
 unfold IsoV Fq.p at *
 rw [ha,hb]
 exact h
structure HSt (f:List Int) (x:Pt) (j:Nat) (s:Fq×Fq):Prop where
 iso:IsoV f x s.1 s.2
 d:DyR (cbn (qpart f)) j s
theorem HSt.fqb (h9:P9 f) (h0:plen f≠0) (h:HSt f x j s) (hj:j≤NN+2500):FqB s.1∧FqB s.2:=by
 have:=h.d.fqb hj (nn_zb2 (SqF.of9 h9 h0))
 exact ⟨this.1,this.2.1⟩
theorem HSt.vld (h9:P9 f) (h0:plen f≠0) (h:HSt f x j s):vld 2 f s.1 s.2=true:=(vld_iff h9 h0 h.d.1.p h.d.2.p).2 ⟨x,h.iso⟩
theorem HSt.vld1 (h9:P9 f) (h0:plen f≠0) (h:HSt f x j s):Go.Proofs.YtbfddopopajgaaaGreat.vld 1 f s.1 s.2=true:=by rw [vld_one h9 h.d.1.p h.d.2.p];exact h.vld h9 h0
theorem HSt.half (h9:P9 f) (h0:plen f≠0) (h:HSt f x j s):HSt f x (j+1) (hlf (qpart f) s)∧Half s (hlf (qpart f) s):=by
 have hq:=q_facts h9.q h0
 have hs:=hlf_spec hq.q0 hq.simple (fun y=>(hq.root y).symm) h.d.1.p h.d.2.p h.iso
 exact ⟨⟨hs.1,hlf_dy h.d⟩,hs.2⟩
theorem HSt.nf (h:HSt f x j s):HSt f x j (nfr s)∧(nfr s).1.v=s.1.v∧(nfr s).2.v=s.2.v:=by
 have e1:=(Fq.nf_v h.d.1.p).1
 have e2:=(Fq.nf_v h.d.2.p).1
 exact ⟨⟨h.iso.congr e1 e2,h.d.1.nf,h.d.2.nf⟩,e1,e2⟩
theorem HSt.mid (h9:P9 f) (h0:plen f≠0) (h:HSt f x j s) (hj:j<NN+2500):FqB (s.1.mid s.2):=(h.d.fqb (Nat.le_of_lt hj) (nn_zb2 (SqF.of9 h9 h0))).2.2 hj
theorem cmp_le (ha:0<a.q) (hb:0<b.q) (h:a.v≤b.v):fcmp a b≤0:=by
 have:¬ 0<fcmp a b:=fun c=>by
  have:=(fcmp_pos ha hb).1 c
  grind
 omega
theorem HSt.within {t:Fq×Fq} {i:Nat} (h9:P9 f) (h0:plen f≠0) (h:HSt f x j s) (ht:HSt f x i t) (h1:s.1.v≤t.1.v) (h2:t.2.v≤s.2.v):wthn f t s :=
 ⟨ht.vld1 h9 h0,cmp_le h.d.1.p ht.d.1.p h1,cmp_le ht.d.2.p h.d.2.p h2⟩
theorem proots_hst (h9:P9 f) (h0:plen f≠0) {k:Nat} (hk:k<(proots f).length):∃ x,HSt f x (NN+1) ((proots f).getD k r00):=by
 obtain ⟨xs,h⟩:=rf_ex h9 h0
 obtain ⟨i,i1,i2⟩:=proots_dw f _ (getD_mem hk r00)
 exact ⟨_,h.iso k (by rw [← h.len];exact hk),i2.d.le i1⟩
def wid (s:Fq×Fq):Fq:=s.2.sub s.1
theorem wid_v (h1:0<s.1.q) (h2:0<s.2.q):(wid s).v=s.2.v-s.1.v:=Fq.sub_v h2 h1
noncomputable def WK:Nat:=2*ZK+1
theorem wid_sz (h1:FqB s.1) (h2:FqB s.2):Sz WK (wid s):=by
 have:=h2.sz.sub h1.sz
 have e:ZK+ZK+1=WK:=by unfold WK;omega
 rw [e] at this
 exact this
theorem wk_lt:WK<FW:=by unfold WK;rw [ZK_eq,FW_eq];decide
theorem wk2_lt:WK+WK+1<FW:=by unfold WK;rw [ZK_eq,FW_eq];decide
end
structure RBk (w:World) (g:Nat) (n:Bool) (A:Option Addr) (l c:Nat) (B:Option Addr) (m d:Nat) (n':Bool) (A':Option Addr) (l' c':Nat) (B':Option Addr) (m' d':Nat) (s:Fq×Fq):Prop where
 k:Blk w g 44 #[.bool n,.slice A l c,.slice B m d,.bool n',.slice A' l' c',.slice B' m' d']
 hz:IntN w n A l c s.1.z
 hq:NatN w B m d s.1.q
 hz':IntN w n' A' l' c' s.2.z
 hq':NatN w B' m' d' s.2.q
section
variable {w w':World} {g:Nat} {n:Bool} {A:Option Addr} {l c:Nat} {B:Option Addr} {m d:Nat} {n':Bool} {A':Option Addr} {l' c':Nat} {B':Option Addr} {m' d':Nat} {s t:Fq×Fq}
theorem RBk.tb (h:RBk w g n A l c B m d n' A' l' c' B' m' d' s):TBox w g n A l c B m d s.1.z s.1.q n' A' l' c' B' m' d' s.2.z s.2.q :=
 ⟨⟨h.k.cell 0,h.k.cell 1,h.k.cell 2,h.k.frozen 0,h.k.frozen 1,h.k.frozen 2,h.k.lt,h.hz,h.hq⟩,h.k.cell 3,h.k.cell 4,h.k.cell 5,h.hz',h.hq'⟩
theorem RBk.make (hz:IntN w n A l c s.1.z) (hq:NatN w B m d s.1.q) (hz':IntN w n' A' l' c' s.2.z) (hq':NatN w B' m' d' s.2.q):RBk (w.alloc (tbox n A l c B m d n' A' l' c' B' m' d')) w.heap.size n A l c B m d n' A' l' c' B' m' d' s:=by
 have ho:=below_new w (tbox n A l c B m d n' A' l' c' B' m' d')
 exact ⟨Blk.new _ _ _,hz.below ho,hq.below ho,hz'.below ho,hq'.below ho⟩
theorem RBk.move (h:RBk w g n A l c B m d n' A' l' c' B' m' d' s) (hb:Below w.heap.size w w'):RBk w' g n A l c B m d n' A' l' c' B' m' d' s :=
 ⟨h.k.below hb h.k.lt,h.hz.below hb,h.hq.below hb,h.hz'.below hb,h.hq'.below hb⟩
theorem RBk.ndb (h:RBk w g n A l c B m d n' A' l' c' B' m' d' s):NdB w g:=blk_ndb h.k fun j v hv=>by
 match j,hv with
 | 0,hv=>simp at hv;subst hv;exact noDigit_bool _
 | 1,hv=>simp at hv;subst hv;exact noDigit_slice _ _ _
 | 2,hv=>simp at hv;subst hv;exact noDigit_slice _ _ _
 | 3,hv=>simp at hv;subst hv;exact noDigit_bool _
 | 4,hv=>simp at hv;subst hv;exact noDigit_slice _ _ _
 | 5,hv=>simp at hv;subst hv;exact noDigit_slice _ _ _
 | j+6,hv=>simp at hv
variable {n₂:Bool} {A₂:Option Addr} {l₂ c₂:Nat} {B₂:Option Addr} {m₂ d₂:Nat} {n₃:Bool} {A₃:Option Addr} {l₃ c₃:Nat} {B₃:Option Addr} {m₃ d₃:Nat}
theorem RBk.put (h:RBk w g n A l c B m d n' A' l' c' B' m' d' s) (h1:IntN w n₂ A₂ l₂ c₂ t.1.z) (h2:NatN w B₂ m₂ d₂ t.1.q) (h3:IntN w n₃ A₃ l₃ c₃ t.2.z) (h4:NatN w B₃ m₃ d₃ t.2.q) :
  RBk (pu6 w g (.bool n₂) (.slice A₂ l₂ c₂) (.slice B₂ m₂ d₂) (.bool n₃) (.slice A₃ l₃ c₃) (.slice B₃ m₃ d₃)) g n₂ A₂ l₂ c₂ B₂ m₂ d₂ n₃ A₃ l₃ c₃ B₃ m₃ d₃ t:=by
 have hf:=pu6_frs w g (.bool n₂) (.slice A₂ l₂ c₂) (.slice B₂ m₂ d₂) (.bool n₃) (.slice A₃ l₃ c₃) (.slice B₃ m₃ d₃)
 have nd:=h.ndb
 exact ⟨(((((h.k.set_ 0 _).set_ 1 _).set_ 2 _).set_ 3 _).set_ 4 _).set_ 5 _,h1.frs hf nd nd,h2.frs hf nd nd,h3.frs hf nd nd,h4.frs hf nd nd⟩
end
end Go.Proofs.YtbfddopopajgaaaGreat
namespace Go.Proofs.YtbfddopopajgaaaGreat
open Go Go.RowKit
theorem w2_atR (w:World):I64At (w.alloc (.cells #[.int .i64 (-2),.int .i64 0,.int .i64 1] 2)) (some ⟨w.heap.size,0,none⟩) 3 3 w2:=by
 refine ⟨rfl,by omega,.inr ⟨w.heap.size,0,rfl,by simp,fun j hj=>?_⟩⟩
 match j,hj with
 | 0,_=>simp [w2]
 | 1,_=>simp [w2]
 | 2,_=>simp [w2]
theorem w2_trimR:ptrim w2=w2:=by decide
def SqE (e:Ending) (w:World):Prop:=∃ Ap lp cp n A l c B m d n' A' l' c' B' m' d',e=.returned (.tuple #[.slice Ap lp cp,.agg #[.bool n,.slice A l c,.slice B m d,.bool n',.slice A' l' c',.slice B' m' d']])∧PolyN w Ap lp cp w2∧IntN w n A l c 1∧NatN w B m d 1∧IntN w n' A' l' c' 2∧NatN w B' m' d' 1
theorem root_poly {w w':World} {g t:Nat} {A:Option Addr} {l c:Nat} {p:List Int} (hp:PolyN w A l c p) (hl:2≤p.length) (hk:Blk w g t rz6) (hf:FrS g g w w'):PolyN w' A l c p:=by
 refine PolyG.frs (g:=g) (g':=g) ⟨hp,?_⟩ hf (rz6_ndb hk) (rz6_ndb hk)
 have hlen:=hp.length
 rcases hp.elems with h0 | ⟨b,o,hA,hlt,he⟩
 ·exact .inl h0
 ·refine .inr ⟨b,o,hA,?_⟩
  have hne:b≠g:=fun e=>by
   subst e
   obtain ⟨_,_,_,_,f1,_,_⟩:=he 0 (by omega)
   obtain ⟨_,_,_,_,f2,_,_⟩:=he 1 (by omega)
   rw [hk.cell] at f1 f2
   match o,f1,f2 with
   | 0,_,f2=>simp at f2
   | 1,f1,_=>simp at f1
   | 2,f1,_=>simp at f1
   | 3,_,f2=>simp at f2
   | 4,f1,_=>simp at f1
   | 5,f1,_=>simp at f1
   | o+6,f1,_=>simp at f1
  exact ⟨hne,hne⟩
set_option maxRecDepth 100000 in
set_option maxHeartbeats 4000000 in
theorem sqrt2_any (w:World):Calls Tryz.prog 57 #[] w fun e w'=>SqE e w'∧Below w.heap.size w w':=by
 have o1:=below_new w rtObj
 have K3:Blk (w.alloc rtObj) w.heap.size 44 rz6:=Blk.new _ _ _
 have jb:=below_new (w.alloc rtObj) (.cells #[.int .i64 (-2),.int .i64 0,.int .i64 1] 2)
 have hat:=w2_atR (w.alloc rtObj)
 have Hb:=Lib.hid (o1.trans (jb.mono o1.size))
 have K4:=Lib.hid (K3.below jb K3.lt)
 obtain ⟨g3,hg3⟩:∃ g,g=w.heap.size:=⟨_,rfl⟩
 rw [← hg3] at K4
 have Hg:=Lib.hid (show w.heap.size≤g3 by omega)
 have HG3:=Lib.hid hg3
 clear o1 jb K3 hg3
 go_enter Tryz.func57,Tryz.ntmps57
 go_wp2_with fail
 refine (pof_any _ _ _ _ _ (by first | exact hat | simpa using hat) (by intro c hc;simp [w2] at hc;rcases hc with rfl | rfl | rfl<;>(unfold I64;omega)) (by omega)).mono ?_
 rintro e w1 ⟨A1,l1,c1,rfl,h1,hb1⟩
 rw [w2_trimR] at h1
 have HP:=Lib.hid h1
 replace K4:=Lib.hid (K4.out.below hb1 K4.out.lt)
 replace Hb:=Lib.hid (Hb.out.trans (hb1.mono Hb.out.size))
 clear hb1 h1 hat
 go_wp2_with fail
 refine (rof_any 1 _ (by unfold I64;omega)).mono ?_
 rintro e w2' ⟨⟨n2,A2,l2,c2,B2,m2,d2,rfl,h2,k2⟩,hb2⟩
 have H2:=Lib.hid (And.intro h2 k2)
 replace HP:=Lib.hid (HP.out.below ikN hb2)
 replace K4:=Lib.hid (K4.out.below hb2 K4.out.lt)
 replace Hb:=Lib.hid (Hb.out.trans (hb2.mono Hb.out.size))
 clear hb2 h2 k2
 go_wp2_with fail
 refine (rof_any 2 _ (by unfold I64;omega)).mono ?_
 rintro e w3 ⟨⟨n3,A3,l3,c3,B3,m3,d3,rfl,h3,k3⟩,hb3⟩
 replace H2:=Lib.hid (And.intro (H2.out.1.below hb3) (H2.out.2.below hb3))
 replace HP:=Lib.hid (HP.out.below ikN hb3)
 replace K4:=Lib.hid (K4.out.below hb3 K4.out.lt)
 replace Hb:=Lib.hid (Hb.out.trans (hb3.mono Hb.out.size))
 have hf:=pu6_frs w3 g3 (.bool n2) (.slice A2 l2 c2) (.slice B2 m2 d2) (.bool n3) (.slice A3 l3 c3) (.slice B3 m3 d3)
 have nd:=rz6_ndb K4.out
 have hpg:PolyN (pu6 w3 g3 (.bool n2) (.slice A2 l2 c2) (.slice B2 m2 d2) (.bool n3) (.slice A3 l3 c3) (.slice B3 m3 d3)) A1 l1 c1 w2:=root_poly HP.out (by decide) K4.out hf
 have FX:=Lib.hid (And.intro (show SqE (.returned (.tuple #[.slice A1 l1 c1,.agg #[.bool n2,.slice A2 l2 c2,.slice B2 m2 d2,.bool n3,.slice A3 l3 c3,.slice B3 m3 d3]])) _ from ⟨_,_,_,_,_,_,_,_,_,_,_,_,_,_,_,_,_,rfl,hpg,H2.out.1.frs hf nd nd,H2.out.2.frs hf nd nd,h3.frs hf nd nd,k3.frs hf nd nd⟩) (hf.mono Hb.out Hg.out Hg.out Hb.out.size))
 rw [← HG3.out]
 have r0:=(K4.out.cell 0).trans rfl;have r1:=(K4.out.cell 1).trans rfl;have r2:=(K4.out.cell 2).trans rfl;have r3:=(K4.out.cell 3).trans rfl;have r4:=(K4.out.cell 4).trans rfl;have r5:=(K4.out.cell 5).trans rfl;have s0:=K4.out.frozen 0;have s1:=K4.out.frozen 1;have s2:=K4.out.frozen 2;have s3:=K4.out.frozen 3;have s4:=K4.out.frozen 4;have s5:=K4.out.frozen 5
 clear hb3 h3 k3 hf nd hpg K4 Hb H2 HP
 go_wp2
 refine bodyPost_ret (v:=.tuple #[.slice A1 l1 c1,.agg #[.bool n2,.slice A2 l2 c2,.slice B2 m2 d2,.bool n3,.slice A3 l3 c3,.slice B3 m3 d3]]) (by simp [results,Tryz.results57,go_sem,r0,r1,r2,r3,r4,r5]) rfl FX.out
theorem p9_one:FqB ⟨1,1⟩:=⟨Nat.one_pos,Nat.le_trans (by decide) zb_128,Nat.le_trans (by decide) zb_128⟩
theorem p9_two:FqB ⟨2,1⟩:=⟨Nat.one_pos,Nat.le_trans (by decide) zb_128,Nat.le_trans (by decide) zb_128⟩
theorem sq_count:fcount w2 ⟨1,1⟩ ⟨2,1⟩=1:=by
 unfold fcount ncount
 rw [if_pos (by decide)]
 unfold nint
 rw [← vat_eq (z:=1) (q:=1) Nat.one_pos,← vat_eq (z:=2) (q:=1) Nat.one_pos]
 decide +kernel
theorem sq_vld:vld 2 w2 ⟨1,1⟩ ⟨2,1⟩=true:=by
 unfold vld
 rw [if_neg (by decide),if_pos (by decide),if_neg (by decide +kernel),if_neg (by decide +kernel),sq_count]
 rfl
theorem sq_cmp:cmpV w2 (⟨1,1⟩,⟨2,1⟩) ⟨1,1⟩=1:=by
 unfold cmpV
 rw [sq_vld]
 show cmpr _ _ _=1
 unfold cmpr
 rw [if_neg (by decide),if_pos (by decide)]
set_option maxHeartbeats 1000000 in
theorem awake18_any (w:World):Calls Tryz.prog 21 #[] w fun e w'=>e=.returned (.bool true)∧Below w.heap.size w w':=by
 go_enter Tryz.func21,Tryz.ntmps21
 go_wp2_with fail
 refine (sqrt2_any _).mono ?_
 rintro e w1 ⟨⟨Ap,lp,cp,n,A,l,c,B,m,d,n',A',l',c',B',m',d',rfl,hp,hz,hq,hz',hq'⟩,hb1⟩
 have T0:=TBox.make hz hq hz' hq'
 have jb:=below_new w1 (tbox n A l c B m d n' A' l' c' B' m' d')
 have T:=Lib.hid T0
 have HP:=Lib.hid (hp.below ikN jb)
 have Hb:=Lib.hid (hb1.trans (jb.mono hb1.size))
 obtain ⟨wb,hwb⟩:∃ wb,wb=w1.alloc (tbox n A l c B m d n' A' l' c' B' m' d'):=⟨_,rfl⟩
 obtain ⟨g1,hg1⟩:∃ g,g=w1.heap.size:=⟨_,rfl⟩
 clear hb1 jb T0 hp hz hq hz' hq'
 go_wp2_with fail
 rw [← hwb,← hg1] at T
 rw [← hwb] at HP Hb ⊢
 rw [← hg1]
 have l1:=T.out.r.lt
 clear hwb hg1
 have x0:=T.out.r.c0;have x1:=T.out.r.c1;have x2:=T.out.r.c2;have x3:=T.out.c3;have x4:=T.out.c4;have x5:=T.out.c5
 refine wp_region_held_drew (S:=fun w'=>w'.cell? ⟨g1,0,none⟩=some (.bool n)∧w'.cell? ⟨g1,1,none⟩=some (.slice A l c)∧w'.cell? ⟨g1,2,none⟩=some (.slice B m d)∧w'.cell? ⟨g1,3,none⟩=some (.bool n')∧w'.cell? ⟨g1,4,none⟩=some (.slice A' l' c')∧w'.cell? ⟨g1,5,none⟩=some (.slice B' m' d')) (by kernel_rfl) (by (try dsimp only);go_keep) (fun hHeld=>?_)
 (refine tk (i:=0) (v:=?_) rfl rfl (Or.inl ⟨by rfl,?_⟩) ?_;rotate_left;(focus (intro w hSw;(try dsimp only at hSw);go_simp;(try with_reducible rfl)));(simp only [put_lit,List.set]))
 (refine tk (i:=1) (v:=?_) rfl rfl (Or.inl ⟨by rfl,?_⟩) ?_;rotate_left;(focus (intro w hSw;(try dsimp only at hSw);go_simp;(try with_reducible rfl)));(simp only [put_lit,List.set]))
 refine wpAnyH_ready (rs:=[2]) (by kernel_rfl) (by simp) ?_
 refine AllReadyH.cons rfl (fun K hK=>?_) AllReadyH.nil;go_simp
 refine (rof_any 1 _ (by unfold I64;omega)).mono ?_
 rintro e w4 ⟨⟨n4,A4,l4,c4,B4,m4,d4,rfl,h4,k4⟩,hb4⟩
 have G4:=Lib.hid ((Below.trans Bel.go (hb4.mono (by simp<;>omega))):Below wb.heap.size wb w4)
 have H4:=Lib.hid (And.intro h4 k4)
 obtain ⟨hcx,hfx⟩:=bcellS hb4
 refine hK.out _ _ ?_ (fun _=>?_)
 ·((try dsimp only);repeat' apply And.intro)<;>(rw [hcx _ (by go_simp)];go_simp)
 clear hHeld hK K hcx hfx;rename_i hHeld
 clear h4 k4 hb4
 refine wpAnyH_ready (rs:=[3]) (by kernel_rfl) (by simp) ?_
 refine AllReadyH.cons rfl (fun K hK=>?_) AllReadyH.nil;go_simp
 have T4:=T.out.move G4.out
 refine (rcmpr_any ikN (f:=w2) (r:=(⟨1,1⟩,⟨2,1⟩)) (a:=⟨1,1⟩) ((HP.out.below ikN G4.out).below ikN Bel.go) (by decide) p9_w2 (T4.r.hz.below Bel.go) (T4.r.hq.below Bel.go) (T4.hz.below Bel.go) (T4.hq.below Bel.go) (H4.out.1.below Bel.go) (H4.out.2.below Bel.go) p9_one p9_two p9_one).mono ?_
 rintro e w5 ⟨he,hb5⟩
 rw [sq_cmp,show vld 2 w2 (⟨1,1⟩:Fq) ⟨2,1⟩=true from sq_vld] at he
 have he2:e=.returned (.tuple #[.int .i64 1,.int .i64 0]):=he
 subst he2
 have G5:=Lib.hid (G4.out.trans (((Below.trans Bel.go (hb5.mono (by simp<;>omega))):Below w4.heap.size w4 w5).mono G4.out.size))
 obtain ⟨hcx,hfx⟩:=bcellS hb5
 refine hK.out _ _ ?_ (fun _=>?_)
 ·((try dsimp only);repeat' apply And.intro)<;>(rw [hcx _ (by go_simp)];go_simp)
 clear hHeld hK K hcx hfx;rename_i hHeld
 clear hb5 he T4
 (refine tk (i:=4) (v:=?_) rfl rfl (Or.inl ⟨by rfl,?_⟩) ?_;rotate_left;(focus (intro w hSw;(try dsimp only at hSw);go_simp;(try with_reducible rfl)));(simp only [put_lit,List.set]))
 (refine tk (i:=5) (v:=?_) rfl rfl (Or.inl ⟨by rfl,?_⟩) ?_;rotate_left;(focus (intro w hSw;(try dsimp only at hSw);go_simp;(try with_reducible rfl)));(simp only [put_lit,List.set]))
 (refine tk (i:=6) (v:=?_) rfl rfl (Or.inl ⟨by rfl,?_⟩) ?_;rotate_left;(focus (intro w hSw;(try dsimp only at hSw);go_simp;(try with_reducible rfl)));(simp only [put_lit,List.set]))
 (refine tk (i:=7) (v:=?_) rfl rfl (Or.inl ⟨by rfl,?_⟩) ?_;rotate_left;(focus (intro w hSw;(try dsimp only at hSw);go_simp;(try with_reducible rfl)));(simp only [put_lit,List.set]))
 (refine tk (i:=8) (v:=?_) rfl rfl (Or.inl ⟨by rfl,?_⟩) ?_;rotate_left;(focus (intro w hSw;(try dsimp only at hSw);go_simp;(try with_reducible rfl)));(simp only [put_lit,List.set]))
 refine wpAnyH_done (by kernel_rfl) ?_ _
 replace Hb:=Lib.hid (Hb.out.trans (G5.out.mono Hb.out.size))
 clear hHeld x0 x1 x2 x3 x4 x5 T HP G4 G5 H4
 go_wp2
 go_ret
 exact ⟨by first | rfl | simp,Hb.out⟩
theorem Vals.getv {w:World} {g o:Nat} {rs:List (Fq×Fq)} (h:Vals w g o rs) {k:Nat} (hk:k<rs.length) :
  ∃ n A l c B m d n' A' l' c' B' m' d',w.cell? ⟨g,o+k*6,none⟩=some (.bool n)∧w.cell? ⟨g,o+k*6+1,none⟩=some (.slice A l c)∧w.cell? ⟨g,o+k*6+2,none⟩=some (.slice B m d)∧w.cell? ⟨g,o+k*6+3,none⟩=some (.bool n')∧w.cell? ⟨g,o+k*6+4,none⟩=some (.slice A' l' c')∧w.cell? ⟨g,o+k*6+5,none⟩=some (.slice B' m' d') ∧
    IntN w n A l c (rs.getD k r00).1.z∧NatN w B m d (rs.getD k r00).1.q∧IntN w n' A' l' c' (rs.getD k r00).2.z∧NatN w B' m' d' (rs.getD k r00).2.q:=by
 have e:rs[k]?=some (rs.getD k r00):=by rw [List.getD_eq_getElem?_getD,List.getElem?_eq_getElem hk];rfl
 obtain ⟨vs,⟨n,A,l,c,B,m,d,n',A',l',c',B',m',d',hv,h1,h2,h3,h4⟩,hc⟩:=h k _ e
 subst hv
 exact ⟨n,A,l,c,B,m,d,n',A',l',c',B',m',d',hc 0 _ rfl,hc 1 _ rfl,hc 2 _ rfl,hc 3 _ rfl,hc 4 _ rfl,hc 5 _ rfl,h1,h2,h3,h4⟩
def PickE (rs:List (Fq×Fq)) (k:Nat) (e:Ending) (w:World):Prop :=
 (rs.length=0∧e=.returned (.tuple #[.agg rz6,.bool false])) ∨
 (0<rs.length∧∃ n A l c B m d n' A' l' c' B' m' d',e=.returned (.tuple #[.agg #[.bool n,.slice A l c,.slice B m d,.bool n',.slice A' l' c',.slice B' m' d'],.bool true])∧IntN w n A l c (rs.getD (k % rs.length) r00).1.z∧NatN w B m d (rs.getD (k % rs.length) r00).1.q∧IntN w n' A' l' c' (rs.getD (k % rs.length) r00).2.z∧NatN w B' m' d' (rs.getD (k % rs.length) r00).2.q)
set_option maxRecDepth 100000 in
set_option maxHeartbeats 4000000 in
theorem pick_any {I:IntPred} (hI:IK I) {w:World} {Af:Option Addr} {lf cf:Nat} {f:List Int} {k:Nat} (hf:PolyP I w Af lf cf f) (hl:f.length≤10) (h9:P9 f) (hk:k≤255) :
  Calls Tryz.prog 22 #[.slice Af lf cf,.int .u8 (k:Int)] w fun e w'=>PickE (proots f) k e w'∧Below w.heap.size w w':=by
 have hlf:lf≤10:=by have:=hf.length;omega
 have o1:=below_new w rtObj
 have K3:Blk (w.alloc rtObj) w.heap.size 44 rz6:=Blk.new _ _ _
 have HP:=Lib.hid (hf.below hI o1)
 have Hb:=Lib.hid o1
 have K4:=Lib.hid K3
 have hn9:=proots_le9 h9
 obtain ⟨RS,hRS⟩:∃ R,R=proots f:=⟨_,rfl⟩
 rw [← hRS] at hn9 ⊢
 have HRS:=Lib.hid hRS
 obtain ⟨g3,hg3⟩:∃ g,g=w.heap.size:=⟨_,rfl⟩
 have HG3:=Lib.hid hg3
 have Hg:=Lib.hid (show w.heap.size≤g3 by omega)
 rw [← hg3] at K4
 have i1:IntKind.i64.wrap (k:Int)=(k:Int):=IntWalk.i64_in _ (by omega)
 clear hf o1 K3 hRS hg3
 go_enter Tryz.func22,Tryz.ntmps22
 go_wp2_with fail
 refine (roots_any hI _ _ _ f _ HP.out h9.cp.fit.smp (fun _=>h9.q) (fun h=>SqF.of9 h9 h) (by omega)).mono ?_
 rintro e w1 ⟨⟨A1,l1,c1,rfl,h1⟩,hb1⟩
 rw [← HRS.out] at h1
 have hl1:l1=RS.length:=h1.length.symm
 have HR:=Lib.hid h1
 replace K4:=Lib.hid (K4.out.below hb1 K4.out.lt)
 replace Hb:=Lib.hid (Hb.out.trans (hb1.mono Hb.out.size))
 clear hb1 h1 HP
 by_cases h0:l1=0
 ·subst h0
  have FX:=Lib.hid hl1
  have nd:=rz6_ndb K4.out
  have hf:=pu6_frs w1 g3 (.bool false) (.slice none 0 0) (.slice none 0 0) (.bool false) (.slice none 0 0) (.slice none 0 0)
  have Hb2:=Lib.hid (hf.mono Hb.out Hg.out Hg.out Hb.out.size)
  rw [← HG3.out]
  have r0:=(K4.out.cell 0).trans rfl;have r1:=(K4.out.cell 1).trans rfl;have r2:=(K4.out.cell 2).trans rfl;have r3:=(K4.out.cell 3).trans rfl;have r4:=(K4.out.cell 4).trans rfl;have r5:=(K4.out.cell 5).trans rfl;have s0:=K4.out.frozen 0;have s1:=K4.out.frozen 1;have s2:=K4.out.frozen 2;have s3:=K4.out.frozen 3;have s4:=K4.out.frozen 4;have s5:=K4.out.frozen 5
  clear K4 Hb nd hf HR hl1
  go_wp2
  refine bodyPost_ret (v:=.tuple #[.agg rz6,.bool false]) (by simp [results,Tryz.results22,go_sem,r0,r1,r2,r3,r4,r5]) rfl ⟨.inl ⟨FX.out.symm,rfl⟩,Hb2.out⟩
 ·have g1:((l1:Int) == 0)=false:=by rw [beq_eq_false_iff_ne];omega
  have g2:(l1:Int)≠0:=by omega
  have hlt:k % RS.length<RS.length:=Nat.mod_lt _ (by omega)
  obtain ⟨j,hj⟩:∃ j,j=k % RS.length:=⟨_,rfl⟩
  have hjl:j<RS.length:=by rw [hj];exact hlt
  have em:Int.tmod (k:Int) (l1:Int)=(j:Int):=by rw [hj,hl1];exact Int.ofNat_tmod _ _
  have i2:IntKind.i64.wrap (j:Int)=(j:Int):=IntWalk.i64_in _ (by omega)
  have ja:(j:Int)<(l1:Int):=by omega
  obtain ⟨b,o,rfl,hb0,hv⟩:∃ b o,A1=some ⟨b,o,none⟩∧b<w1.heap.size∧Vals w1 b o RS:=by
   rcases HR.out.elems with ⟨h,_⟩ | h
   ·omega
   ·exact h
  obtain ⟨n,A,l,c,B,m,d,n',A',l',c',B',m',d',e0,e1,e2,e3,e4,e5,z1,z2,z3,z4⟩:=hv.getv hjl
  have hf:=pu6_frs w1 g3 (.bool n) (.slice A l c) (.slice B m d) (.bool n') (.slice A' l' c') (.slice B' m' d')
  have nd:=rz6_ndb K4.out
  have FX:=Lib.hid (show PickE RS k (.returned (.tuple #[.agg #[.bool n,.slice A l c,.slice B m d,.bool n',.slice A' l' c',.slice B' m' d'],.bool true])) (pu6 w1 g3 (.bool n) (.slice A l c) (.slice B m d) (.bool n') (.slice A' l' c') (.slice B' m' d')) from .inr ⟨by omega,_,_,_,_,_,_,_,_,_,_,_,_,_,_,rfl,by rw [← hj];exact z1.frs hf nd nd,by rw [← hj];exact z2.frs hf nd nd,by rw [← hj];exact z3.frs hf nd nd,by rw [← hj];exact z4.frs hf nd nd⟩)
  have Hb2:=Lib.hid (hf.mono Hb.out Hg.out Hg.out Hb.out.size)
  rw [← HG3.out]
  have r0:=(K4.out.cell 0).trans rfl;have r1:=(K4.out.cell 1).trans rfl;have r2:=(K4.out.cell 2).trans rfl;have r3:=(K4.out.cell 3).trans rfl;have r4:=(K4.out.cell 4).trans rfl;have r5:=(K4.out.cell 5).trans rfl;have s0:=K4.out.frozen 0;have s1:=K4.out.frozen 1;have s2:=K4.out.frozen 2;have s3:=K4.out.frozen 3;have s4:=K4.out.frozen 4;have s5:=K4.out.frozen 5
  clear K4 Hb nd hf HR hv z1 z2 z3 z4 hj hlt h0 hl1
  go_wp2_with fail
  refine bodyPost_ret (v:=.tuple #[.agg #[.bool n,.slice A l c,.slice B m d,.bool n',.slice A' l' c',.slice B' m' d'],.bool true]) (by simp [results,Tryz.results22,go_sem,r0,r1,r2,r3,r4,r5]) rfl ⟨FX.out,Hb2.out⟩
end Go.Proofs.YtbfddopopajgaaaGreat
namespace Go.Proofs.YtbfddopopajgaaaGreat
open Go Go.RowKit
theorem at_ok {p d:Int} (hp:I8 p) (hd:I8 d):AtOK (rtz p d) (rtq p d)∧(rtz p d).natAbs≤ZB∧rtq p d≤ZB:=by
 obtain ⟨b1,b2,b3⟩:=fr_bd hp hd
 have hz:(rtz p d).natAbs≤128:=by
  unfold rtz
  rw [Int.natAbs_tdiv,Int.natAbs_mul]
  refine Nat.le_trans (Nat.div_le_self _ _) ?_
  have:(sg (frd d)).natAbs≤1:=by rcases sg_cases (frd d) with ⟨_,e⟩ | ⟨_,e⟩ | ⟨_,e⟩<;>omega
  exact Nat.le_trans (Nat.mul_le_mul this b1) (by omega)
 have hg:0<Nat.gcd (frn p d).natAbs (frd d).natAbs:=Nat.gcd_pos_of_pos_right _ (by omega)
 have hq:rtq p d≤128:=by unfold rtq;exact Nat.le_trans (Nat.div_le_self _ _) (by omega)
 have hq0:0<rtq p d:=by
  unfold rtq
  exact Nat.div_pos (Nat.le_of_dvd (by omega) (Nat.gcd_dvd_right _ _)) hg
 have zb:=zb_128
 refine ⟨⟨fit_lt2 (by omega),fit_lt2 (by rw [Int.natAbs_natCast];omega),hq0,fit_lt2 ?_,fit_lt2 ?_⟩,by omega,by omega⟩
 ·rw [Int.natAbs_tdiv];exact Nat.lt_of_le_of_lt (Nat.div_le_self _ _) (by omega)
 ·rw [Int.natAbs_natCast];exact Nat.lt_of_le_of_lt (Nat.div_le_self _ _) (by omega)
theorem short_bd {w:World} {A:Option Addr} {l c:Nat} {p:List Int} (h:I16At w A l c p) (n:Nat):plen (ptrim (p.take n))≤n∧(ptrim (p.take n)).length≤n∧ptrim (ptrim (p.take n))=ptrim (p.take n)∧∀ j,((ptrim (p.take n)).getD j 0).natAbs≤32768:=by
 have h1:=plen_le (p.take n)
 rw [List.length_take] at h1
 refine ⟨by rw [plen_ptrim];omega,by rw [ptrim_length];omega,ptrim_ptrim _,fun j=>?_⟩
 rw [ptrim_getD]
 rcases Nat.lt_or_ge j (p.take n).length with hj | hj
 ·have hmem:(p.take n).getD j 0∈p:=by
   rw [List.getD_eq_getElem?_getD,List.getElem?_eq_getElem hj]
   exact List.mem_of_mem_take (List.getElem_mem _)
  have:=h.range _ hmem
  omega
 ·rw [getD_out _ hj];omega
theorem short_p9 {w:World} {A:Option Addr} {l c:Nat} {p:List Int} (h:I16At w A l c p) {n:Nat} (hn:n≤9):P9 (ptrim (p.take n)):=by
 obtain ⟨h1,_,_,h2⟩:=short_bd h n
 exact ⟨by omega,fun j=>Nat.le_trans (h2 j) (by rw [BB_eq];decide)⟩
end Go.Proofs.YtbfddopopajgaaaGreat
namespace Go.Proofs.YtbfddopopajgaaaGreat
open Go.RowKit
set_option maxRecDepth 100000 in
set_option maxHeartbeats 8000000 in
theorem radd_any (n:Bool) (A:Option Addr) (l c:Nat) (B:Option Addr) (m d q:Nat) (z:Int) (n':Bool) (A':Option Addr) (l' c':Nat) (B':Option Addr) (m' d' q':Nat) (z':Int) (w:World) (hz:IntN w n A l c z) (hq:NatN w B m d q) (hz':IntN w n' A' l' c' z') (hq':NatN w B' m' d' q') (fz:Fit z) (fq:Fit (q:Int)) (h0:0<q) (fz':Fit z') (fq':Fit (q':Int)) (h0':0<q') :
  Calls Tryz.prog 33 #[.agg #[.bool n,.slice A l c,.slice B m d],.agg #[.bool n',.slice A' l' c',.slice B' m' d']] w fun e w'=>RatE ((z*(q':Int)+z'*(q:Int)).tdiv (Nat.gcd (z*(q':Int)+z'*(q:Int)).natAbs (q*q'))) (q*q' / Nat.gcd (z*(q':Int)+z'*(q:Int)).natAbs (q*q')) e w'∧Below w.heap.size w w':=by
 have sq:=fq.smnat
 have sq':=fq'.smnat
 obtain ⟨S1,hS1⟩:∃ S1,S1=z*(q':Int):=⟨_,rfl⟩
 obtain ⟨S2,hS2⟩:∃ S2,S2=z'*(q:Int):=⟨_,rfl⟩
 obtain ⟨DD,hDD⟩:∃ DD,DD=q*q':=⟨_,rfl⟩
 have ss1:SmI S1:=by rw [hS1];exact fz.sm2 fq'
 have ss2:SmI S2:=by rw [hS2];exact fz'.sm2 fq
 have ssum:Sm (S1.natAbs+S2.natAbs):=by
  have a1:=fz.mul fq'
  have a2:=fz'.mul fq
  rw [← hS1] at a1
  rw [← hS2] at a2
  refine sm_pow (k:=FW+FW+1) ?_ (by rw [FW_eq];decide)
  have a3:2*BB^(FW+FW)<BB^(FW+FW+1):=mulpow_lt (by omega)
  omega
 have sS:SmI (S1+S2):=Sm.mono ssum (by omega)
 have sqq:SmI ((q:Int)*(q':Int)):=fq.sm2 fq'
 have sD:SmI (DD:Int):=by rw [hDD,Int.natCast_mul];exact sqq
 have hD0:0<DD:=by rw [hDD];exact Nat.mul_pos h0 h0'
 rw [← hS1,← hS2,← hDD]
 have HS1:=Lib.hid hS1
 have HS2:=Lib.hid hS2
 have HDD:=Lib.hid hDD
 clear hS1 hS2 hDD
 have o1:=new_below w (rbox n A l c B m d)
 have o2:=new_below (w.alloc (rbox n A l c B m d)) (rbox n' A' l' c' B' m' d')
 have o3:=new_below ((w.alloc (rbox n A l c B m d)).alloc (rbox n' A' l' c' B' m' d')) (rbox false none 0 0 none 0 0)
 have b3:Below w.heap.size w (((w.alloc (rbox n A l c B m d)).alloc (rbox n' A' l' c' B' m' d')).alloc (rbox false none 0 0 none 0 0)):=(o1.alloc (by simp) _).alloc (by simp;omega) _
 have R1:=((RBox.make hz hq).move o2).move o3
 have R2:=(RBox.make (hz'.below o1) (hq'.below o1)).move o3
 have R4:=RBox.nil ((w.alloc (rbox n A l c B m d)).alloc (rbox n' A' l' c' B' m' d'))
 simp only [World.size_alloc] at R2 R4
 replace R1:=Lib.hid R1
 replace R2:=Lib.hid R2
 replace R4:=Lib.hid R4
 have Hb:=Lib.hid b3
 clear o1 o2 o3 b3 hz hq hz' hq'
 go_enter Tryz.func33,Tryz.ntmps33
 go_wp2_with fail
 refine (parts_any _ _ _ _ _ _ _ _ _ R1.out.hq.at_ sq (by omega)).mono ?_
 rintro e w1 ⟨rfl,hb1⟩
 replace R1:=Lib.hid (R1.out.move hb1)
 replace R2:=Lib.hid (R2.out.move hb1)
 replace R4:=Lib.hid (R4.out.move hb1)
 replace Hb:=Lib.hid (Hb.out.trans (hb1.mono Hb.out.size))
 have lt4:w.heap.size+1+1<w1.heap.size:=R4.out.lt
 have x0:=R2.out.c0
 have x1:=R2.out.c1
 have x2:=R2.out.c2
 have ltx:w.heap.size+1<w1.heap.size:=by omega
 have lty:w.heap.size+1<w1.heap.size+1:=by omega
 clear hb1
 go_wp2_with fail
 have k1:=new_below w1 (ibox n A l c)
 have k2:=new_below (w1.alloc (ibox n A l c)) (ibox false B m d)
 have kb:Below w1.heap.size w1 ((w1.alloc (ibox n A l c)).alloc (ibox false B m d)):=k1.alloc (by simp) _
 have i5:=(IBox.make R1.out.hz).move k2
 have hqP:IntN w1 false B m d (q:Int):=⟨by rw [Int.natAbs_natCast];exact R1.out.hq,by simp⟩
 have i6:=IBox.make (hqP.below k1)
 simp only [World.size_alloc] at i6
 replace R2:=Lib.hid (R2.out.move kb)
 replace R4:=Lib.hid (R4.out.move kb)
 replace Hb:=Lib.hid (Hb.out.trans (kb.mono Hb.out.size))
 have I5:=Lib.hid i5
 have I6:=Lib.hid i6
 clear k1 k2 kb i5 i6 hqP R1 x0 x1 x2
 refine (parts_any _ _ _ _ _ _ _ _ _ R2.out.hq.at_ sq' (by omega)).mono ?_
 rintro e w2 ⟨rfl,hb2⟩
 have hsz2:=hb2.size
 simp only [World.size_alloc] at hsz2
 replace I5:=Lib.hid (I5.out.move hb2)
 replace I6:=Lib.hid (I6.out.move hb2)
 replace R2:=Lib.hid (R2.out.move hb2)
 replace R4:=Lib.hid (R4.out.move hb2)
 replace Hb:=Lib.hid (Hb.out.trans (hb2.mono Hb.out.size))
 have k1:=new_below w2 (ibox n' A' l' c')
 have k2:=new_below (w2.alloc (ibox n' A' l' c')) (ibox false B' m' d')
 have kb:Below w2.heap.size w2 ((w2.alloc (ibox n' A' l' c')).alloc (ibox false B' m' d')):=k1.alloc (by simp) _
 have i7:=(IBox.make R2.out.hz).move k2
 have hqP:IntN w2 false B' m' d' (q':Int):=⟨by rw [Int.natAbs_natCast];exact R2.out.hq,by simp⟩
 have i8:=IBox.make (hqP.below k1)
 simp only [World.size_alloc] at i8
 replace I5:=Lib.hid (I5.out.move kb)
 replace I6:=Lib.hid (I6.out.move kb)
 replace R4:=Lib.hid (R4.out.move kb)
 replace Hb:=Lib.hid (Hb.out.trans (kb.mono Hb.out.size))
 have I7:=Lib.hid i7
 have I8:=Lib.hid i8
 clear k1 k2 kb i7 i8 hqP R2 hb2
 obtain ⟨wc,hwc⟩:∃ wc,wc=(w2.alloc (ibox n' A' l' c')).alloc (ibox false B' m' d'):=⟨_,rfl⟩
 have hszc:wc.heap.size=w2.heap.size+1+1:=by rw [hwc];simp
 go_wp2_with fail
 rw [← hwc] at I5 I6 I7 I8 R4 Hb ⊢
 clear hwc
 obtain ⟨g4,hg4⟩:∃ g,g=w.heap.size+1+1:=⟨_,rfl⟩
 obtain ⟨g5,hg5⟩:∃ g,g=w1.heap.size:=⟨_,rfl⟩
 obtain ⟨g6,hg6⟩:∃ g,g=w1.heap.size+1:=⟨_,rfl⟩
 obtain ⟨g7,hg7⟩:∃ g,g=w2.heap.size:=⟨_,rfl⟩
 obtain ⟨g8,hg8⟩:∃ g,g=w2.heap.size+1:=⟨_,rfl⟩
 rw [← hg4] at R4
 rw [← hg5] at I5
 rw [← hg6] at I6
 rw [← hg7] at I7
 rw [← hg8] at I8
 rw [← hg4,← hg6,← hg5,← hg8,← hg7]
 have l4:g4<wc.heap.size:=by omega
 have l4w:w.heap.size<g4:=by omega
 have l5:g5<wc.heap.size:=by omega
 have l6:g6<wc.heap.size:=by omega
 have l7:g7<wc.heap.size:=by omega
 have l8:g8<wc.heap.size:=by omega
 clear hg4 hg5 hg6 hg7 hg8 hszc hsz2 lt4 ltx lty
 have a0:=I5.out.c0
 have a1:=I5.out.c1
 have b0:=I6.out.c0
 have b1:=I6.out.c1
 have d0:=I7.out.c0
 have d1:=I7.out.c1
 have e0:=I8.out.c0
 have e1:=I8.out.c1
 refine wp_region_last (S:=fun w'=>w'.cell? ⟨g5,0,none⟩=some (.bool n)∧w'.cell? ⟨g5,1,none⟩=some (.slice A l c)∧w'.cell? ⟨g6,0,none⟩=some (.bool false)∧w'.cell? ⟨g6,1,none⟩=some (.slice B m d)∧w'.cell? ⟨g7,0,none⟩=some (.bool n')∧w'.cell? ⟨g7,1,none⟩=some (.slice A' l' c')∧w'.cell? ⟨g8,0,none⟩=some (.bool false)∧w'.cell? ⟨g8,1,none⟩=some (.slice B' m' d')) (by kernel_rfl) (by kernel_rfl) (by (try dsimp only);go_keep) (fun hHeld=>?_)
 simp only [List.pop_toArray,List.dropLast]
 (refine tk (i:=0) (v:=?_) rfl rfl (Or.inl ⟨by rfl,?_⟩) ?_;rotate_left;(focus (intro w hSw;(try dsimp only at hSw);go_simp;(try with_reducible rfl)));(simp only [put_lit,List.set]))
 (refine tk (i:=1) (v:=?_) rfl rfl (Or.inl ⟨by rfl,?_⟩) ?_;rotate_left;(focus (intro w hSw;(try dsimp only at hSw);go_simp;(try with_reducible rfl)));(simp only [put_lit,List.set]))
 (refine tk (i:=3) (v:=?_) rfl rfl (Or.inl ⟨by rfl,?_⟩) ?_;rotate_left;(focus (intro w hSw;(try dsimp only at hSw);go_simp;(try with_reducible rfl)));(simp only [put_lit,List.set]))
 (refine tk (i:=4) (v:=?_) rfl rfl (Or.inl ⟨by rfl,?_⟩) ?_;rotate_left;(focus (intro w hSw;(try dsimp only at hSw);go_simp;(try with_reducible rfl)));(simp only [put_lit,List.set]))
 (refine tk (i:=7) (v:=?_) rfl rfl (Or.inl ⟨by rfl,?_⟩) ?_;rotate_left;(focus (intro w hSw;(try dsimp only at hSw);go_simp;(try with_reducible rfl)));(simp only [put_lit,List.set]))
 (refine tk (i:=8) (v:=?_) rfl rfl (Or.inl ⟨by rfl,?_⟩) ?_;rotate_left;(focus (intro w hSw;(try dsimp only at hSw);go_simp;(try with_reducible rfl)));(simp only [put_lit,List.set]))
 refine wpAnyH_ready (rs:=[2]) (by kernel_rfl) (by simp) ?_
 refine AllReadyH.cons rfl (fun K hK=>?_) AllReadyH.nil;go_simp
 refine (imul_any _ _ _ _ _ _ _ _ _ _ _ ?_ ?_ fz.sm fq'.sm (fz.mulok _)).mono ?_
 ·exact I5.out.hz.at_.below Bel.go
 ·exact I8.out.hz.at_.below Bel.go
 rintro e w10 ⟨n10,A10,l10,c10,rfl,h10,hb10⟩
 rw [← HS1.out] at h10
 obtain ⟨hcx,hfx⟩:=bcellS hb10
 replace I6:=Lib.hid (I6.out.move (Below.trans Bel.go (hb10.mono (by simp<;>omega))))
 replace I7:=Lib.hid (I7.out.move (Below.trans Bel.go (hb10.mono (by simp<;>omega))))
 replace I8:=Lib.hid (I8.out.move (Below.trans Bel.go (hb10.mono (by simp<;>omega))))
 replace R4:=Lib.hid (R4.out.move (Below.trans Bel.go (hb10.mono (by simp<;>omega))))
 replace Hb:=Lib.hid (Hb.out.trans ((Below.trans Bel.go (hb10.mono (by simp<;>omega))).mono Hb.out.size))
 have H10:=Lib.hid h10
 refine hK.out _ _ ?_ (fun _=>?_)
 ·((try dsimp only);repeat' apply And.intro)<;>(rw [hcx _ (by go_simp)];go_simp)
 clear hHeld hK K hcx hfx;rename_i hHeld
 clear h10 hb10
 refine wpAnyH_ready (rs:=[5]) (by kernel_rfl) (by simp) ?_
 refine AllReadyH.cons rfl (fun K hK=>?_) AllReadyH.nil;go_simp
 refine (imul_any _ _ _ _ _ _ _ _ _ _ _ ?_ ?_ fz'.sm fq.sm (fz'.mulok _)).mono ?_
 ·exact I7.out.hz.at_.below Bel.go
 ·exact I6.out.hz.at_.below Bel.go
 rintro e w11 ⟨n11,A11,l11,c11,rfl,h11,hb11⟩
 rw [← HS2.out] at h11
 obtain ⟨hcx,hfx⟩:=bcellS hb11
 replace I6:=Lib.hid (I6.out.move (Below.trans Bel.go (hb11.mono (by simp<;>omega))))
 replace I8:=Lib.hid (I8.out.move (Below.trans Bel.go (hb11.mono (by simp<;>omega))))
 replace R4:=Lib.hid (R4.out.move (Below.trans Bel.go (hb11.mono (by simp<;>omega))))
 replace Hb:=Lib.hid (Hb.out.trans ((Below.trans Bel.go (hb11.mono (by simp<;>omega))).mono Hb.out.size))
 replace H10:=Lib.hid (H10.out.below (Below.trans Bel.go (hb11.mono (by simp<;>omega))))
 have H11:=Lib.hid h11
 refine hK.out _ _ ?_ (fun _=>?_)
 ·((try dsimp only);repeat' apply And.intro)<;>(rw [hcx _ (by go_simp)];go_simp)
 clear hHeld hK K hcx hfx;rename_i hHeld
 clear h11 hb11
 refine wpAnyH_ready (rs:=[6]) (by kernel_rfl) (by simp) ?_
 refine AllReadyH.cons rfl (fun K hK=>?_) AllReadyH.nil;go_simp
 refine (iadd_any _ _ _ _ S1 _ _ _ _ S2 _ (H10.out.at_.below Bel.go) (H11.out.at_.below Bel.go) ss1 ss2 ssum).mono ?_
 rintro e w12 ⟨n12,A12,l12,c12,rfl,h12,hb12⟩
 obtain ⟨hcx,hfx⟩:=bcellS hb12
 replace I6:=Lib.hid (I6.out.move (Below.trans Bel.go (hb12.mono (by simp<;>omega))))
 replace I8:=Lib.hid (I8.out.move (Below.trans Bel.go (hb12.mono (by simp<;>omega))))
 replace R4:=Lib.hid (R4.out.move (Below.trans Bel.go (hb12.mono (by simp<;>omega))))
 replace Hb:=Lib.hid (Hb.out.trans ((Below.trans Bel.go (hb12.mono (by simp<;>omega))).mono Hb.out.size))
 have H12:=Lib.hid h12
 refine hK.out _ _ ?_ (fun _=>?_)
 ·((try dsimp only);repeat' apply And.intro)<;>(rw [hcx _ (by go_simp)];go_simp)
 clear hHeld hK K hcx hfx;rename_i hHeld
 clear h12 hb12 H10 H11
 refine wpAnyH_ready (rs:=[9]) (by kernel_rfl) (by simp) ?_
 refine AllReadyH.cons rfl (fun K hK=>?_) AllReadyH.nil;go_simp
 refine (imul_any _ _ _ _ _ _ _ _ _ _ _ ?_ ?_ fq.sm fq'.sm (fq.mulok _)).mono ?_
 ·exact I6.out.hz.at_.below Bel.go
 ·exact I8.out.hz.at_.below Bel.go
 rintro e w13 ⟨n13,A13,l13,c13,rfl,h13,hb13⟩
 have e13:(q:Int)*(q':Int)=(DD:Int):=by rw [HDD.out,Int.natCast_mul]
 rw [e13] at h13
 obtain ⟨hcx,hfx⟩:=bcellS hb13
 replace R4:=Lib.hid (R4.out.move (Below.trans Bel.go (hb13.mono (by simp<;>omega))))
 replace Hb:=Lib.hid (Hb.out.trans ((Below.trans Bel.go (hb13.mono (by simp<;>omega))).mono Hb.out.size))
 replace H12:=Lib.hid (H12.out.below (Below.trans Bel.go (hb13.mono (by simp<;>omega))))
 have H13:=Lib.hid h13
 refine hK.out _ _ ?_ (fun _=>?_)
 ·((try dsimp only);repeat' apply And.intro)<;>(rw [hcx _ (by go_simp)];go_simp)
 clear hHeld hK K hcx hfx;rename_i hHeld
 clear h13 hb13 e13
 refine wpAnyH_ready (rs:=[10]) (by kernel_rfl) (by simp) ?_
 refine AllReadyH.cons rfl (fun K hK=>?_) AllReadyH.nil;go_simp
 refine (reduce_all _ _ _ _ (S1+S2) _ _ _ _ DD _ (H12.out.below Bel.go) (H13.out.below Bel.go) sS sD hD0).mono ?_
 rintro e w14 ⟨⟨n14,A14,l14,c14,B14,m14,d14,rfl,h14,k14⟩,hb14⟩
 obtain ⟨hcx,hfx⟩:=bcellS hb14
 have j4:=R4.out.move (Below.trans Bel.go (hb14.mono (by simp<;>omega)))
 have Jb2:=Lib.hid (Hb.out.trans ((Below.trans Bel.go (hb14.mono (by simp<;>omega))).mono Hb.out.size))
 refine hK.out _ _ ?_ (fun _=>?_)
 ·((try dsimp only);repeat' apply And.intro)<;>(rw [hcx _ (by go_simp)];go_simp)
 clear hHeld hK K hcx hfx;rename_i hHeld
 refine wpAnyH_done (by kernel_rfl) (lastQ_list rfl ?_) _
 have HP:=Lib.hid (j4.put h14 k14)
 have r0:=j4.c0
 have r1:=j4.c1
 have r2:=j4.c2
 have r3:=j4.f0
 have r4:=j4.f1
 have r5:=j4.f2
 clear hHeld j4 h14 k14 hb14 a0 a1 b0 b1 d0 d1 e0 e1
 go_wp2
 refine bodyPost_ret (v:=.agg #[.bool n14,.slice A14 l14 c14,.slice B14 m14 d14]) (by simp [results,Tryz.results33,go_sem,r0,r1,r2]) rfl ⟨⟨_,_,_,_,_,_,_,rfl,HP.out.hz,HP.out.hq⟩,?_⟩
 exact ((Jb2.out.setCell (p:=⟨g4,0,none⟩) (by simp;omega) _).setCell (p:=⟨g4,1,none⟩) (by simp;omega) _).setCell (p:=⟨g4,2,none⟩) (by simp;omega) _
end Go.Proofs.YtbfddopopajgaaaGreat
namespace Go.Proofs.YtbfddopopajgaaaGreat
open Go Go.RowKit
set_option maxRecDepth 100000 in
set_option maxHeartbeats 8000000 in
theorem law_halves (A:Option Addr) (la ca:Nat) (cs:List Int) (k:Nat) (w:World) (h:I16At w A la ca cs) (hlm:la≤9223372036854775807) (hk:k≤255) :
  Calls Tryz.prog 6 #[.slice A la ca,.int .u8 (k:Int)] w fun e w'=>e=.returned (.bool true)∧Below w.heap.size w w':=by
 have Hi:=Lib.hid h
 have F9:P9 (ptrim (cs.take 7)):=short_p9 h (by omega)
 obtain ⟨_,lF,tF,_⟩:=short_bd h 7
 obtain ⟨F,hF⟩:∃ F,F=ptrim (cs.take 7):=⟨_,rfl⟩
 rw [← hF] at F9 lF tF
 have HFe:=Lib.hid hF.symm
 clear h hF
 go_enter Tryz.func6,Tryz.ntmps6
 go_wp2_with fail
 refine (awake18_any _).mono ?_
 rintro e w1 ⟨rfl,hb1⟩
 replace Hi:=Lib.hid (Hi.out.below hb1)
 have Hb:=Lib.hid hb1
 clear hb1
 go_wp2_with fail
 refine (short_any _ _ _ 7 _ _ Hi.out (by omega) hlm).mono ?_
 rintro e w2 ⟨Af,lf,cf,rfl,h2f,hb2⟩
 rw [HFe.out] at h2f
 have hlf7:lf≤7:=by have:=h2f.length;omega
 have HP:=Lib.hid h2f
 replace Hb:=Lib.hid (Hb.out.trans (hb2.mono Hb.out.size))
 clear hb2 h2f Hi
 go_wp2_with fail
 refine (pick_any ikN HP.out (by omega) F9 hk).mono ?_
 rintro e w3 ⟨hpk,hb3⟩
 replace HP:=Lib.hid (HP.out.below ikN hb3)
 replace Hb:=Lib.hid (Hb.out.trans (hb3.mono Hb.out.size))
 clear hb3
 rcases hpk with ⟨_,rfl⟩ | ⟨hpos,n,A1,l1,c1,B,m,d,n',A2,l2,c2,B',m',d',rfl,z1,z2,z3,z4⟩
 ·have jb:=below_new w3 (.cells rz6 44)
  replace Hb:=Lib.hid (Hb.out.trans (jb.mono Hb.out.size))
  clear jb
  go_wp2_with fail
  go_ret
  exact ⟨rfl,Hb.out⟩
 have hj:k % (proots F).length<(proots F).length:=Nat.mod_lt _ hpos
 have hF0:plen F≠0:=fun e=>by rw [proots_nil e] at hpos;cases hpos
 obtain ⟨x,hx⟩:=proots_hst F9 hF0 hj
 obtain ⟨r0,hr0⟩:∃ r,r=(proots F).getD (k % (proots F).length) r00:=⟨_,rfl⟩
 rw [← hr0] at z1 z2 z3 z4 hx
 have K0:=Lib.hid (RBk.make (s:=r0) z1 z2 z3 z4)
 have HX:=Lib.hid hx
 have jb:=below_new w3 (tbox n A1 l1 c1 B m d n' A2 l2 c2 B' m' d')
 have Hj:=Lib.hid jb
 have HF0:=Lib.hid hF0
 clear z1 z2 z3 z4 hr0 hj hpos jb hx hF0
 obtain ⟨g6,hg6⟩:∃ g,g=w3.heap.size:=⟨_,rfl⟩
 obtain ⟨wb,hwb⟩:∃ wb,wb=w3.alloc (tbox n A1 l1 c1 B m d n' A2 l2 c2 B' m' d'):=⟨_,rfl⟩
 go_wp2_with fail
 rw [← hwb,← hg6] at K0
 rw [← hwb] at Hj ⊢
 rw [← hg6]
 have HG:=Lib.hid hg6
 clear hwb hg6
 go_loopw [8] (fun s8 wr=>∃ i:Nat,i≤4∧s8=.int .i64 (i:Int)∧∃ s n A1 l1 c1 B m d n' A2 l2 c2 B' m' d',HSt F x (NN+1+i) s∧RBk wr g6 n A1 l1 c1 B m d n' A2 l2 c2 B' m' d' s∧Below w3.heap.size w3 wr) (fun s8 _=>4-(intOf s8).toNat)
 case atStart=>exact ⟨0,by omega,rfl,r0,n,A1,l1,c1,B,m,d,n',A2,l2,c2,B',m',d',HX.out,K0.out,Hj.out⟩
 case round =>
  obtain ⟨i,hi,rfl,s,n,A1,l1,c1,B,m,d,n',A2,l2,c2,B',m',d',hs,hkb,hbw⟩:=hrel
  have K6:=Lib.hid hkb
  have Hbw:=Lib.hid hbw
  have HPr:=Lib.hid (HP.out.below ikN hbw)
  have HS:=Lib.hid hs
  have l6:=hkb.k.lt
  clear hkb hbw hs
  by_cases hlt:i<4
  ·have b1:decide ((i:Int)<4)=true:=decide_eq_true (by omega)
   have i1:IntKind.i64.wrap ((i:Int)+1)=(i:Int)+1:=IntWalk.i64_in _ (by omega)
   have hF0:=HF0.out
   obtain ⟨fa,fb⟩:=HS.out.fqb F9 hF0 (by omega)
   obtain ⟨hh,hlf2⟩:=HS.out.half F9 hF0
   obtain ⟨hn,hv1,hv2⟩:=hh.nf
   obtain ⟨fc,fd⟩:=hn.fqb F9 hF0 (by omega)
   have fhm:=HS.out.mid F9 hF0 (by omega)
   have fhh:=hh.fqb F9 hF0 (by omega)
   have hvld:=HS.out.vld F9 hF0
   have hwt:=HS.out.within F9 hF0 hn (by rw [hv1];exact hlf2.lo) (by rw [hv2];exact hlf2.hi)
   obtain ⟨t,ht⟩:∃ t,t=nfr (hlf (qpart F) s):=⟨_,rfl⟩
   rw [← ht] at hn hv1 hv2 fc fd hwt
   have wsz:=wid_sz fa fb
   have wtz:=wid_sz fc fd
   have waz:=wtz.add wtz
   have hcmp:fcmp ((wid t).add (wid t)) (wid s)≤0:=cmp_le waz.p wsz.p (by
    rw [Fq.add_v wtz.p wtz.p,wid_v fc.p fd.p,wid_v fa.p fb.p,hv1,hv2]
    have:=hlf2.w
    grind)
   obtain ⟨C,hC⟩:∃ C,C=fcmp ((wid t).add (wid t)) (wid s):=⟨_,rfl⟩
   rw [← hC] at hcmp
   have b2:decide (0<C)=false:=decide_eq_false (by omega)
   have HC:=Lib.hid hC
   have HT:=Lib.hid (show HSt F x (NN+1+(i+1)) t from hn)
   have HTE:=Lib.hid ht
   have HWT:=Lib.hid hwt
   have HV:=Lib.hid hvld
   have HMM:=Lib.hid fhm
   have HHH:=Lib.hid fhh
   clear hh hlf2 hn hv1 hv2 ht hC hwt hvld hF0 fhm fhh hcmp
   have x0:=K6.out.tb.r.c0;have x1:=K6.out.tb.r.c1;have x2:=K6.out.tb.r.c2;have x3:=K6.out.tb.c3;have x4:=K6.out.tb.c4;have x5:=K6.out.tb.c5
   go_wp2_with fail
   refine (halve_any ikN (r:=s) HPr.out (by omega) F9 K6.out.hz K6.out.hq K6.out.hz' K6.out.hq' fa fb (fun _=>HMM.out) (fun _=>HHH.out)).mono ?_
   rintro e w5 ⟨he,hb5⟩
   rw [HV.out] at he
   obtain ⟨n5,A5,l5,c5,B5,m5,d5,n6,A6,l6',c6,B6,m6,d6,rfl,y1,y2,y3,y4⟩:RtErr 0 t e w5:=by rw [HTE.out];exact he
   clear he
   have K9:=Lib.hid (RBk.make (s:=t) y1 y2 y3 y4)
   have jb:=below_new w5 (tbox n5 A5 l5 c5 B5 m5 d5 n6 A6 l6' c6 B6 m6 d6)
   have b5:=hb5.trans (jb.mono hb5.size)
   replace K6:=Lib.hid (K6.out.move b5)
   replace HPr:=Lib.hid (HPr.out.below ikN b5)
   replace Hbw:=Lib.hid (Hbw.out.trans (b5.mono Hbw.out.size))
   clear y1 y2 y3 y4 hb5 jb b5 x0 x1 x2 x3 x4 x5 l6
   obtain ⟨g9,hg9⟩:∃ g,g=w5.heap.size:=⟨_,rfl⟩
   obtain ⟨wk,hwk⟩:∃ wk,wk=w5.alloc (tbox n5 A5 l5 c5 B5 m5 d5 n6 A6 l6' c6 B6 m6 d6):=⟨_,rfl⟩
   go_wp2_with fail
   rw [← hwk,← hg9] at K9
   rw [← hwk] at K6 HPr Hbw ⊢
   rw [← hg9]
   have l9:=K9.out.k.lt
   have l6:=K6.out.k.lt
   clear hg9 hwk
   have x0:=K6.out.tb.r.c0;have x1:=K6.out.tb.r.c1;have x2:=K6.out.tb.r.c2;have x3:=K6.out.tb.c3;have x4:=K6.out.tb.c4;have x5:=K6.out.tb.c5
   have y0:=K9.out.tb.r.c0;have y1:=K9.out.tb.r.c1;have y2:=K9.out.tb.r.c2;have y3:=K9.out.tb.c3;have y4:=K9.out.tb.c4;have y5:=K9.out.tb.c5
   refine wp_region_held_drew (S:=fun w'=>(w'.cell? ⟨g6,0,none⟩=some (.bool n)∧w'.cell? ⟨g6,1,none⟩=some (.slice A1 l1 c1)∧w'.cell? ⟨g6,2,none⟩=some (.slice B m d)∧w'.cell? ⟨g6,3,none⟩=some (.bool n')∧w'.cell? ⟨g6,4,none⟩=some (.slice A2 l2 c2)∧w'.cell? ⟨g6,5,none⟩=some (.slice B' m' d'))∧w'.cell? ⟨g9,0,none⟩=some (.bool n5)∧w'.cell? ⟨g9,1,none⟩=some (.slice A5 l5 c5)∧w'.cell? ⟨g9,2,none⟩=some (.slice B5 m5 d5)∧w'.cell? ⟨g9,3,none⟩=some (.bool n6)∧w'.cell? ⟨g9,4,none⟩=some (.slice A6 l6' c6)∧w'.cell? ⟨g9,5,none⟩=some (.slice B6 m6 d6)) (by kernel_rfl) (by (try dsimp only);go_keep) (fun hHeld=>?_)
   have G0:=Lib.hid (Below.refl wk.heap.size wk)
   (refine tk (i:=0) (v:=?_) rfl rfl (Or.inl ⟨by rfl,?_⟩) ?_;rotate_left;(focus (intro w hSw;(try dsimp only at hSw);go_simp;(try with_reducible rfl)));(simp only [put_lit,List.set]))
   (refine tk (i:=1) (v:=?_) rfl rfl (Or.inl ⟨by rfl,?_⟩) ?_;rotate_left;(focus (intro w hSw;(try dsimp only at hSw);go_simp;(try with_reducible rfl)));(simp only [put_lit,List.set]))
   (refine tk (i:=2) (v:=?_) rfl rfl (Or.inl ⟨by rfl,?_⟩) ?_;rotate_left;(focus (intro w hSw;(try dsimp only at hSw);go_simp;(try with_reducible rfl)));(simp only [put_lit,List.set]))
   (refine tk (i:=3) (v:=?_) rfl rfl (Or.inl ⟨by rfl,?_⟩) ?_;rotate_left;(focus (intro w hSw;(try dsimp only at hSw);go_simp;(try with_reducible rfl)));(simp only [put_lit,List.set]))
   (refine tk (i:=4) (v:=?_) rfl rfl (Or.inl ⟨by rfl,?_⟩) ?_;rotate_left;(focus (intro w hSw;(try dsimp only at hSw);go_simp;(try with_reducible rfl)));(simp only [put_lit,List.set]))
   (refine tk (i:=5) (v:=?_) rfl rfl (Or.inl ⟨by rfl,?_⟩) ?_;rotate_left;(focus (intro w hSw;(try dsimp only at hSw);go_simp;(try with_reducible rfl)));(simp only [put_lit,List.set]))
   (refine wpAnyH_ready (rs:=[6]) (by kernel_rfl) (by simp) ?_;refine AllReadyH.cons rfl (fun K hK=>?_) AllReadyH.nil;go_simp)
   refine (within_any ikN (r:=t) (s:=s) (HPr.out.below ikN Bel.go) (by omega) F9 (K9.out.hz.below Bel.go) (K9.out.hq.below Bel.go) (K9.out.hz'.below Bel.go) (K9.out.hq'.below Bel.go) (K6.out.hz.below Bel.go) (K6.out.hq.below Bel.go) (K6.out.hz'.below Bel.go) (K6.out.hq'.below Bel.go) fc fd fa fb HWT.out).mono ?_
   rintro e w7 ⟨rfl,hb7⟩
   have G7:=Lib.hid (G0.out.trans (((Below.trans Bel.go (hb7.mono (by simp<;>omega))):Below wk.heap.size wk w7).mono G0.out.size))
   obtain ⟨hcx,hfx⟩:=bcellS hb7;refine hK.out _ _ ?_ (fun _=>?_);(focus (((try dsimp only);repeat' apply And.intro)<;>(rw [hcx _ (by go_simp)];go_simp)));clear hHeld hK K hcx hfx;rename_i hHeld;clear hb7
   (refine tk (i:=7) (v:=?_) rfl rfl (Or.inl ⟨by rfl,?_⟩) ?_;rotate_left;(focus (intro w hSw;(try dsimp only at hSw);go_simp;(try with_reducible rfl)));(simp only [put_lit,List.set]))
   (refine tk (i:=8) (v:=?_) rfl rfl (Or.inl ⟨by rfl,?_⟩) ?_;rotate_left;(focus (intro w hSw;(try dsimp only at hSw);go_simp;(try with_reducible rfl)));(simp only [put_lit,List.set]))
   (refine tk (i:=9) (v:=?_) rfl rfl (Or.inl ⟨by rfl,?_⟩) ?_;rotate_left;(focus (intro w hSw;(try dsimp only at hSw);go_simp;(try with_reducible rfl)));(simp only [put_lit,List.set]))
   (refine tk (i:=10) (v:=?_) rfl rfl (Or.inl ⟨by rfl,?_⟩) ?_;rotate_left;(focus (intro w hSw;(try dsimp only at hSw);go_simp;(try with_reducible rfl)));(simp only [put_lit,List.set]))
   (refine tk (i:=12) (v:=?_) rfl rfl (Or.inl ⟨by rfl,?_⟩) ?_;rotate_left;(focus (intro w hSw;(try dsimp only at hSw);go_simp;(try with_reducible rfl)));(simp only [put_lit,List.set]))
   (refine tk (i:=15) (v:=?_) rfl rfl (Or.inl ⟨by rfl,?_⟩) ?_;rotate_left;(focus (intro w hSw;(try dsimp only at hSw);go_simp;(try with_reducible rfl)));(simp only [put_lit,List.set]))
   (refine wpAnyH_ready (rs:=[11]) (by kernel_rfl) (by simp) ?_;refine AllReadyH.cons rfl (fun K hK=>?_) AllReadyH.nil;go_simp)
   refine (width_any (r:=t) ((K9.out.hz.below G7.out).below Bel.go) ((K9.out.hq.below G7.out).below Bel.go) ((K9.out.hz'.below G7.out).below Bel.go) ((K9.out.hq'.below G7.out).below Bel.go) fc fd).mono ?_
   rintro e w8 ⟨⟨n8,A8,l8,c8,B8,m8,d8,rfl,h8,k8⟩,hb8⟩
   have G8:=Lib.hid (G7.out.trans (((Below.trans Bel.go (hb8.mono (by simp<;>omega))):Below w7.heap.size w7 w8).mono G7.out.size))
   have H8:=Lib.hid (show IntN w8 n8 A8 l8 c8 (wid t).z∧NatN w8 B8 m8 d8 (wid t).q from ⟨h8,k8⟩)
   clear h8 k8
   obtain ⟨hcx,hfx⟩:=bcellS hb8;refine hK.out _ _ ?_ (fun _=>?_);(focus (((try dsimp only);repeat' apply And.intro)<;>(rw [hcx _ (by go_simp)];go_simp)));clear hHeld hK K hcx hfx;rename_i hHeld;clear hb8
   (refine wpAnyH_ready (rs:=[13]) (by kernel_rfl) (by simp) ?_;refine AllReadyH.cons rfl (fun K hK=>?_) AllReadyH.nil;go_simp)
   refine (width_any (r:=t) ((K9.out.hz.below G8.out).below Bel.go) ((K9.out.hq.below G8.out).below Bel.go) ((K9.out.hz'.below G8.out).below Bel.go) ((K9.out.hq'.below G8.out).below Bel.go) fc fd).mono ?_
   rintro e w9 ⟨⟨n9,A9,l9',c9,B9,m9,d9,rfl,h9,k9⟩,hb9⟩
   have G9:=Lib.hid (G8.out.trans (((Below.trans Bel.go (hb9.mono (by simp<;>omega))):Below w8.heap.size w8 w9).mono G8.out.size))
   have Hb89:=((Below.trans Bel.go (hb9.mono (by simp<;>omega))):Below w8.heap.size w8 w9)
   replace H8:=Lib.hid (And.intro (H8.out.1.below Hb89) (H8.out.2.below Hb89))
   have H9:=Lib.hid (show IntN w9 n9 A9 l9' c9 (wid t).z∧NatN w9 B9 m9 d9 (wid t).q from ⟨h9,k9⟩)
   clear h9 k9 Hb89
   obtain ⟨hcx,hfx⟩:=bcellS hb9;refine hK.out _ _ ?_ (fun _=>?_);(focus (((try dsimp only);repeat' apply And.intro)<;>(rw [hcx _ (by go_simp)];go_simp)));clear hHeld hK K hcx hfx;rename_i hHeld;clear hb9
   (refine wpAnyH_ready (rs:=[14]) (by kernel_rfl) (by simp) ?_;refine AllReadyH.cons rfl (fun K hK=>?_) AllReadyH.nil;go_simp)
   refine (radd_any _ _ _ _ _ _ _ _ _ _ _ _ _ _ _ _ _ _ _ (H8.out.1.below Bel.go) (H8.out.2.below Bel.go) (H9.out.1.below Bel.go) (H9.out.2.below Bel.go) (wtz.fz wk_lt) (wtz.fq wk_lt) wtz.p (wtz.fz wk_lt) (wtz.fq wk_lt) wtz.p).mono ?_
   rintro e w10 ⟨⟨n10,A10,l10,c10,B10,m10,d10,rfl,h10,k10⟩,hb10⟩
   have G10:=Lib.hid (G9.out.trans (((Below.trans Bel.go (hb10.mono (by simp<;>omega))):Below w9.heap.size w9 w10).mono G9.out.size))
   have H10:=Lib.hid (show IntN w10 n10 A10 l10 c10 ((wid t).add (wid t)).z∧NatN w10 B10 m10 d10 ((wid t).add (wid t)).q from ⟨h10,k10⟩)
   clear h10 k10 H8 H9
   obtain ⟨hcx,hfx⟩:=bcellS hb10;refine hK.out _ _ ?_ (fun _=>?_);(focus (((try dsimp only);repeat' apply And.intro)<;>(rw [hcx _ (by go_simp)];go_simp)));clear hHeld hK K hcx hfx;rename_i hHeld;clear hb10
   (refine wpAnyH_ready (rs:=[16]) (by kernel_rfl) (by simp) ?_;refine AllReadyH.cons rfl (fun K hK=>?_) AllReadyH.nil;go_simp)
   refine (width_any (r:=s) ((K6.out.hz.below G10.out).below Bel.go) ((K6.out.hq.below G10.out).below Bel.go) ((K6.out.hz'.below G10.out).below Bel.go) ((K6.out.hq'.below G10.out).below Bel.go) fa fb).mono ?_
   rintro e w11 ⟨⟨n11,A11,l11,c11,B11,m11,d11,rfl,h11,k11⟩,hb11⟩
   have G11:=Lib.hid (G10.out.trans (((Below.trans Bel.go (hb11.mono (by simp<;>omega))):Below w10.heap.size w10 w11).mono G10.out.size))
   have Hb11:=((Below.trans Bel.go (hb11.mono (by simp<;>omega))):Below w10.heap.size w10 w11)
   replace H10:=Lib.hid (And.intro (H10.out.1.below Hb11) (H10.out.2.below Hb11))
   have H11:=Lib.hid (show IntN w11 n11 A11 l11 c11 (wid s).z∧NatN w11 B11 m11 d11 (wid s).q from ⟨h11,k11⟩)
   clear h11 k11 Hb11
   obtain ⟨hcx,hfx⟩:=bcellS hb11;refine hK.out _ _ ?_ (fun _=>?_);(focus (((try dsimp only);repeat' apply And.intro)<;>(rw [hcx _ (by go_simp)];go_simp)));clear hHeld hK K hcx hfx;rename_i hHeld;clear hb11
   (refine wpAnyH_ready (rs:=[17]) (by kernel_rfl) (by simp) ?_;refine AllReadyH.cons rfl (fun K hK=>?_) AllReadyH.nil;go_simp)
   have p1:=waz.p
   have p2:=wsz.p
   refine (rcmp_any _ _ _ _ _ _ _ _ _ _ _ _ _ _ _ _ _ _ _ (H10.out.1.at_.below Bel.go) (H10.out.2.at_.below Bel.go) (H11.out.1.at_.below Bel.go) (H11.out.2.at_.below Bel.go) (by omega) (by omega) (waz.fz wk2_lt) (waz.fq wk2_lt) (wsz.fz wk_lt) (wsz.fq wk_lt)).mono ?_
   rintro e w12 ⟨rfl,hb12⟩
   rw [show cmpz (((wid t).add (wid t)).z*((wid s).q:Int)) ((wid s).z*(((wid t).add (wid t)).q:Int))=C from HC.out.symm]
   have G12:=Lib.hid (G11.out.trans (((Below.trans Bel.go (hb12.mono (by simp<;>omega))):Below w11.heap.size w11 w12).mono G11.out.size))
   clear p1 p2 H10 H11
   obtain ⟨hcx,hfx⟩:=bcellS hb12;refine hK.out _ _ ?_ (fun _=>?_);(focus (((try dsimp only);repeat' apply And.intro)<;>(rw [hcx _ (by go_simp)];go_simp)));clear hHeld hK K hcx hfx;rename_i hHeld;clear hb12
   (refine tk (i:=18) (v:=?_) rfl rfl (Or.inl ⟨by rfl,?_⟩) ?_;rotate_left;(focus (intro w hSw;(try dsimp only at hSw);go_simp;(try with_reducible rfl)));(simp only [put_lit,List.set]))
   (refine tk (i:=19) (v:=?_) rfl rfl (Or.inl ⟨by rfl,?_⟩) ?_;rotate_left;(focus (intro w hSw;(try dsimp only at hSw);go_simp;(try with_reducible rfl)));(simp only [put_lit,List.set]))
   refine wpAnyH_done (by kernel_rfl) ?_ _
   replace K6:=Lib.hid (K6.out.move G12.out)
   replace K9:=Lib.hid (K9.out.move G12.out)
   replace Hbw:=Lib.hid (Hbw.out.trans (G12.out.mono Hbw.out.size))
   clear hHeld x0 x1 x2 x3 x4 x5 y0 y1 y2 y3 y4 y5 G0 G7 G8 G9 G10 G11 G12 HPr wsz wtz waz
   have KN:=Lib.hid (K6.out.put (t:=t) K9.out.hz K9.out.hq K9.out.hz' K9.out.hq')
   have Hbn:=Lib.hid ((pu6_frs w12 g6 (.bool n5) (.slice A5 l5 c5) (.slice B5 m5 d5) (.bool n6) (.slice A6 l6' c6) (.slice B6 m6 d6)).mono Hbw.out (Nat.le_of_eq HG.out.symm) (Nat.le_of_eq HG.out.symm) Hbw.out.size)
   have y0:=K9.out.tb.r.c0;have y1:=K9.out.tb.r.c1;have y2:=K9.out.tb.r.c2;have y3:=K9.out.tb.c3;have y4:=K9.out.tb.c4;have y5:=K9.out.tb.c5
   have r0:=K6.out.tb.r.c0;have r1:=K6.out.tb.r.c1;have r2:=K6.out.tb.r.c2;have r3:=K6.out.tb.c3;have r4:=K6.out.tb.c4;have r5:=K6.out.tb.c5
   have s0:=K6.out.k.frozen 0;have s1:=K6.out.k.frozen 1;have s2:=K6.out.k.frozen 2;have s3:=K6.out.k.frozen 3;have s4:=K6.out.k.frozen 4;have s5:=K6.out.k.frozen 5
   clear K6 K9 Hbw
   go_wp2_with fail
   go_roundw
   case rel=>exact ⟨i+1,by omega,by go_num,t,_,_,_,_,_,_,_,_,_,_,_,_,_,_,HT.out,KN.out,Hbn.out⟩
   case measure=>simp [intOf];omega
  ·have b1:decide ((i:Int)<4)=false:=decide_eq_false (by omega)
   go_wp2_with fail
   go_ret
   exact ⟨rfl,Hb.out.trans (Hbw.out.mono Hb.out.size)⟩
end Go.Proofs.YtbfddopopajgaaaGreat
namespace Go.Proofs.YtbfddopopajgaaaGreat
open Go.ChangeShapes Go.WideShapes Go.ChangeAt Go.RowKit
set_option maxRecDepth 100000 in
theorem halves_lifted (os:Os) (started:os.Started) (H:Type) (enc:TypeId×Value→H) :
  ReturnsInHanded {} Tryz.checked os 6 .any (Rows.refineHalvesSpec.pre6 enc Tryz.prog Tryz.f6 Rows.refineHalvesRow.domain false) (Rows.refineHalvesSpec.post enc Tryz.prog Tryz.f6 false true false false):=by
 refine returnsInHanded_of_change (C:=Tryz.checked) Tryz.own started (by kernel_rfl) Tryz.func6
  (ChangeSpec.witness6 (enc:=enc) (C:=Tryz.checked) false ⟨#[],#[.slice none 0 0,.int .u8 0],[]⟩ 8 (by kernel_rfl) (by kernel_rfl) (by kernel_rfl) (by kernel_rfl)) ?_
 intro W base args ds gs before hval0 hW hcnd _
 exact lifted_s16u8 _ Tryz.f6 Tryz.params6 rfl enc _ rfl (fun _ _=>rfl) (fun A la ca p n w h1 hl hn=>by obtain ⟨k,rfl⟩:=Int.eq_ofNat_of_zero_le hn.1;exact law_halves A la ca p k w h1 hl (by omega)) W args ds gs before hval0 hW
theorem refineHalves_holds:Rows.RefineHalvesSaid :=
 OpenClaim.holds_of_wide 6 Tryz.f6 rfl rfl rfl rfl rfl rfl rfl ⟨rfl,rfl,rfl,rfl,rfl⟩ rfl rfl rfl rfl rfl (by kernel_rfl) Tryz.func6 (by kernel_rfl)
  (of_decide_eq_true (by kernel_rfl)) (by unfold Func.isWrapper;first | (rw [if_pos (by decide +kernel)];kernel_rfl) | (rw [if_neg (by decide +kernel)];exact ⟨rfl,rfl⟩))
  (fun os started H enc _=>halves_lifted os started H enc)
#print axioms refineHalves_holds
end Go.Proofs.YtbfddopopajgaaaGreat
