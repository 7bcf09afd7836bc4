/- For any slice of int16s, any uint8 and any pair of int8s the law RefineCompares returns true and its arguments read as before: refine.Cmp agrees with the numbers of roots below. No condition. -/
import Derived.Test.YtbfddopopajgaaaGreatRowP
import Derived.OpenShut
import Derived.Test.YtbfddopopajgaaaGreatIvp
import Derived.Test.YtbfddopopajgaaaGreatAdp
import Derived.Test.YtbfddopopajgaaaGreatSgw
namespace Go.Proofs.YtbfddopopajgaaaGreat
open Go.ChangeShapes Go.WideShapes Go.ChangeAt Go.RowKit
theorem u8_wf {n:Int} (h:(Lit.int .u8 n).wf=true):0≤n∧n≤255:=by
 have h1:IntKind.u8.min=0:=rfl
 have h2:IntKind.u8.max=255:=rfl
 simp only [Lit.wf,Bool.and_eq_true,decide_eq_true_eq] at h
 omega
set_option maxRecDepth 100000 in
theorem lifted_s16u8 (f:Nat) (fn:Func) (hp:fn.params=#[22,5]) (hr:fn.resultTypes=#[4]) {H:Type} (enc:TypeId×Value→H) (spec:ChangeSpec) (hsv:spec.vars=[]) (hsf:∀ d d',spec.fn H [d,d']={ results:=[.lit (.bool true)],args:=[d,d'] })
  (walk:∀ A len cap p n w,I16At w A len cap p→len≤9223372036854775807→(0≤n∧n≤255)→Calls Tryz.prog f #[.slice A len cap,.int .u8 n] w fun e w'=>e=.returned (.bool true)∧Below w.heap.size w w')
  (W:World) (args:Array Value) (ds gs:List (DataW H)) (before:List MemPlace)
  (hval:∀ (j:Nat) t v,fn.params[j]?=some t→args[j]?=some v→Value.okWide Tryz.prog W .any 0 t v)
  (hW:DataW.Whole enc Tryz.prog fn.params.toList spec.vars false W args.toList ds gs before) :
  Calls Tryz.prog f args W fun e W'=>∃ v,e=Ending.returned v∧spec.post enc Tryz.prog fn false true false false W args v W':=by
 have hW':=hW
 obtain ⟨p,q,hA0,hV,rfl,_,_⟩:=hW
 have hA:DataW.TrodAll enc Tryz.prog W 0 (fun _=>true) true fn.params.toList args.toList ds p:=hA0
 rw [hp] at hA hval
 obtain ⟨v0,v1,d0,d1,p0,p1,rfl,rfl,rfl,h0,h1⟩:=trodAll_two hA
 rw [hsv] at hV
 obtain ⟨rfl,rfl⟩:=trodVars_none hV
 obtain ⟨a0,len,cap,rfl⟩:=okWide_slice Tryz.underlying22 (hval 0 22 v0 rfl rfl)
 obtain ⟨n,rfl,rfl,rfl,wn⟩:=open_int Tryz.underlying5 (hval 1 5 v1 rfl rfl) h1
 simp only [List.append_nil] at hW'
 have hlt:∀ x∈p0,x.block<W.heap.size:=fun x hx=>by simpa using hW'.lt x hx
 obtain ⟨hlm,zs,hat⟩:=open_i16 h0 hlt
 refine (walk a0 len cap zs n W hat hlm (u8_wf wn)).mono fun e W' ⟨he,hb⟩=>?_
 subst he
 refine ⟨_,rfl,post_below (pa:=p0) (pv:=[]) hW' (fun _ _ _=>?_) (fun sp hs=>?_) (fun _ _=>?_) (by simp) hb ?_⟩
 ·rw [List.append_nil,hsf,hr]
  exact trodAll_mk1 (shut_bool Tryz.underlying4 _)
 ·rw [List.append_nil,hsf,hp]
  have h3:=trodAll_mk2 (Go.WideElems.Trod_stays Tryz.laidOut (by kernel_rfl) (of_decide_eq_true (by kernel_rfl)) h0 (fun x hx=>hb.same (hlt x hx)) hs) (shut_int (enc:=enc) (w:=W') (base:=0) (spare:=sp) (held:=true) Tryz.underlying5 wn)
  simpa using h3
 ·rw [hsv,List.append_nil,hsf]
  rfl
 ·exact ok_one hr rfl (okWide_bool_mk Tryz.underlying4 _)
end Go.Proofs.YtbfddopopajgaaaGreat
namespace Go.Proofs.YtbfddopopajgaaaGreat
open Go.ChangeShapes Go.WideShapes Go.ChangeAt Go.RowKit
set_option maxRecDepth 100000 in
theorem lifted_s16u8p (f:Nat) (fn:Func) (hp:fn.params=#[22,5,36]) (hr:fn.resultTypes=#[4]) {H:Type} (enc:TypeId×Value→H) (spec:ChangeSpec) (hsv:spec.vars=[]) (hsf:∀ d d' d'',spec.fn H [d,d',d'']={ results:=[.lit (.bool true)],args:=[d,d',d''] })
  (walk:∀ A len cap p n q0 q1 w,I16At w A len cap p→len≤9223372036854775807→(0≤n∧n≤255)→(-128≤q0∧q0≤127)→(-128≤q1∧q1≤127)→Calls Tryz.prog f #[.slice A len cap,.int .u8 n,.agg #[.int .i8 q0,.int .i8 q1]] w fun e w'=>e=.returned (.bool true)∧Below w.heap.size w w')
  (W:World) (args:Array Value) (ds gs:List (DataW H)) (before:List MemPlace)
  (hval:∀ (j:Nat) t v,fn.params[j]?=some t→args[j]?=some v→Value.okWide Tryz.prog W .any 0 t v)
  (hW:DataW.Whole enc Tryz.prog fn.params.toList spec.vars false W args.toList ds gs before) :
  Calls Tryz.prog f args W fun e W'=>∃ v,e=Ending.returned v∧spec.post enc Tryz.prog fn false true false false W args v W':=by
 have hW':=hW
 obtain ⟨p,q,hA0,hV,rfl,_,_⟩:=hW
 have hA:DataW.TrodAll enc Tryz.prog W 0 (fun _=>true) true fn.params.toList args.toList ds p:=hA0
 rw [hp] at hA hval
 obtain ⟨v0,v1,v2,d0,d1,d2,p0,p1,p2,rfl,rfl,rfl,h0,h1,h2⟩:=trodAll_three hA
 rw [hsv] at hV
 obtain ⟨rfl,rfl⟩:=trodVars_none hV
 obtain ⟨a0,len,cap,rfl⟩:=okWide_slice Tryz.underlying22 (hval 0 22 v0 rfl rfl)
 obtain ⟨n,rfl,rfl,rfl,wn⟩:=open_int Tryz.underlying5 (hval 1 5 v1 rfl rfl) h1
 obtain ⟨a,b,rfl,rfl,rfl,wa,wb⟩:=WideMaps.open_pair Tryz.pairKey Tryz.underlying35 (hval 2 36 v2 rfl rfl) h2
 simp only [List.append_nil] at hW'
 have hlt:∀ x∈p0,x.block<W.heap.size:=fun x hx=>by simpa using hW'.lt x hx
 obtain ⟨hlm,zs,hat⟩:=open_i16 h0 hlt
 refine (walk a0 len cap zs n a b W hat hlm (u8_wf wn) (i8_wf wa) (i8_wf wb)).mono fun e W' ⟨he,hb⟩=>?_
 subst he
 refine ⟨_,rfl,post_below (pa:=p0) (pv:=[]) hW' (fun _ _ _=>?_) (fun sp hs=>?_) (fun _ _=>?_) (by simp) hb ?_⟩
 ·rw [List.append_nil,hsf,hr]
  exact trodAll_mk1 (shut_bool Tryz.underlying4 _)
 ·rw [List.append_nil,hsf,hp]
  have h3:=trodAll_mk3 (Go.WideElems.Trod_stays Tryz.laidOut (by kernel_rfl) (of_decide_eq_true (by kernel_rfl)) h0 (fun x hx=>hb.same (hlt x hx)) hs) (shut_int (enc:=enc) (w:=W') (base:=0) (spare:=sp) (held:=true) Tryz.underlying5 wn) (WideMaps.shut_pair Tryz.pairKey Tryz.underlying35 wa wb)
  simpa using h3
 ·rw [hsv,List.append_nil,hsf]
  rfl
 ·exact ok_one hr rfl (okWide_bool_mk Tryz.underlying4 _)
end Go.Proofs.YtbfddopopajgaaaGreat
namespace Go.Proofs.YtbfddopopajgaaaGreat
open Go.RowKit
theorem rat_lec {a b:Rat} (h:a≤b):a<b∨a=b:=by
 by_cases c:a<b
 ·exact .inl c
 ·exact .inr (by grind)
section
variable {f:List Int} {xs:List Pt} {rs:List (Fq×Fq)} {i k:Nat}
theorem root_idx (hx:Lst (fun x=>sgp f x=0) xs) {y:Pt} (hy:sgp f y=0):∃ j,j<xs.length∧xs.getD j default=y:=by
 obtain ⟨j,hj,e⟩:=List.getElem_of_mem ((hx.2 y).2 hy)
 exact ⟨j,hj,by rw [List.getD_eq_getElem?_getD,List.getElem?_eq_getElem hj,e];rfl⟩
theorem idx_root (hx:Lst (fun x=>sgp f x=0) xs) (hk:k<xs.length):sgp f (xs.getD k default)=0:=(hx.2 _).1 (by
 rw [List.getD_eq_getElem?_getD,List.getElem?_eq_getElem hk]
 exact List.getElem_mem hk)
theorem below_lst {p:Pt} (hx:Lst (fun x=>sgp f x=0) xs) (lo:∀ j,j<i→xs.getD j default<p) (hi:∀ j,i≤j→j<xs.length→¬ xs.getD j default<p):Lst (fun x=>sgp f x=0∧x<p) (xs.take i):=by
 refine ⟨hx.1.take,fun y=>⟨fun hy=>?_,fun hy=>?_⟩⟩
 ·obtain ⟨j,hj,e⟩:=List.getElem_of_mem hy
  rw [List.length_take] at hj
  rw [List.getElem_take] at e
  have hj2:j<xs.length:=by omega
  refine ⟨(hx.2 y).1 (by rw [← e];exact List.getElem_mem _),?_⟩
  have:=lo j (by omega)
  rw [List.getD_eq_getElem?_getD,List.getElem?_eq_getElem hj2] at this
  rw [← e]
  exact this
 ·obtain ⟨j,hj,e⟩:=root_idx hx hy.1
  have hji:j<i:=Nat.lt_of_not_le fun hc=>hi j hc hj (by rw [e];exact hy.2)
  refine List.mem_iff_getElem.2 ⟨j,by rw [List.length_take];omega,?_⟩
  rw [List.getElem_take]
  rw [List.getD_eq_getElem?_getD,List.getElem?_eq_getElem hj] at e
  exact e
theorem below_k (h9:P9 f) (h0:plen f≠0) (hx:Lst (fun x=>sgp f x=0) xs) (hi:i≤xs.length) {g:Fq} (hq:0<g.q) (lo:∀ j,j<i→xs.getD j default<g.p) (hi2:∀ j,i≤j→j<xs.length→¬ xs.getD j default<g.p):nbelow f g.z g.q=i:=by
 rw [nbelow_len h9 h0 hq (below_lst hx lo hi2),List.length_take,Nat.min_eq_left hi]
theorem RF.lo_lt (h:RF f xs rs) {j:Nat} (hj:j<k) (hk:k<xs.length):xs.getD j default<(rs.getD k r00).1.p:=by
 have ij:=h.iso j (by omega)
 have ik:=h.iso k hk
 have ho:=h.ord j k hj hk
 have lt:=asc_get h.lst.1 hj hk
 rcases Pt.tri (xs.getD j default) (rs.getD k r00).1.p with c | c | c
 ·exact c
 ·rcases ik.2 with i2 | i2
  ·rw [c,i2.2] at lt;exact absurd lt (Pt.irr _)
  ·exact absurd (by rw [← c];exact ij.1) i2.2.1
 ·refine absurd ?_ ij.hi
  rcases rat_lec ho with c2 | c2
  ·exact Pt.lt_trans (Pt.of_lt_of.2 c2) c
  ·unfold Fq.p;rw [c2];exact c
theorem RF.below_lo (h:RF f xs rs) (h9:P9 f) (h0:plen f≠0) (hk:k<xs.length):nbelow f (rs.getD k r00).1.z (rs.getD k r00).1.q=k :=
 below_k h9 h0 h.lst (Nat.le_of_lt hk) (h.fa hk).1.p (fun j hj=>h.lo_lt hj hk) fun j hj hj2 c=>by
  have ik:=h.iso k hk
  rcases Nat.lt_or_ge k j with h1 | h1
  ·exact ik.lo (Pt.lt_trans (asc_get h.lst.1 h1 hj2) c)
  ·obtain rfl:j=k:=by omega
   exact ik.lo c
theorem asc_le (hx:Asc xs) {j:Nat} (hj:j≤k) (hk:k<xs.length):¬ xs.getD k default<xs.getD j default:=fun c=>by
 rcases Nat.lt_or_ge j k with h1 | h1
 ·exact Pt.asym c (asc_get hx h1 hk)
 ·obtain rfl:j=k:=by omega
  exact Pt.irr _ c
theorem below_gt (h9:P9 f) (h0:plen f≠0) (hx:Lst (fun x=>sgp f x=0) xs) (hk:k<xs.length) {a:Fq} (hq:0<a.q) (h:xs.getD k default<a.p):(k:Int)<nbelow f a.z a.q:=by
 obtain ⟨ys,hy⟩:=roots_lst h0 (fun x=>x<a.p)
 rw [nbelow_len h9 h0 hq hy]
 have h1:=below_lst (i:=k) (p:=xs.getD k default) hx (fun j hj=>asc_get hx.1 hj hk) (fun j hj hj2=>asc_le hx.1 hj hj2)
 have h2:=h1.add_top (idx_root hx hk)
 have:=lst_le h2 hy (fun x hxx=>⟨hxx.1,by
  rcases hxx.2 with c | c
  ·exact Pt.lt_trans c h
  ·rw [c];exact h⟩)
 rw [List.length_append,List.length_take,List.length_singleton] at this
 omega
theorem below_eq (h9:P9 f) (h0:plen f≠0) (hx:Lst (fun x=>sgp f x=0) xs) (hk:k<xs.length) {a:Fq} (hq:0<a.q) (h:xs.getD k default=a.p):nbelow f a.z a.q=k :=
 below_k h9 h0 hx (Nat.le_of_lt hk) hq (fun j hj=>by rw [← h];exact asc_get hx.1 hj hk) fun j hj hj2=>by rw [← h];exact asc_le hx.1 hj hj2
theorem below_lt (h9:P9 f) (h0:plen f≠0) (hx:Lst (fun x=>sgp f x=0) xs) (hk:k<xs.length) {a:Fq} (hq:0<a.q) (h:a.p<xs.getD k default):nbelow f a.z a.q≤k∧(sgp f a.p=0→nbelow f a.z a.q<k):=by
 refine ⟨?_,fun c=>?_⟩
 ·obtain ⟨ys,hy⟩:=roots_lst h0 (fun x=>x<a.p)
  rw [nbelow_len h9 h0 hq hy]
  have h1:=below_lst (i:=k) (p:=xs.getD k default) hx (fun j hj=>asc_get hx.1 hj hk) (fun j hj hj2=>asc_le hx.1 hj hj2)
  have:=lst_le hy h1 (fun x hxx=>⟨hxx.1,Pt.lt_trans hxx.2 h⟩)
  rw [List.length_take] at this
  omega
 ·obtain ⟨j,hj,e⟩:=root_idx hx c
  rw [below_eq h9 h0 hx hj hq e]
  refine Int.ofNat_lt.2 (Nat.lt_of_not_le fun hc=>?_)
  rw [← e] at h
  exact asc_le hx.1 hc hj h
end
end Go.Proofs.YtbfddopopajgaaaGreat
namespace Go.Proofs.YtbfddopopajgaaaGreat
open Go.RowKit
section
variable {Q f:List Int} {a b m:Fq} {x y:Pt}
theorem sgn_turn (h0:plen Q≠0) (hx:sgp Q x=0) (hs:mult x Q≤1) (ha:a.p<x) (hb:x<b.p) (hu:∀ y,sgp Q y=0→a.p<y→y<b.p→y=x) (na:sgp Q a.p≠0) (nb:sgp Q b.p≠0):sgp Q a.p=- sgp Q b.p:=by
 obtain ⟨l,u,hl⟩:=side_ex h0 x
 have hm:mult x Q=1:=by
  have:mult x Q≠0:=fun e=>(mult_zero h0).1 e hx
  omega
 rw [hm] at hl
 obtain ⟨y,y1,y2,y3⟩:=Pt.two_up hb hl.hi
 obtain ⟨z,z1,z2,z3⟩:∃ z,z<x∧a.p<z∧Pt.of l<z:=by
  rcases Pt.tri a.p (Pt.of l) with h | h | h
  ·obtain ⟨q,h1,h2⟩:=Pt.mid hl.lo;exact ⟨_,h2,Pt.lt_trans h h1,h1⟩
  ·obtain ⟨q,h1,h2⟩:=Pt.mid hl.lo;exact ⟨_,h2,by rw [h];exact h1,h1⟩
  ·obtain ⟨q,h1,h2⟩:=Pt.mid ha;exact ⟨_,h2,h1,Pt.lt_trans h h1⟩
 have ey:=hl.r y y1 y3
 have ez:=hl.l z z3 z1
 have nz:sgp Q z≠0:=fun e=>by
  have:=hu z e z2 (Pt.lt_trans z1 hb);rw [this] at z1;exact Pt.irr _ z1
 have ny:sgp Q y≠0:=fun e=>by
  have:=hu y e (Pt.lt_trans ha y1) y2;rw [this] at y1;exact Pt.irr _ y1
 have e1:sgp Q a.p=sgp Q z:=sgp_stay z2 (fun t t1 t2 e=>by
  have:=hu t e t1 (Pt.lt_trans t2 (Pt.lt_trans z1 hb));rw [this] at t2;exact Pt.asym z1 t2) na nz
 have e2:sgp Q y=sgp Q b.p:=sgp_stay y2 (fun t t1 t2 e=>by
  have:=hu t e (Pt.lt_trans ha (Pt.lt_trans y1 t1)) t2;rw [this] at t1;exact Pt.asym y1 t1) ny nb
 rw [e1,← e2,ey,ez]
 omega
theorem IsoV.cut (h0:plen Q≠0) (hs:∀ x,mult x Q≤1) (e:∀ y,sgp f y=0↔sgp Q y=0) (h:IsoV f x a b) (hlt:a.v<b.v) (ma:a.v<m.v) (mb:m.v<b.v) (hm:sgp Q m.p≠0) :
 if sgp Q m.p=sgp Q a.p then IsoV f x m b else IsoV f x a m:=by
 rcases h.2 with h2 | ⟨_,n1,n2,x1,x2,hu⟩
 ·grind
 have ma':a.p<m.p:=Pt.of_lt_of.2 ma
 have mb':m.p<b.p:=Pt.of_lt_of.2 mb
 have hx:=(e x).1 h.1
 have n1':sgp Q a.p≠0:=fun c=>n1 ((e _).2 c)
 have n2':sgp Q b.p≠0:=fun c=>n2 ((e _).2 c)
 have hm':sgp f m.p≠0:=fun c=>hm ((e _).1 c)
 have hu':∀ y,sgp Q y=0→a.p<y→y<b.p→y=x:=fun y hy=>hu y ((e y).2 hy)
 have ht:=sgn_turn h0 hx (hs x) x1 x2 hu' n1' n2'
 rcases Pt.tri x m.p with c | c | c
 ·have s:sgp Q m.p=sgp Q b.p:=sgp_stay mb' (fun t t1 t2 et=>by
   have:=hu' t et (Pt.lt_trans ma' t1) t2;rw [this] at t1;exact Pt.asym c t1) hm n2'
  rw [if_neg (by omega)]
  exact ⟨h.1,.inr ⟨ma,n1,hm',x1,c,fun y hy y1 y2=>hu y hy y1 (Pt.lt_trans y2 mb')⟩⟩
 ·exact absurd (c ▸ hx) hm
 ·have s:sgp Q a.p=sgp Q m.p:=sgp_stay ma' (fun t t1 t2 et=>by
   have:=hu' t et t1 (Pt.lt_trans t2 mb');rw [this] at t2;exact Pt.asym c t2) n1' hm
  rw [if_pos s.symm]
  exact ⟨h.1,.inr ⟨mb,hm',n2,c,x2,fun y hy y1 y2=>hu y hy (Pt.lt_trans ma' y1) y2⟩⟩
theorem IsoV.at_ (h:IsoV f x a b) (hlt:a.v<b.v) (ma:a.v<m.v) (mb:m.v<b.v) (hm:sgp f m.p=0):x=m.p:=by
 rcases h.2 with h2 | ⟨_,n1,n2,x1,x2,hu⟩
 ·grind
 ·exact (hu m.p hm (Pt.of_lt_of.2 ma) (Pt.of_lt_of.2 mb)).symm
theorem IsoV.pt {m':Fq} (hx:sgp f m.p=0) (hv:m'.v=m.v):IsoV f m.p m' m':=⟨hx,.inl ⟨rfl,by unfold Fq.p;rw [hv]⟩⟩
def hlf (Q:List Int) (r:Fq×Fq):Fq×Fq :=
 if fcmp r.1 r.2=0 then r
 else if (r.1.mid r.2).sgn Q=0 then ((r.1.mid r.2).nf,(r.1.mid r.2).nf)
 else if (r.1.mid r.2).sgn Q=r.1.sgn Q then (r.1.mid r.2,r.2) else (r.1,r.1.mid r.2)
structure Half (r s:Fq×Fq):Prop where
 p1:0<s.1.q
 p2:0<s.2.q
 lo:r.1.v≤s.1.v
 hi:s.2.v≤r.2.v
 w:2*(s.2.v-s.1.v)≤r.2.v-r.1.v
theorem hlf_spec {r:Fq×Fq} (h0:plen Q≠0) (hs:∀ x,mult x Q≤1) (e:∀ y,sgp f y=0↔sgp Q y=0) (ha:0<r.1.q) (hb:0<r.2.q) (h:IsoV f x r.1 r.2):IsoV f x (hlf Q r).1 (hlf Q r).2∧Half r (hlf Q r):=by
 have hle:=h.le
 unfold hlf
 by_cases c:fcmp r.1 r.2=0
 ·rw [if_pos c]
  have:=(fcmp_zero ha hb).1 c
  exact ⟨h,ha,hb,Rat.le_refl,Rat.le_refl,by grind⟩
 rw [if_neg c]
 have hlt:r.1.v<r.2.v:=by
  have:r.1.v≠r.2.v:=fun e=>c ((fcmp_zero ha hb).2 e)
  grind
 obtain ⟨mv,mq⟩:=Fq.mid_v ha hb
 generalize r.1.mid r.2=m at *
 have ma:r.1.v<m.v:=by rw [mv];grind
 have mb:m.v<r.2.v:=by rw [mv];grind
 rw [sgn_pt mq,sgn_pt ha]
 by_cases c2:sgp Q m.p=0
 ·rw [if_pos c2]
  obtain ⟨nv,nq⟩:=Fq.nf_v mq
  have ex:=h.at_ hlt ma mb ((e _).2 c2)
  rw [ex]
  exact ⟨.pt ((e _).2 c2) nv,nq,nq,by show r.1.v≤m.nf.v;rw [nv];grind,by show m.nf.v≤r.2.v;rw [nv];grind,by show 2*(m.nf.v-m.nf.v)≤_;grind⟩
 rw [if_neg c2]
 have hc:=h.cut h0 hs e hlt ma mb c2
 by_cases c3:sgp Q m.p=sgp Q r.1.p
 ·rw [if_pos c3] at hc ⊢
  exact ⟨hc,mq,hb,by show r.1.v≤m.v;grind,Rat.le_refl,by show 2*(r.2.v-m.v)≤_;rw [mv];grind⟩
 ·rw [if_neg c3] at hc ⊢
  exact ⟨hc,ha,mq,Rat.le_refl,by show m.v≤r.2.v;grind,by show 2*(m.v-r.1.v)≤_;rw [mv];grind⟩
end
end Go.Proofs.YtbfddopopajgaaaGreat
namespace Go.Proofs.YtbfddopopajgaaaGreat
open Go Go.RowKit
def RootE (r:Fq×Fq) (e:Ending) (w:World):Prop :=
 ∃ n A l c B m d n' A' l' c' B' m' d',e=.returned (.agg #[.bool n,.slice A l c,.slice B m d,.bool n',.slice A' l' c',.slice B' m' d'])∧IntN w n A l c r.1.z∧NatN w B m d r.1.q∧IntN w n' A' l' c' r.2.z∧NatN w B' m' d' r.2.q
def pu6 (w:World) (g:Nat) (v0 v1 v2 v3 v4 v5:Value):World:=(((((w.setCell ⟨g,0,none⟩ v0).setCell ⟨g,1,none⟩ v1).setCell ⟨g,2,none⟩ v2).setCell ⟨g,3,none⟩ v3).setCell ⟨g,4,none⟩ v4).setCell ⟨g,5,none⟩ v5
theorem pu6_frs (w:World) (g:Nat) (v0 v1 v2 v3 v4 v5:Value):FrS g g w (pu6 w g v0 v1 v2 v3 v4 v5):=frs_set (frs_set (frs_set (frs_set (frs_set (frs_set (FrS.refl g g w) 0 v0) 1 v1) 2 v2) 3 v3) 4 v4) 5 v5
abbrev rtObj:Obj:=.cells #[.bool false,.slice none 0 0,.slice none 0 0,.bool false,.slice none 0 0,.slice none 0 0] 44
abbrev rz6:Array Value:=#[.bool false,.slice none 0 0,.slice none 0 0,.bool false,.slice none 0 0,.slice none 0 0]
theorem rz6_ndb {w:World} {g t:Nat} (h:Blk w g t rz6):NdB w g:=blk_ndb h fun j v hv=>by
 match j,hv with
 | 0,hv=>simp at hv;subst hv;exact noDigit_bool _
 | 1,hv=>simp at hv;subst hv;exact noDigit_slice _ _ _
 | 2,hv=>simp at hv;subst hv;exact noDigit_slice _ _ _
 | 3,hv=>simp at hv;subst hv;exact noDigit_bool _
 | 4,hv=>simp at hv;subst hv;exact noDigit_slice _ _ _
 | 5,hv=>simp at hv;subst hv;exact noDigit_slice _ _ _
 | j+6,hv=>simp at hv
section
variable {I:IntPred} {w w9:World} {g t:Nat} {a b:Fq} {r:Fq×Fq} {n:Bool} {A:Option Addr} {l c:Nat} {B:Option Addr} {m d:Nat} {n':Bool} {A':Option Addr} {l' c':Nat} {B':Option Addr} {m' d':Nat}
theorem root_fin (hw:Below w.heap.size w w9) (hk:Blk w9 g t rz6) (hg:w.heap.size≤g) (hz:IntN w9 n A l c r.1.z) (hq:NatN w9 B m d r.1.q) (hz':IntN w9 n' A' l' c' r.2.z) (hq':NatN w9 B' m' d' r.2.q) :
  RootE r (.returned (.agg #[.bool n,.slice A l c,.slice B m d,.bool n',.slice A' l' c',.slice B' m' d'])) (pu6 w9 g (.bool n) (.slice A l c) (.slice B m d) (.bool n') (.slice A' l' c') (.slice B' m' d'))∧Below w.heap.size w (pu6 w9 g (.bool n) (.slice A l c) (.slice B m d) (.bool n') (.slice A' l' c') (.slice B' m' d')):=by
 have hf:=pu6_frs w9 g (.bool n) (.slice A l c) (.slice B m d) (.bool n') (.slice A' l' c') (.slice B' m' d')
 have nd:=rz6_ndb hk
 exact ⟨⟨n,A,l,c,B,m,d,n',A',l',c',B',m',d',rfl,hz.frs hf nd nd,hq.frs hf nd nd,hz'.frs hf nd nd,hq'.frs hf nd nd⟩,hf.mono hw hg hg hw.size⟩
theorem isexact_any (hz:IntN w n A l c r.1.z) (hq:NatN w B m d r.1.q) (hz':IntN w n' A' l' c' r.2.z) (hq':NatN w B' m' d' r.2.q) (ha:FqB r.1) (hb:FqB r.2) :
  Calls Tryz.prog 80 #[.agg #[.bool n,.slice A l c,.slice B m d,.bool n',.slice A' l' c',.slice B' m' d']] w fun e w'=>e=.returned (.bool (fcmp r.1 r.2 == 0))∧Below w.heap.size w w':=by
 have o1:=below_new w (tbox n A l c B m d n' A' l' c' B' m' d')
 have T:=Lib.hid (TBox.make hz hq hz' hq')
 have Hb:=Lib.hid o1
 have p1:=ha.p
 have p2:=hb.p
 clear hz hq hz' hq' o1
 go_enter Tryz.func80,Tryz.ntmps80
 have x0:=T.out.r.c0;have x1:=T.out.r.c1;have x2:=T.out.r.c2;have x3:=T.out.c3;have x4:=T.out.c4;have x5:=T.out.c5
 go_wp2_with fail
 refine (rcmp_any _ _ _ _ _ _ _ _ _ _ _ _ _ _ _ _ _ _ _ T.out.r.hz.at_ T.out.r.hq.at_ T.out.hz.at_ T.out.hq.at_ (by omega) (by omega) ha.fz ha.fq hb.fz hb.fq).mono ?_
 rintro e w3 ⟨rfl,hb3⟩
 replace Hb:=Lib.hid (Hb.out.trans (hb3.mono Hb.out.size))
 obtain ⟨C,hC⟩:∃ C,C=fcmp r.1 r.2:=⟨_,rfl⟩
 rw [show cmpz (r.1.z*(r.2.q:Int)) (r.2.z*(r.1.q:Int))=C from hC.symm]
 have HC:=Lib.hid hC
 clear hb3 hC T
 clear x0 x1 x2 x3 x4 x5
 go_wp2
 go_ret
 exact ⟨by first | (rw [HC.out];done) | (rw [HC.out];rfl),Hb.out⟩
set_option maxRecDepth 100000 in
set_option maxHeartbeats 4000000 in
theorem exact_rt (hz:IntN w n A l c a.z) (hq:NatN w B m d a.q) (ha:FqB a) :
  Calls Tryz.prog 111 #[.agg #[.bool n,.slice A l c,.slice B m d]] w fun e w'=>RootE (a.nf,a.nf) e w'∧Below w.heap.size w w':=by
 have o1:=below_new w (rbox n A l c B m d)
 have o2:=below_new (w.alloc (rbox n A l c B m d)) rtObj
 have b2:Below w.heap.size w ((w.alloc (rbox n A l c B m d)).alloc rtObj):=o1.alloc (by simp) _
 have R1:=(RBox.make hz hq).move o2
 have K3:Blk ((w.alloc (rbox n A l c B m d)).alloc rtObj) (w.alloc (rbox n A l c B m d)).heap.size 44 rz6:=Blk.new _ _ _
 simp only [World.size_alloc] at K3
 have a0:=R1.c0
 have a1:=R1.c1
 have a2:=R1.c2
 replace R1:=Lib.hid R1
 have K4:=Lib.hid K3
 have Hb:=Lib.hid b2
 have hl3:=K3.lt
 obtain ⟨wb,hwb⟩:∃ wb,wb=(w.alloc (rbox n A l c B m d)).alloc rtObj:=⟨_,rfl⟩
 clear o1 o2 b2 hz hq K3
 go_enter Tryz.func111,Tryz.ntmps111
 go_wp2_with fail
 rw [← hwb] at R1 K4 Hb a0 a1 a2 hl3 ⊢
 clear hwb
 obtain ⟨g1,hg1⟩:∃ g,g=w.heap.size:=⟨_,rfl⟩
 obtain ⟨g3,hg3⟩:∃ g,g=w.heap.size+1:=⟨_,rfl⟩
 rw [← hg1] at R1 a0 a1 a2
 rw [← hg3] at K4 hl3
 rw [← hg3,← hg1]
 have l1:g1<wb.heap.size:=by omega
 have Hg:=Lib.hid (show w.heap.size≤g3 by omega)
 clear hg1 hg3
 refine wp_region_lastT (S:=fun w'=>w'.cell? ⟨g1,0,none⟩=some (.bool n)∧w'.cell? ⟨g1,1,none⟩=some (.slice A l c)∧w'.cell? ⟨g1,2,none⟩=some (.slice B m d)) (by kernel_rfl) (by kernel_rfl) (by (try dsimp only);go_keep) (fun hHeld=>?_)
 simp only [List.pop_toArray,List.dropLast]
 (refine tk (i:=0) (v:=?_) rfl rfl (Or.inl ⟨by rfl,?_⟩) ?_;rotate_left;(focus (intro w hSw;(try dsimp only at hSw);go_simp;(try with_reducible rfl)));(simp only [put_lit,List.set]))
 (refine tk (i:=2) (v:=?_) rfl rfl (Or.inl ⟨by rfl,?_⟩) ?_;rotate_left;(focus (intro w hSw;(try dsimp only at hSw);go_simp;(try with_reducible rfl)));(simp only [put_lit,List.set]))
 refine wpAnyH_ready (rs:=[1]) (by kernel_rfl) (by simp) ?_
 refine AllReadyH.cons rfl (fun K hK=>?_) AllReadyH.nil;go_simp
 refine (rnormal_any _ _ _ _ _ _ _ _ _ _ (R1.out.hz.below Bel.go) (R1.out.hq.below Bel.go) ha.fz ha.fq ha.p).mono ?_
 rintro e w7 ⟨⟨n7,A7,l7,c7,B7,m7,d7,rfl,h7,k7⟩,hb7⟩
 obtain ⟨hcx,hfx⟩:=bcellS hb7
 have hbz:Below wb.heap.size wb w7:=(Below.trans Bel.go (hb7.mono (by simp<;>omega)))
 replace R1:=Lib.hid (R1.out.move hbz)
 replace K4:=Lib.hid (K4.out.below hbz K4.out.lt)
 replace Hb:=Lib.hid (Hb.out.trans (hbz.mono Hb.out.size))
 refine hK.out _ _ ?_ (fun _=>?_)
 ·((try dsimp only);repeat' apply And.intro)<;>(rw [hcx _ (by go_simp)];go_simp)
 clear hHeld hK K hcx hfx;rename_i hHeld
 have hs7:=hbz.size
 have H7:=Lib.hid (And.intro h7 k7)
 clear h7 k7 hb7 hbz
 refine wpAnyH_ready (rs:=[3]) (by kernel_rfl) (by simp) ?_
 refine AllReadyH.cons rfl (fun K hK=>?_) AllReadyH.nil;go_simp
 refine (rnormal_any _ _ _ _ _ _ _ _ _ _ (R1.out.hz.below Bel.go) (R1.out.hq.below Bel.go) ha.fz ha.fq ha.p).mono ?_
 rintro e w9 ⟨⟨n9,A9,l9,c9,B9,m9,d9,rfl,h9,k9⟩,hb9⟩
 obtain ⟨hcx,hfx⟩:=bcellS hb9
 have hbz:Below w7.heap.size w7 w9:=(Below.trans Bel.go (hb9.mono (by simp<;>omega)))
 replace K4:=Lib.hid (K4.out.below hbz K4.out.lt)
 replace Hb:=Lib.hid (Hb.out.trans (hbz.mono Hb.out.size))
 replace H7:=Lib.hid (And.intro (H7.out.1.below hbz) (H7.out.2.below hbz))
 refine hK.out _ _ ?_ (fun _=>?_)
 ·((try dsimp only);repeat' apply And.intro)<;>(rw [hcx _ (by go_simp)];go_simp)
 clear hHeld hK K hcx hfx;rename_i hHeld
 have H9:=Lib.hid (And.intro h9 k9)
 clear h9 k9 hb9 hbz R1
 (refine tk (i:=4) (v:=?_) rfl rfl (Or.inl ⟨by rfl,?_⟩) ?_;rotate_left;(focus (intro w hSw;(try dsimp only at hSw);go_simp;(try with_reducible rfl)));(simp only [put_lit,List.set]))
 refine wpAnyH_done (by kernel_rfl) (lastQ_list rfl ?_) _
 clear hHeld a0 a1 a2
 have FX:=Lib.hid (root_fin (r:=(a.nf,a.nf)) Hb.out K4.out Hg.out H7.out.1 H7.out.2 H9.out.1 H9.out.2);have r0:=(K4.out.cell 0).trans rfl;have r1:=(K4.out.cell 1).trans rfl;have r2:=(K4.out.cell 2).trans rfl;have r3:=(K4.out.cell 3).trans rfl;have r4:=(K4.out.cell 4).trans rfl;have r5:=(K4.out.cell 5).trans rfl;have s0:=K4.out.frozen 0;have s1:=K4.out.frozen 1;have s2:=K4.out.frozen 2;have s3:=K4.out.frozen 3;have s4:=K4.out.frozen 4;have s5:=K4.out.frozen 5;clear K4 Hb;go_wp2;(try clear T);refine bodyPost_ret (v:=.agg #[.bool n7,.slice A7 l7 c7,.slice B7 m7 d7,.bool n9,.slice A9 l9 c9,.slice B9 m9 d9]) (by simp [results,Tryz.results111,go_sem,r0,r1,r2,r3,r4,r5]) rfl FX.out
set_option maxRecDepth 100000 in
set_option maxHeartbeats 4000000 in
theorem rcopy_any (hz:IntN w n A l c r.1.z) (hq:NatN w B m d r.1.q) (hz':IntN w n' A' l' c' r.2.z) (hq':NatN w B' m' d' r.2.q) (ha:FqB r.1) (hb:FqB r.2) :
  Calls Tryz.prog 70 #[.agg #[.bool n,.slice A l c,.slice B m d,.bool n',.slice A' l' c',.slice B' m' d']] w fun e w'=>RootE (r.1.nf,r.2.nf) e w'∧Below w.heap.size w w':=by
 have o1:=below_new w (tbox n A l c B m d n' A' l' c' B' m' d')
 have o2:=below_new (w.alloc (tbox n A l c B m d n' A' l' c' B' m' d')) rtObj
 have b2:Below w.heap.size w ((w.alloc (tbox n A l c B m d n' A' l' c' B' m' d')).alloc rtObj):=o1.alloc (by simp) _
 have T:=Lib.hid ((TBox.make hz hq hz' hq').move o2)
 have K3:Blk ((w.alloc (tbox n A l c B m d n' A' l' c' B' m' d')).alloc rtObj) (w.alloc (tbox n A l c B m d n' A' l' c' B' m' d')).heap.size 44 rz6:=Blk.new _ _ _
 simp only [World.size_alloc] at K3
 have x0:=T.out.r.c0;have x1:=T.out.r.c1;have x2:=T.out.r.c2;have x3:=T.out.c3;have x4:=T.out.c4;have x5:=T.out.c5
 have K4:=Lib.hid K3
 have Hb:=Lib.hid b2
 have hl3:=K3.lt
 obtain ⟨wb,hwb⟩:∃ wb,wb=(w.alloc (tbox n A l c B m d n' A' l' c' B' m' d')).alloc rtObj:=⟨_,rfl⟩
 clear o1 o2 b2 hz hq hz' hq' K3
 go_enter Tryz.func70,Tryz.ntmps70
 go_wp2_with fail
 rw [← hwb] at T K4 Hb x0 x1 x2 x3 x4 x5 hl3 ⊢
 clear hwb
 obtain ⟨g1,hg1⟩:∃ g,g=w.heap.size:=⟨_,rfl⟩
 obtain ⟨g3,hg3⟩:∃ g,g=w.heap.size+1:=⟨_,rfl⟩
 rw [← hg1] at T x0 x1 x2 x3 x4 x5
 rw [← hg3] at K4 hl3
 rw [← hg3,← hg1]
 have l1:g1<wb.heap.size:=by omega
 have Hg:=Lib.hid (show w.heap.size≤g3 by omega)
 clear hg1 hg3
 refine wp_region_lastT (S:=fun w'=>w'.cell? ⟨g1,0,none⟩=some (.bool n)∧w'.cell? ⟨g1,1,none⟩=some (.slice A l c)∧w'.cell? ⟨g1,2,none⟩=some (.slice B m d)∧w'.cell? ⟨g1,3,none⟩=some (.bool n')∧w'.cell? ⟨g1,4,none⟩=some (.slice A' l' c')∧w'.cell? ⟨g1,5,none⟩=some (.slice B' m' d')) (by kernel_rfl) (by kernel_rfl) (by (try dsimp only);go_keep) (fun hHeld=>?_)
 simp only [List.pop_toArray,List.dropLast]
 (refine tk (i:=0) (v:=?_) rfl rfl (Or.inl ⟨by rfl,?_⟩) ?_;rotate_left;(focus (intro w hSw;(try dsimp only at hSw);go_simp;(try with_reducible rfl)));(simp only [put_lit,List.set]))
 (refine tk (i:=1) (v:=?_) rfl rfl (Or.inl ⟨by rfl,?_⟩) ?_;rotate_left;(focus (intro w hSw;(try dsimp only at hSw);go_simp;(try with_reducible rfl)));(simp only [put_lit,List.set]))
 (refine tk (i:=3) (v:=?_) rfl rfl (Or.inl ⟨by rfl,?_⟩) ?_;rotate_left;(focus (intro w hSw;(try dsimp only at hSw);go_simp;(try with_reducible rfl)));(simp only [put_lit,List.set]))
 (refine tk (i:=4) (v:=?_) rfl rfl (Or.inl ⟨by rfl,?_⟩) ?_;rotate_left;(focus (intro w hSw;(try dsimp only at hSw);go_simp;(try with_reducible rfl)));(simp only [put_lit,List.set]))
 refine wpAnyH_ready (rs:=[2]) (by kernel_rfl) (by simp) ?_
 refine AllReadyH.cons rfl (fun K hK=>?_) AllReadyH.nil;go_simp
 refine (rnormal_any _ _ _ _ _ _ _ _ _ _ (T.out.r.hz.below Bel.go) (T.out.r.hq.below Bel.go) ha.fz ha.fq ha.p).mono ?_
 rintro e w7 ⟨⟨n7,A7,l7,c7,B7,m7,d7,rfl,h7,k7⟩,hb7⟩
 obtain ⟨hcx,hfx⟩:=bcellS hb7
 have hbz:Below wb.heap.size wb w7:=(Below.trans Bel.go (hb7.mono (by simp<;>omega)))
 replace T:=Lib.hid (T.out.move hbz)
 replace K4:=Lib.hid (K4.out.below hbz K4.out.lt)
 replace Hb:=Lib.hid (Hb.out.trans (hbz.mono Hb.out.size))
 refine hK.out _ _ ?_ (fun _=>?_)
 ·((try dsimp only);repeat' apply And.intro)<;>(rw [hcx _ (by go_simp)];go_simp)
 clear hHeld hK K hcx hfx;rename_i hHeld
 have hs7:=hbz.size
 have H7:=Lib.hid (And.intro h7 k7)
 clear h7 k7 hb7 hbz
 refine wpAnyH_ready (rs:=[5]) (by kernel_rfl) (by simp) ?_
 refine AllReadyH.cons rfl (fun K hK=>?_) AllReadyH.nil;go_simp
 refine (rnormal_any _ _ _ _ _ _ _ _ _ _ (T.out.hz.below Bel.go) (T.out.hq.below Bel.go) hb.fz hb.fq hb.p).mono ?_
 rintro e w9 ⟨⟨n9,A9,l9,c9,B9,m9,d9,rfl,h9,k9⟩,hb9⟩
 obtain ⟨hcx,hfx⟩:=bcellS hb9
 have hbz:Below w7.heap.size w7 w9:=(Below.trans Bel.go (hb9.mono (by simp<;>omega)))
 replace K4:=Lib.hid (K4.out.below hbz K4.out.lt)
 replace Hb:=Lib.hid (Hb.out.trans (hbz.mono Hb.out.size))
 replace H7:=Lib.hid (And.intro (H7.out.1.below hbz) (H7.out.2.below hbz))
 refine hK.out _ _ ?_ (fun _=>?_)
 ·((try dsimp only);repeat' apply And.intro)<;>(rw [hcx _ (by go_simp)];go_simp)
 clear hHeld hK K hcx hfx;rename_i hHeld
 have H9:=Lib.hid (And.intro h9 k9)
 clear h9 k9 hb9 hbz T
 (refine tk (i:=6) (v:=?_) rfl rfl (Or.inl ⟨by rfl,?_⟩) ?_;rotate_left;(focus (intro w hSw;(try dsimp only at hSw);go_simp;(try with_reducible rfl)));(simp only [put_lit,List.set]))
 refine wpAnyH_done (by kernel_rfl) (lastQ_list rfl ?_) _
 clear hHeld x0 x1 x2 x3 x4 x5
 have FX:=Lib.hid (root_fin (r:=(r.1.nf,r.2.nf)) Hb.out K4.out Hg.out H7.out.1 H7.out.2 H9.out.1 H9.out.2);have r0:=(K4.out.cell 0).trans rfl;have r1:=(K4.out.cell 1).trans rfl;have r2:=(K4.out.cell 2).trans rfl;have r3:=(K4.out.cell 3).trans rfl;have r4:=(K4.out.cell 4).trans rfl;have r5:=(K4.out.cell 5).trans rfl;have s0:=K4.out.frozen 0;have s1:=K4.out.frozen 1;have s2:=K4.out.frozen 2;have s3:=K4.out.frozen 3;have s4:=K4.out.frozen 4;have s5:=K4.out.frozen 5;clear K4 Hb;go_wp2;(try clear T);refine bodyPost_ret (v:=.agg #[.bool n7,.slice A7 l7 c7,.slice B7 m7 d7,.bool n9,.slice A9 l9 c9,.slice B9 m9 d9]) (by simp [results,Tryz.results70,go_sem,r0,r1,r2,r3,r4,r5]) rfl FX.out
end
end Go.Proofs.YtbfddopopajgaaaGreat
namespace Go.Proofs.YtbfddopopajgaaaGreat
open Go Go.RowKit
def cmpr (Q:List Int) (r:Fq×Fq) (a:Fq):Int :=
 if fcmp r.1 r.2=0 then fcmp r.1 a else if fcmp a r.1≤0 then 1 else if 0≤fcmp a r.2 then -1 else if a.sgn Q=0 then 0 else if a.sgn Q=r.1.sgn Q then 1 else -1
theorem rat_lec2 {a b:Rat} (h:a≤b):a<b∨a=b:=by
 by_cases c:a<b
 ·exact .inl c
 ·exact .inr (by grind)
section
variable {Q f:List Int} {r:Fq×Fq} {a:Fq} {x:Pt}
noncomputable def pcmp (x a:Pt):Int:=open Classical in if x<a then -1 else if x=a then 0 else 1
theorem pcmp_lt (h:x<a.p):pcmp x a.p=-1:=by unfold pcmp;rw [if_pos h]
theorem pcmp_gt {y:Pt} (h:y<x):pcmp x y=1:=by
 unfold pcmp
 rw [if_neg (Pt.asym h),if_neg (fun e=>Pt.irr _ (e ▸ h))]
theorem pcmp_eq {y:Pt} (h:x=y):pcmp x y=0:=by
 unfold pcmp
 rw [h,if_neg (Pt.irr _),if_pos rfl]
theorem fcmp_pt {b:Fq} (ha:0<a.q) (hb:0<b.q):fcmp a b=pcmp a.p b.p:=by
 rcases fcmp_or a b with h | h | h
 ·rw [h];exact (pcmp_lt (x:=a.p) (a:=b) (Pt.of_lt_of.2 ((fcmp_lt ha hb).1 h))).symm
 ·rw [h,pcmp_eq]
  unfold Fq.p
  rw [(fcmp_zero ha hb).1 h]
 ·rw [h];exact (pcmp_gt (x:=a.p) (y:=b.p) (Pt.of_lt_of.2 ((fcmp_gt ha hb).1 h))).symm
theorem cmpr_spec (h0:plen Q≠0) (hs:∀ x,mult x Q≤1) (e:∀ y,sgp f y=0↔sgp Q y=0) (p1:0<r.1.q) (p2:0<r.2.q) (pa:0<a.q) (h:IsoV f x r.1 r.2):cmpr Q r a=pcmp x a.p:=by
 have hle:=h.le
 unfold cmpr
 by_cases c:fcmp r.1 r.2=0
 ·rw [if_pos c,fcmp_pt p1 pa]
  have:=(fcmp_zero p1 p2).1 c
  rcases h.2 with h2 | h2
  ·rw [h2.2]
  ·grind
 rw [if_neg c]
 have hlt:r.1.v<r.2.v:=by
  have:r.1.v≠r.2.v:=fun e=>c ((fcmp_zero p1 p2).2 e)
  grind
 rcases h.2 with h2 | ⟨_,n1,n2,x1,x2,hu⟩
 ·grind
 by_cases c1:fcmp a r.1≤0
 ·rw [if_pos c1]
  have:¬ r.1.v<a.v:=fun h=>by have:=(fcmp_pos pa p1).2 h;omega
  rcases rat_lec2 (Rat.not_lt.1 this) with h3 | h3
  ·exact (pcmp_gt (Pt.lt_trans (Pt.of_lt_of.2 h3) x1)).symm
  ·exact (pcmp_gt (by unfold Fq.p;rw [h3];exact x1)).symm
 rw [if_neg c1]
 have ha1:r.1.v<a.v:=(fcmp_pos pa p1).1 (by omega)
 by_cases c2:0≤fcmp a r.2
 ·rw [if_pos c2]
  have:¬ a.v<r.2.v:=fun h=>by have:=(fcmp_neg pa p2).2 h;omega
  rcases rat_lec2 (Rat.not_lt.1 this) with h3 | h3
  ·exact (pcmp_lt (Pt.lt_trans x2 (Pt.of_lt_of.2 h3))).symm
  ·exact (pcmp_lt (by unfold Fq.p;rw [← h3];exact x2)).symm
 rw [if_neg c2]
 have ha2:a.v<r.2.v:=(fcmp_neg pa p2).1 (by omega)
 rw [sgn_pt pa,sgn_pt p1]
 by_cases c3:sgp Q a.p=0
 ·rw [if_pos c3]
  exact (pcmp_eq (h.at_ hlt ha1 ha2 ((e _).2 c3))).symm
 rw [if_neg c3]
 have hc:=h.cut h0 hs e hlt ha1 ha2 c3
 by_cases c4:sgp Q a.p=sgp Q r.1.p
 ·rw [if_pos c4] at hc ⊢
  rcases hc.2 with h3 | h3
  ·grind
  ·exact (pcmp_gt h3.2.2.2.1).symm
 ·rw [if_neg c4] at hc ⊢
  rcases hc.2 with h3 | h3
  ·grind
  ·exact (pcmp_lt h3.2.2.2.2.1).symm
end
set_option maxRecDepth 100000 in
set_option maxHeartbeats 4000000 in
theorem compare_any {I:IntPred} (hI:IK I) {w:World} {Ap:Option Addr} {lp cp:Nat} {Q:List Int} {r:Fq×Fq} {a:Fq} {n:Bool} {A:Option Addr} {l c:Nat} {B:Option Addr} {m d:Nat} {n':Bool} {A':Option Addr} {l' c':Nat} {B':Option Addr} {m' d':Nat} {na:Bool} {Aa:Option Addr} {la ca:Nat} {Ba:Option Addr} {ma da:Nat}
  (hp:PolyP I w Ap lp cp Q) (hlp:lp≤1000000) (hQ:∀ x,FqB x→PoOK x.z x.q Q) (hz:IntN w n A l c r.1.z) (hq:NatN w B m d r.1.q) (hz':IntN w n' A' l' c' r.2.z) (hq':NatN w B' m' d' r.2.q) (hza:IntN w na Aa la ca a.z) (hqa:NatN w Ba ma da a.q) (ha:FqB r.1) (hb:FqB r.2) (hc:FqB a) :
  Calls Tryz.prog 67 #[.slice Ap lp cp,.agg #[.bool n,.slice A l c,.slice B m d,.bool n',.slice A' l' c',.slice B' m' d'],.agg #[.bool na,.slice Aa la ca,.slice Ba ma da]] w fun e w'=>e=.returned (.int .i64 (cmpr Q r a))∧Below w.heap.size w w':=by
 have o1:=below_new w (tbox n A l c B m d n' A' l' c' B' m' d')
 have o2:=below_new (w.alloc (tbox n A l c B m d n' A' l' c' B' m' d')) (rbox na Aa la ca Ba ma da)
 have b2:Below w.heap.size w ((w.alloc (tbox n A l c B m d n' A' l' c' B' m' d')).alloc (rbox na Aa la ca Ba ma da)):=o1.alloc (by simp) _
 have T:=Lib.hid ((TBox.make hz hq hz' hq').move o2)
 have r2:=RBox.make (hza.below o1) (hqa.below o1)
 simp only [World.size_alloc] at r2
 have R:=Lib.hid r2
 have HP:=Lib.hid (hp.below hI b2)
 have Hb:=Lib.hid b2
 have p1:=ha.p
 have p2:=hb.p
 have p3:=hc.p
 have pa:=hQ _ ha
 have pc:=hQ _ hc
 obtain ⟨V,hV⟩:∃ V,V=cmpr Q r a:=⟨_,rfl⟩
 rw [← hV]
 unfold cmpr at hV
 have HV:=Lib.hid hV
 obtain ⟨S,hS⟩:∃ S,S=a.sgn Q:=⟨_,rfl⟩
 obtain ⟨S2,hS2⟩:∃ S,S=r.1.sgn Q:=⟨_,rfl⟩
 have HS:=Lib.hid hS
 have HS2:=Lib.hid hS2
 clear hz hq hz' hq' hza hqa o1 o2 b2 r2 hp hV hS hS2 hQ
 go_enter Tryz.func67,Tryz.ntmps67
 have x0:=T.out.r.c0;have x1:=T.out.r.c1;have x2:=T.out.r.c2;have x3:=T.out.c3;have x4:=T.out.c4;have x5:=T.out.c5;have y0:=R.out.c0;have y1:=R.out.c1;have y2:=R.out.c2
 go_wp2_with fail
 refine (isexact_any T.out.r.hz T.out.r.hq T.out.hz T.out.hq ha hb).mono ?_
 rintro e w1 ⟨rfl,hb1⟩
 clear x0 x1 x2 x3 x4 x5 y0 y1 y2
 replace HP:=Lib.hid (HP.out.below hI hb1);replace T:=Lib.hid (T.out.move hb1);replace R:=Lib.hid (R.out.move hb1);replace Hb:=Lib.hid (Hb.out.trans ((hb1).mono Hb.out.size))
 clear hb1
 by_cases c0:fcmp r.1 r.2=0
 ·have b1:(fcmp r.1 r.2 == 0)=true:=by rw [c0];rfl
  have EV:=Lib.hid (show V=fcmp r.1 a by rw [HV.out,if_pos c0])
  clear c0
  have x0:=T.out.r.c0;have x1:=T.out.r.c1;have x2:=T.out.r.c2;have x3:=T.out.c3;have x4:=T.out.c4;have x5:=T.out.c5;have y0:=R.out.c0;have y1:=R.out.c1;have y2:=R.out.c2
  go_wp2_with fail
  refine (rcmp_any _ _ _ _ _ _ _ _ _ _ _ _ _ _ _ _ _ _ _ T.out.r.hz.at_ T.out.r.hq.at_ R.out.hz.at_ R.out.hq.at_ (by omega) (by omega) ha.fz ha.fq hc.fz hc.fq).mono ?_;rintro e w2 ⟨rfl,hb9⟩;clear x0 x1 x2 x3 x4 x5 y0 y1 y2;replace HP:=Lib.hid (HP.out.below hI hb9);replace T:=Lib.hid (T.out.move hb9);replace R:=Lib.hid (R.out.move hb9);replace Hb:=Lib.hid (Hb.out.trans ((hb9).mono Hb.out.size));clear hb9
  obtain ⟨C,hC⟩:∃ C,C=fcmp r.1 a:=⟨_,rfl⟩
  rw [show cmpz (r.1.z*(a.q:Int)) (a.z*(r.1.q:Int))=C from hC.symm]
  replace EV:=Lib.hid (EV.out.trans hC.symm)
  clear hC T R HP
  go_wp2;go_ret;exact ⟨(by first | (rw [EV.out];done) | (rw [EV.out];rfl)),Hb.out⟩
 have b1:(fcmp r.1 r.2 == 0)=false:=by rw [beq_eq_false_iff_ne];exact c0
 have hV:=HV.out
 rw [if_neg c0] at hV
 replace HV:=Lib.hid hV
 clear c0 hV
 have x0:=T.out.r.c0;have x1:=T.out.r.c1;have x2:=T.out.r.c2;have x3:=T.out.c3;have x4:=T.out.c4;have x5:=T.out.c5;have y0:=R.out.c0;have y1:=R.out.c1;have y2:=R.out.c2
 go_wp2_with fail
 refine (rcmp_any _ _ _ _ _ _ _ _ _ _ _ _ _ _ _ _ _ _ _ R.out.hz.at_ R.out.hq.at_ T.out.r.hz.at_ T.out.r.hq.at_ (by omega) (by omega) hc.fz hc.fq ha.fz ha.fq).mono ?_;rintro e w2 ⟨rfl,hb9⟩;clear x0 x1 x2 x3 x4 x5 y0 y1 y2;replace HP:=Lib.hid (HP.out.below hI hb9);replace T:=Lib.hid (T.out.move hb9);replace R:=Lib.hid (R.out.move hb9);replace Hb:=Lib.hid (Hb.out.trans ((hb9).mono Hb.out.size));clear hb9
 obtain ⟨C1,hC1⟩:∃ C,C=fcmp a r.1:=⟨_,rfl⟩
 rw [show cmpz (a.z*(r.1.q:Int)) (r.1.z*(a.q:Int))=C1 from hC1.symm]
 have hV:=HV.out
 rw [← hC1] at hV
 replace HV:=Lib.hid hV
 clear hC1 hV
 by_cases c1:C1≤0
 ·have b2:decide (C1≤0)=true:=decide_eq_true c1
  have EV:=Lib.hid (show V=1 by rw [HV.out,if_pos c1])
  clear c1 T R HP
  go_wp2;go_ret;exact ⟨(by first | (rw [EV.out];done) | (rw [EV.out];rfl)),Hb.out⟩
 have b2:decide (C1≤0)=false:=decide_eq_false c1
 have hV:=HV.out
 rw [if_neg c1] at hV
 replace HV:=Lib.hid hV
 clear c1 hV
 have x0:=T.out.r.c0;have x1:=T.out.r.c1;have x2:=T.out.r.c2;have x3:=T.out.c3;have x4:=T.out.c4;have x5:=T.out.c5;have y0:=R.out.c0;have y1:=R.out.c1;have y2:=R.out.c2
 go_wp2_with fail
 refine (rcmp_any _ _ _ _ _ _ _ _ _ _ _ _ _ _ _ _ _ _ _ R.out.hz.at_ R.out.hq.at_ T.out.hz.at_ T.out.hq.at_ (by omega) (by omega) hc.fz hc.fq hb.fz hb.fq).mono ?_;rintro e w3 ⟨rfl,hb9⟩;clear x0 x1 x2 x3 x4 x5 y0 y1 y2;replace HP:=Lib.hid (HP.out.below hI hb9);replace T:=Lib.hid (T.out.move hb9);replace R:=Lib.hid (R.out.move hb9);replace Hb:=Lib.hid (Hb.out.trans ((hb9).mono Hb.out.size));clear hb9
 obtain ⟨C2,hC2⟩:∃ C,C=fcmp a r.2:=⟨_,rfl⟩
 rw [show cmpz (a.z*(r.2.q:Int)) (r.2.z*(a.q:Int))=C2 from hC2.symm]
 have hV:=HV.out
 rw [← hC2] at hV
 replace HV:=Lib.hid hV
 clear hC2 hV
 by_cases c2:0≤C2
 ·have b3:decide (0≤C2)=true:=decide_eq_true c2
  have EV:=Lib.hid (show V=-1 by rw [HV.out,if_pos c2])
  clear c2 T R HP
  go_wp2;go_ret;exact ⟨(by first | (rw [EV.out];done) | (rw [EV.out];rfl)),Hb.out⟩
 have b3:decide (0≤C2)=false:=decide_eq_false c2
 have hV:=HV.out
 rw [if_neg c2,← HS.out,← HS2.out] at hV
 replace HV:=Lib.hid hV
 clear c2 hV
 have x0:=T.out.r.c0;have x1:=T.out.r.c1;have x2:=T.out.r.c2;have x3:=T.out.c3;have x4:=T.out.c4;have x5:=T.out.c5;have y0:=R.out.c0;have y1:=R.out.c1;have y2:=R.out.c2
 go_wp2_with fail
 refine (signat_any hI _ _ _ Q _ _ _ _ _ _ _ _ _ _ HP.out (pc).fit (by omega) R.out.hz R.out.hq (hc).at.u (hc).at.v (hc).at.pos (pc).ok (hc).at.fz (hc).at.fq).mono ?_;rintro e w4 ⟨he,hb9⟩;have he2:e=.returned (.int .i64 S):=(by rw [HS.out];exact he);subst he2;clear he;clear x0 x1 x2 x3 x4 x5 y0 y1 y2;replace HP:=Lib.hid (HP.out.below hI hb9);replace T:=Lib.hid (T.out.move hb9);replace R:=Lib.hid (R.out.move hb9);replace Hb:=Lib.hid (Hb.out.trans ((hb9).mono Hb.out.size));clear hb9
 by_cases c3:S=0
 ·have b4:(S == 0)=true:=by rw [c3];rfl
  have EV:=Lib.hid (show V=0 by rw [HV.out,if_pos c3])
  clear c3 T R HP
  go_wp2;go_ret;exact ⟨(by first | (rw [EV.out];done) | (rw [EV.out];rfl)),Hb.out⟩
 have b4:(S == 0)=false:=by rw [beq_eq_false_iff_ne];exact c3
 have hV:=HV.out
 rw [if_neg c3] at hV
 replace HV:=Lib.hid hV
 clear c3 hV
 have x0:=T.out.r.c0;have x1:=T.out.r.c1;have x2:=T.out.r.c2;have x3:=T.out.c3;have x4:=T.out.c4;have x5:=T.out.c5;have y0:=R.out.c0;have y1:=R.out.c1;have y2:=R.out.c2
 go_wp2_with fail
 refine (signat_any hI _ _ _ Q _ _ _ _ _ _ _ _ _ _ HP.out (pa).fit (by omega) T.out.r.hz T.out.r.hq (ha).at.u (ha).at.v (ha).at.pos (pa).ok (ha).at.fz (ha).at.fq).mono ?_;rintro e w5 ⟨he,hb9⟩;have he2:e=.returned (.int .i64 S2):=(by rw [HS2.out];exact he);subst he2;clear he;clear x0 x1 x2 x3 x4 x5 y0 y1 y2;replace HP:=Lib.hid (HP.out.below hI hb9);replace T:=Lib.hid (T.out.move hb9);replace R:=Lib.hid (R.out.move hb9);replace Hb:=Lib.hid (Hb.out.trans ((hb9).mono Hb.out.size));clear hb9
 by_cases c4:S=S2
 ·have b5:(S == S2)=true:=by rw [c4];simp
  have EV:=Lib.hid (show V=1 by rw [HV.out,if_pos c4])
  clear c4 T R HP
  go_wp2;go_ret;exact ⟨(by first | (rw [EV.out];done) | (rw [EV.out];rfl)),Hb.out⟩
 ·have b5:(S == S2)=false:=by rw [beq_eq_false_iff_ne];exact c4
  have EV:=Lib.hid (show V=-1 by rw [HV.out,if_neg c4])
  clear c4 T R HP
  go_wp2;go_ret;exact ⟨(by first | (rw [EV.out];done) | (rw [EV.out];rfl)),Hb.out⟩
end Go.Proofs.YtbfddopopajgaaaGreat
namespace Go.Proofs.YtbfddopopajgaaaGreat
open Go Go.RowKit
noncomputable def cmpV (f:List Int) (r:Fq×Fq) (a:Fq):Int:=bif vld 2 f r.1 r.2 then cmpr (qpart f) r a else 0
def errV (V:Bool):Int:=bif V then 0 else 1
set_option maxRecDepth 100000 in
set_option maxHeartbeats 4000000 in
theorem rcmpr_any {I:IntPred} (hI:IK I) {w:World} {Af:Option Addr} {lf cf:Nat} {f:List Int} {r:Fq×Fq} {a:Fq} {n:Bool} {A:Option Addr} {l c:Nat} {B:Option Addr} {m d:Nat} {n':Bool} {A':Option Addr} {l' c':Nat} {B':Option Addr} {m' d':Nat} {na:Bool} {Aa:Option Addr} {la ca:Nat} {Ba:Option Addr} {ma da:Nat}
  (hf:PolyP I w Af lf cf f) (hl:f.length≤10) (h9:P9 f) (hz:IntN w n A l c r.1.z) (hq:NatN w B m d r.1.q) (hz':IntN w n' A' l' c' r.2.z) (hq':NatN w B' m' d' r.2.q) (hza:IntN w na Aa la ca a.z) (hqa:NatN w Ba ma da a.q) (ha:FqB r.1) (hb:FqB r.2) (hc:FqB a) :
  Calls Tryz.prog 26 #[.slice Af lf cf,.agg #[.bool n,.slice A l c,.slice B m d,.bool n',.slice A' l' c',.slice B' m' d'],.agg #[.bool na,.slice Aa la ca,.slice Ba ma da]] w fun e w'=>e=.returned (.tuple #[.int .i64 (cmpV f r a),.int .i64 (errV (vld 2 f r.1 r.2))])∧Below w.heap.size w w':=by
 have hlf:lf≤10:=by have:=hf.length;omega
 have o1:=below_new w (tbox n A l c B m d n' A' l' c' B' m' d')
 have o2:=below_new (w.alloc (tbox n A l c B m d n' A' l' c' B' m' d')) (rbox na Aa la ca Ba ma da)
 have b2:Below w.heap.size w ((w.alloc (tbox n A l c B m d n' A' l' c' B' m' d')).alloc (rbox na Aa la ca Ba ma da)):=o1.alloc (by simp) _
 have T:=Lib.hid ((TBox.make hz hq hz' hq').move o2)
 have r2:=RBox.make (hza.below o1) (hqa.below o1)
 simp only [World.size_alloc] at r2
 have R:=Lib.hid r2
 have HP:=Lib.hid (hf.below hI b2)
 have Hb:=Lib.hid b2
 obtain ⟨V,hV⟩:∃ V,V=vld 2 f r.1 r.2:=⟨_,rfl⟩
 obtain ⟨X,hX⟩:∃ X,X=cmpV f r a:=⟨_,rfl⟩
 rw [← hV,← hX]
 unfold cmpV at hX
 rw [← hV] at hX
 have HX:=Lib.hid hX
 have HV:=Lib.hid hV
 clear hz hq hz' hq' hza hqa o1 o2 b2 r2 hf hV hX
 go_enter Tryz.func26,Tryz.ntmps26
 have x0:=T.out.r.c0;have x1:=T.out.r.c1;have x2:=T.out.r.c2;have x3:=T.out.c3;have x4:=T.out.c4;have x5:=T.out.c5;have y0:=R.out.c0;have y1:=R.out.c1;have y2:=R.out.c2
 go_wp2_with fail
 refine (valid_any hI _ _ _ f r.1 r.2 _ _ _ _ _ _ _ _ _ _ _ _ _ _ _ HP.out hl h9 T.out.r.hz T.out.r.hq T.out.hz T.out.hq ha hb).mono ?_
 rintro e w1 ⟨he,hb1⟩
 have he2:e=.returned (.bool V):=by rw [HV.out];exact he
 subst he2
 clear he
 clear x0 x1 x2 x3 x4 x5 y0 y1 y2
 replace HP:=Lib.hid (HP.out.below hI hb1);replace T:=Lib.hid (T.out.move hb1);replace R:=Lib.hid (R.out.move hb1);replace Hb:=Lib.hid (Hb.out.trans ((hb1).mono Hb.out.size))
 clear hb1
 cases V with
 | false =>
   have EX:=Lib.hid (show X=0 by rw [HX.out];rfl)
   go_wp2_with fail
   refine bodyPost_ret (v:=.tuple #[.int .i64 0,.int .i64 1]) (by simp [results,Tryz.results26,go_sem]) rfl ⟨by rw [EX.out];rfl,Hb.out⟩
 | true =>
   obtain ⟨wb,hwb⟩:∃ wb,wb=w1:=⟨_,rfl⟩
   obtain ⟨g1,hg1⟩:∃ g,g=w.heap.size:=⟨_,rfl⟩
   obtain ⟨g2,hg2⟩:∃ g,g=w.heap.size+1:=⟨_,rfl⟩
   rw [← hwb] at T R HP Hb ⊢
   rw [← hg1] at T
   rw [← hg2] at R
   rw [← hg2,← hg1]
   have l1:=T.out.r.lt
   have l2:=R.out.lt
   clear hwb hg1 hg2
   have x0:=T.out.r.c0;have x1:=T.out.r.c1;have x2:=T.out.r.c2;have x3:=T.out.c3;have x4:=T.out.c4;have x5:=T.out.c5;have y0:=R.out.c0;have y1:=R.out.c1;have y2:=R.out.c2
   have h0:plen f≠0:=fun h0=>by have:=HV.out;rw [vld_nil h0 2 (by omega)] at this;cases this
   have hQ:∀ x,FqB x→PoOK x.z x.q (qpart f):=fun x hx=>h9.part.at (by rw [← h9.part_t,ptrim_length];have:=h9.part_l;have:=h9.len;omega) hx.z hx.q
   have hql:(qpart f).length≤10:=by rw [← h9.part_t,ptrim_length];have:=h9.part_l;have:=h9.len;omega
   obtain ⟨Q,hQe⟩:∃ Q,Q=qpart f:=⟨_,rfl⟩
   rw [← hQe] at hQ hql
   have HQ:=Lib.hid hQ
   have HQe:=Lib.hid hQe
   have EX:=Lib.hid (show X=cmpr Q r a by rw [HX.out,hQe];rfl)
   clear h0 hQ hQe
   go_wp2_with fail
   refine wp_region_held_drew (S:=fun w'=>w'.cell? ⟨g1,0,none⟩=some (.bool n)∧w'.cell? ⟨g1,1,none⟩=some (.slice A l c)∧w'.cell? ⟨g1,2,none⟩=some (.slice B m d)∧w'.cell? ⟨g1,3,none⟩=some (.bool n')∧w'.cell? ⟨g1,4,none⟩=some (.slice A' l' c')∧w'.cell? ⟨g1,5,none⟩=some (.slice B' m' d')∧w'.cell? ⟨g2,0,none⟩=some (.bool na)∧w'.cell? ⟨g2,1,none⟩=some (.slice Aa la ca)∧w'.cell? ⟨g2,2,none⟩=some (.slice Ba ma da)) (by kernel_rfl) (by (try dsimp only);go_keep) (fun hHeld=>?_)
   (refine tk (i:=0) (v:=?_) rfl rfl (Or.inl ⟨by rfl,?_⟩) ?_;rotate_left;(focus (intro w hSw;(try dsimp only at hSw);go_simp;(try with_reducible rfl)));(simp only [put_lit,List.set]))
   (refine tk (i:=2) (v:=?_) rfl rfl (Or.inl ⟨by rfl,?_⟩) ?_;rotate_left;(focus (intro w hSw;(try dsimp only at hSw);go_simp;(try with_reducible rfl)));(simp only [put_lit,List.set]))
   (refine tk (i:=3) (v:=?_) rfl rfl (Or.inl ⟨by rfl,?_⟩) ?_;rotate_left;(focus (intro w hSw;(try dsimp only at hSw);go_simp;(try with_reducible rfl)));(simp only [put_lit,List.set]))
   (refine wpAnyH_ready (rs:=[1]) (by kernel_rfl) (by simp) ?_;refine AllReadyH.cons rfl (fun K hK=>?_) AllReadyH.nil;go_simp)
   refine (part_q hI _ _ _ f _ (HP.out.below hI Bel.go) h9.cp.fit.smp (fun _=>h9.q) (by omega)).mono ?_
   rintro e w4 ⟨A4,l4,c4,rfl,h4,hb4⟩
   rw [← HQe.out] at h4
   have hl4:l4≤10:=by have:=h4.length;omega
   have G4:=Lib.hid ((Below.trans Bel.go (hb4.mono (by simp<;>omega))):Below wb.heap.size wb w4)
   have H4:=Lib.hid h4
   obtain ⟨hcx,hfx⟩:=bcellS hb4;refine hK.out _ _ ?_ (fun _=>?_);(focus (((try dsimp only);repeat' apply And.intro)<;>(rw [hcx _ (by go_simp)];go_simp)));clear hHeld hK K hcx hfx;rename_i hHeld
   clear h4 hb4
   (refine wpAnyH_ready (rs:=[4]) (by kernel_rfl) (by simp) ?_;refine AllReadyH.cons rfl (fun K hK=>?_) AllReadyH.nil;go_simp)
   have T4:=T.out.move G4.out
   have R4:=R.out.move G4.out
   refine (compare_any ikN (r:=r) (a:=a) (H4.out.below ikN Bel.go) (by omega) HQ.out (T4.r.hz.below Bel.go) (T4.r.hq.below Bel.go) (T4.hz.below Bel.go) (T4.hq.below Bel.go) (R4.hz.below Bel.go) (R4.hq.below Bel.go) ha hb hc).mono ?_
   rintro e w5 ⟨he,hb5⟩
   have he2:e=.returned (.int .i64 X):=by rw [EX.out];exact he
   subst he2
   have G5:=Lib.hid (G4.out.trans (((Below.trans Bel.go (hb5.mono (by simp<;>omega))):Below w4.heap.size w4 w5).mono G4.out.size))
   obtain ⟨hcx,hfx⟩:=bcellS hb5;refine hK.out _ _ ?_ (fun _=>?_);(focus (((try dsimp only);repeat' apply And.intro)<;>(rw [hcx _ (by go_simp)];go_simp)));clear hHeld hK K hcx hfx;rename_i hHeld
   clear hb5 he T4 R4
   (refine tk (i:=5) (v:=?_) rfl rfl (Or.inl ⟨by rfl,?_⟩) ?_;rotate_left;(focus (intro w hSw;(try dsimp only at hSw);go_simp;(try with_reducible rfl)));(simp only [put_lit,List.set]))
   (refine tk (i:=6) (v:=?_) rfl rfl (Or.inl ⟨by rfl,?_⟩) ?_;rotate_left;(focus (intro w hSw;(try dsimp only at hSw);go_simp;(try with_reducible rfl)));(simp only [put_lit,List.set]))
   refine wpAnyH_done (by kernel_rfl) ?_ _
   replace Hb:=Lib.hid (Hb.out.trans (G5.out.mono Hb.out.size))
   clear hHeld T R HP G4 G5 H4
   clear x0 x1 x2 x3 x4 x5 y0 y1 y2
   go_wp2
   refine bodyPost_ret (v:=.tuple #[.int .i64 X,.int .i64 0]) (by simp [results,Tryz.results26,go_sem]) rfl ⟨by rfl,Hb.out⟩
end Go.Proofs.YtbfddopopajgaaaGreat
namespace Go.Proofs.YtbfddopopajgaaaGreat
open Go Go.RowKit
theorem w2_atR (w:World):I64At (w.alloc (.cells #[.int .i64 (-2),.int .i64 0,.int .i64 1] 2)) (some ⟨w.heap.size,0,none⟩) 3 3 w2:=by
 refine ⟨rfl,by omega,.inr ⟨w.heap.size,0,rfl,by simp,fun j hj=>?_⟩⟩
 match j,hj with
 | 0,_=>simp [w2]
 | 1,_=>simp [w2]
 | 2,_=>simp [w2]
theorem w2_trimR:ptrim w2=w2:=by decide
def SqE (e:Ending) (w:World):Prop:=∃ Ap lp cp n A l c B m d n' A' l' c' B' m' d',e=.returned (.tuple #[.slice Ap lp cp,.agg #[.bool n,.slice A l c,.slice B m d,.bool n',.slice A' l' c',.slice B' m' d']])∧PolyN w Ap lp cp w2∧IntN w n A l c 1∧NatN w B m d 1∧IntN w n' A' l' c' 2∧NatN w B' m' d' 1
theorem root_poly {w w':World} {g t:Nat} {A:Option Addr} {l c:Nat} {p:List Int} (hp:PolyN w A l c p) (hl:2≤p.length) (hk:Blk w g t rz6) (hf:FrS g g w w'):PolyN w' A l c p:=by
 refine PolyG.frs (g:=g) (g':=g) ⟨hp,?_⟩ hf (rz6_ndb hk) (rz6_ndb hk)
 have hlen:=hp.length
 rcases hp.elems with h0 | ⟨b,o,hA,hlt,he⟩
 ·exact .inl h0
 ·refine .inr ⟨b,o,hA,?_⟩
  have hne:b≠g:=fun e=>by
   subst e
   obtain ⟨_,_,_,_,f1,_,_⟩:=he 0 (by omega)
   obtain ⟨_,_,_,_,f2,_,_⟩:=he 1 (by omega)
   rw [hk.cell] at f1 f2
   match o,f1,f2 with
   | 0,_,f2=>simp at f2
   | 1,f1,_=>simp at f1
   | 2,f1,_=>simp at f1
   | 3,_,f2=>simp at f2
   | 4,f1,_=>simp at f1
   | 5,f1,_=>simp at f1
   | o+6,f1,_=>simp at f1
  exact ⟨hne,hne⟩
set_option maxRecDepth 100000 in
set_option maxHeartbeats 4000000 in
theorem sqrt2_any (w:World):Calls Tryz.prog 57 #[] w fun e w'=>SqE e w'∧Below w.heap.size w w':=by
 have o1:=below_new w rtObj
 have K3:Blk (w.alloc rtObj) w.heap.size 44 rz6:=Blk.new _ _ _
 have jb:=below_new (w.alloc rtObj) (.cells #[.int .i64 (-2),.int .i64 0,.int .i64 1] 2)
 have hat:=w2_atR (w.alloc rtObj)
 have Hb:=Lib.hid (o1.trans (jb.mono o1.size))
 have K4:=Lib.hid (K3.below jb K3.lt)
 obtain ⟨g3,hg3⟩:∃ g,g=w.heap.size:=⟨_,rfl⟩
 rw [← hg3] at K4
 have Hg:=Lib.hid (show w.heap.size≤g3 by omega)
 have HG3:=Lib.hid hg3
 clear o1 jb K3 hg3
 go_enter Tryz.func57,Tryz.ntmps57
 go_wp2_with fail
 refine (pof_any _ _ _ _ _ (by first | exact hat | simpa using hat) (by intro c hc;simp [w2] at hc;rcases hc with rfl | rfl | rfl<;>(unfold I64;omega)) (by omega)).mono ?_
 rintro e w1 ⟨A1,l1,c1,rfl,h1,hb1⟩
 rw [w2_trimR] at h1
 have HP:=Lib.hid h1
 replace K4:=Lib.hid (K4.out.below hb1 K4.out.lt)
 replace Hb:=Lib.hid (Hb.out.trans (hb1.mono Hb.out.size))
 clear hb1 h1 hat
 go_wp2_with fail
 refine (rof_any 1 _ (by unfold I64;omega)).mono ?_
 rintro e w2' ⟨⟨n2,A2,l2,c2,B2,m2,d2,rfl,h2,k2⟩,hb2⟩
 have H2:=Lib.hid (And.intro h2 k2)
 replace HP:=Lib.hid (HP.out.below ikN hb2)
 replace K4:=Lib.hid (K4.out.below hb2 K4.out.lt)
 replace Hb:=Lib.hid (Hb.out.trans (hb2.mono Hb.out.size))
 clear hb2 h2 k2
 go_wp2_with fail
 refine (rof_any 2 _ (by unfold I64;omega)).mono ?_
 rintro e w3 ⟨⟨n3,A3,l3,c3,B3,m3,d3,rfl,h3,k3⟩,hb3⟩
 replace H2:=Lib.hid (And.intro (H2.out.1.below hb3) (H2.out.2.below hb3))
 replace HP:=Lib.hid (HP.out.below ikN hb3)
 replace K4:=Lib.hid (K4.out.below hb3 K4.out.lt)
 replace Hb:=Lib.hid (Hb.out.trans (hb3.mono Hb.out.size))
 have hf:=pu6_frs w3 g3 (.bool n2) (.slice A2 l2 c2) (.slice B2 m2 d2) (.bool n3) (.slice A3 l3 c3) (.slice B3 m3 d3)
 have nd:=rz6_ndb K4.out
 have hpg:PolyN (pu6 w3 g3 (.bool n2) (.slice A2 l2 c2) (.slice B2 m2 d2) (.bool n3) (.slice A3 l3 c3) (.slice B3 m3 d3)) A1 l1 c1 w2:=root_poly HP.out (by decide) K4.out hf
 have FX:=Lib.hid (And.intro (show SqE (.returned (.tuple #[.slice A1 l1 c1,.agg #[.bool n2,.slice A2 l2 c2,.slice B2 m2 d2,.bool n3,.slice A3 l3 c3,.slice B3 m3 d3]])) _ from ⟨_,_,_,_,_,_,_,_,_,_,_,_,_,_,_,_,_,rfl,hpg,H2.out.1.frs hf nd nd,H2.out.2.frs hf nd nd,h3.frs hf nd nd,k3.frs hf nd nd⟩) (hf.mono Hb.out Hg.out Hg.out Hb.out.size))
 rw [← HG3.out]
 have r0:=(K4.out.cell 0).trans rfl;have r1:=(K4.out.cell 1).trans rfl;have r2:=(K4.out.cell 2).trans rfl;have r3:=(K4.out.cell 3).trans rfl;have r4:=(K4.out.cell 4).trans rfl;have r5:=(K4.out.cell 5).trans rfl;have s0:=K4.out.frozen 0;have s1:=K4.out.frozen 1;have s2:=K4.out.frozen 2;have s3:=K4.out.frozen 3;have s4:=K4.out.frozen 4;have s5:=K4.out.frozen 5
 clear hb3 h3 k3 hf nd hpg K4 Hb H2 HP
 go_wp2
 refine bodyPost_ret (v:=.tuple #[.slice A1 l1 c1,.agg #[.bool n2,.slice A2 l2 c2,.slice B2 m2 d2,.bool n3,.slice A3 l3 c3,.slice B3 m3 d3]]) (by simp [results,Tryz.results57,go_sem,r0,r1,r2,r3,r4,r5]) rfl FX.out
theorem p9_one:FqB ⟨1,1⟩:=⟨Nat.one_pos,Nat.le_trans (by decide) zb_128,Nat.le_trans (by decide) zb_128⟩
theorem p9_two:FqB ⟨2,1⟩:=⟨Nat.one_pos,Nat.le_trans (by decide) zb_128,Nat.le_trans (by decide) zb_128⟩
theorem sq_count:fcount w2 ⟨1,1⟩ ⟨2,1⟩=1:=by
 unfold fcount ncount
 rw [if_pos (by decide)]
 unfold nint
 rw [← vat_eq (z:=1) (q:=1) Nat.one_pos,← vat_eq (z:=2) (q:=1) Nat.one_pos]
 decide +kernel
theorem sq_vld:vld 2 w2 ⟨1,1⟩ ⟨2,1⟩=true:=by
 unfold vld
 rw [if_neg (by decide),if_pos (by decide),if_neg (by decide +kernel),if_neg (by decide +kernel),sq_count]
 rfl
theorem sq_cmp:cmpV w2 (⟨1,1⟩,⟨2,1⟩) ⟨1,1⟩=1:=by
 unfold cmpV
 rw [sq_vld]
 show cmpr _ _ _=1
 unfold cmpr
 rw [if_neg (by decide),if_pos (by decide)]
set_option maxHeartbeats 1000000 in
theorem awake18_any (w:World):Calls Tryz.prog 21 #[] w fun e w'=>e=.returned (.bool true)∧Below w.heap.size w w':=by
 go_enter Tryz.func21,Tryz.ntmps21
 go_wp2_with fail
 refine (sqrt2_any _).mono ?_
 rintro e w1 ⟨⟨Ap,lp,cp,n,A,l,c,B,m,d,n',A',l',c',B',m',d',rfl,hp,hz,hq,hz',hq'⟩,hb1⟩
 have T0:=TBox.make hz hq hz' hq'
 have jb:=below_new w1 (tbox n A l c B m d n' A' l' c' B' m' d')
 have T:=Lib.hid T0
 have HP:=Lib.hid (hp.below ikN jb)
 have Hb:=Lib.hid (hb1.trans (jb.mono hb1.size))
 obtain ⟨wb,hwb⟩:∃ wb,wb=w1.alloc (tbox n A l c B m d n' A' l' c' B' m' d'):=⟨_,rfl⟩
 obtain ⟨g1,hg1⟩:∃ g,g=w1.heap.size:=⟨_,rfl⟩
 clear hb1 jb T0 hp hz hq hz' hq'
 go_wp2_with fail
 rw [← hwb,← hg1] at T
 rw [← hwb] at HP Hb ⊢
 rw [← hg1]
 have l1:=T.out.r.lt
 clear hwb hg1
 have x0:=T.out.r.c0;have x1:=T.out.r.c1;have x2:=T.out.r.c2;have x3:=T.out.c3;have x4:=T.out.c4;have x5:=T.out.c5
 refine wp_region_held_drew (S:=fun w'=>w'.cell? ⟨g1,0,none⟩=some (.bool n)∧w'.cell? ⟨g1,1,none⟩=some (.slice A l c)∧w'.cell? ⟨g1,2,none⟩=some (.slice B m d)∧w'.cell? ⟨g1,3,none⟩=some (.bool n')∧w'.cell? ⟨g1,4,none⟩=some (.slice A' l' c')∧w'.cell? ⟨g1,5,none⟩=some (.slice B' m' d')) (by kernel_rfl) (by (try dsimp only);go_keep) (fun hHeld=>?_)
 (refine tk (i:=0) (v:=?_) rfl rfl (Or.inl ⟨by rfl,?_⟩) ?_;rotate_left;(focus (intro w hSw;(try dsimp only at hSw);go_simp;(try with_reducible rfl)));(simp only [put_lit,List.set]))
 (refine tk (i:=1) (v:=?_) rfl rfl (Or.inl ⟨by rfl,?_⟩) ?_;rotate_left;(focus (intro w hSw;(try dsimp only at hSw);go_simp;(try with_reducible rfl)));(simp only [put_lit,List.set]))
 refine wpAnyH_ready (rs:=[2]) (by kernel_rfl) (by simp) ?_
 refine AllReadyH.cons rfl (fun K hK=>?_) AllReadyH.nil;go_simp
 refine (rof_any 1 _ (by unfold I64;omega)).mono ?_
 rintro e w4 ⟨⟨n4,A4,l4,c4,B4,m4,d4,rfl,h4,k4⟩,hb4⟩
 have G4:=Lib.hid ((Below.trans Bel.go (hb4.mono (by simp<;>omega))):Below wb.heap.size wb w4)
 have H4:=Lib.hid (And.intro h4 k4)
 obtain ⟨hcx,hfx⟩:=bcellS hb4
 refine hK.out _ _ ?_ (fun _=>?_)
 ·((try dsimp only);repeat' apply And.intro)<;>(rw [hcx _ (by go_simp)];go_simp)
 clear hHeld hK K hcx hfx;rename_i hHeld
 clear h4 k4 hb4
 refine wpAnyH_ready (rs:=[3]) (by kernel_rfl) (by simp) ?_
 refine AllReadyH.cons rfl (fun K hK=>?_) AllReadyH.nil;go_simp
 have T4:=T.out.move G4.out
 refine (rcmpr_any ikN (f:=w2) (r:=(⟨1,1⟩,⟨2,1⟩)) (a:=⟨1,1⟩) ((HP.out.below ikN G4.out).below ikN Bel.go) (by decide) p9_w2 (T4.r.hz.below Bel.go) (T4.r.hq.below Bel.go) (T4.hz.below Bel.go) (T4.hq.below Bel.go) (H4.out.1.below Bel.go) (H4.out.2.below Bel.go) p9_one p9_two p9_one).mono ?_
 rintro e w5 ⟨he,hb5⟩
 rw [sq_cmp,show vld 2 w2 (⟨1,1⟩:Fq) ⟨2,1⟩=true from sq_vld] at he
 have he2:e=.returned (.tuple #[.int .i64 1,.int .i64 0]):=he
 subst he2
 have G5:=Lib.hid (G4.out.trans (((Below.trans Bel.go (hb5.mono (by simp<;>omega))):Below w4.heap.size w4 w5).mono G4.out.size))
 obtain ⟨hcx,hfx⟩:=bcellS hb5
 refine hK.out _ _ ?_ (fun _=>?_)
 ·((try dsimp only);repeat' apply And.intro)<;>(rw [hcx _ (by go_simp)];go_simp)
 clear hHeld hK K hcx hfx;rename_i hHeld
 clear hb5 he T4
 (refine tk (i:=4) (v:=?_) rfl rfl (Or.inl ⟨by rfl,?_⟩) ?_;rotate_left;(focus (intro w hSw;(try dsimp only at hSw);go_simp;(try with_reducible rfl)));(simp only [put_lit,List.set]))
 (refine tk (i:=5) (v:=?_) rfl rfl (Or.inl ⟨by rfl,?_⟩) ?_;rotate_left;(focus (intro w hSw;(try dsimp only at hSw);go_simp;(try with_reducible rfl)));(simp only [put_lit,List.set]))
 (refine tk (i:=6) (v:=?_) rfl rfl (Or.inl ⟨by rfl,?_⟩) ?_;rotate_left;(focus (intro w hSw;(try dsimp only at hSw);go_simp;(try with_reducible rfl)));(simp only [put_lit,List.set]))
 (refine tk (i:=7) (v:=?_) rfl rfl (Or.inl ⟨by rfl,?_⟩) ?_;rotate_left;(focus (intro w hSw;(try dsimp only at hSw);go_simp;(try with_reducible rfl)));(simp only [put_lit,List.set]))
 (refine tk (i:=8) (v:=?_) rfl rfl (Or.inl ⟨by rfl,?_⟩) ?_;rotate_left;(focus (intro w hSw;(try dsimp only at hSw);go_simp;(try with_reducible rfl)));(simp only [put_lit,List.set]))
 refine wpAnyH_done (by kernel_rfl) ?_ _
 replace Hb:=Lib.hid (Hb.out.trans (G5.out.mono Hb.out.size))
 clear hHeld x0 x1 x2 x3 x4 x5 T HP G4 G5 H4
 go_wp2
 go_ret
 exact ⟨by first | rfl | simp,Hb.out⟩
theorem Vals.getv {w:World} {g o:Nat} {rs:List (Fq×Fq)} (h:Vals w g o rs) {k:Nat} (hk:k<rs.length) :
  ∃ n A l c B m d n' A' l' c' B' m' d',w.cell? ⟨g,o+k*6,none⟩=some (.bool n)∧w.cell? ⟨g,o+k*6+1,none⟩=some (.slice A l c)∧w.cell? ⟨g,o+k*6+2,none⟩=some (.slice B m d)∧w.cell? ⟨g,o+k*6+3,none⟩=some (.bool n')∧w.cell? ⟨g,o+k*6+4,none⟩=some (.slice A' l' c')∧w.cell? ⟨g,o+k*6+5,none⟩=some (.slice B' m' d') ∧
    IntN w n A l c (rs.getD k r00).1.z∧NatN w B m d (rs.getD k r00).1.q∧IntN w n' A' l' c' (rs.getD k r00).2.z∧NatN w B' m' d' (rs.getD k r00).2.q:=by
 have e:rs[k]?=some (rs.getD k r00):=by rw [List.getD_eq_getElem?_getD,List.getElem?_eq_getElem hk];rfl
 obtain ⟨vs,⟨n,A,l,c,B,m,d,n',A',l',c',B',m',d',hv,h1,h2,h3,h4⟩,hc⟩:=h k _ e
 subst hv
 exact ⟨n,A,l,c,B,m,d,n',A',l',c',B',m',d',hc 0 _ rfl,hc 1 _ rfl,hc 2 _ rfl,hc 3 _ rfl,hc 4 _ rfl,hc 5 _ rfl,h1,h2,h3,h4⟩
def PickE (rs:List (Fq×Fq)) (k:Nat) (e:Ending) (w:World):Prop :=
 (rs.length=0∧e=.returned (.tuple #[.agg rz6,.bool false])) ∨
 (0<rs.length∧∃ n A l c B m d n' A' l' c' B' m' d',e=.returned (.tuple #[.agg #[.bool n,.slice A l c,.slice B m d,.bool n',.slice A' l' c',.slice B' m' d'],.bool true])∧IntN w n A l c (rs.getD (k % rs.length) r00).1.z∧NatN w B m d (rs.getD (k % rs.length) r00).1.q∧IntN w n' A' l' c' (rs.getD (k % rs.length) r00).2.z∧NatN w B' m' d' (rs.getD (k % rs.length) r00).2.q)
set_option maxRecDepth 100000 in
set_option maxHeartbeats 4000000 in
theorem pick_any {I:IntPred} (hI:IK I) {w:World} {Af:Option Addr} {lf cf:Nat} {f:List Int} {k:Nat} (hf:PolyP I w Af lf cf f) (hl:f.length≤10) (h9:P9 f) (hk:k≤255) :
  Calls Tryz.prog 22 #[.slice Af lf cf,.int .u8 (k:Int)] w fun e w'=>PickE (proots f) k e w'∧Below w.heap.size w w':=by
 have hlf:lf≤10:=by have:=hf.length;omega
 have o1:=below_new w rtObj
 have K3:Blk (w.alloc rtObj) w.heap.size 44 rz6:=Blk.new _ _ _
 have HP:=Lib.hid (hf.below hI o1)
 have Hb:=Lib.hid o1
 have K4:=Lib.hid K3
 have hn9:=proots_le9 h9
 obtain ⟨RS,hRS⟩:∃ R,R=proots f:=⟨_,rfl⟩
 rw [← hRS] at hn9 ⊢
 have HRS:=Lib.hid hRS
 obtain ⟨g3,hg3⟩:∃ g,g=w.heap.size:=⟨_,rfl⟩
 have HG3:=Lib.hid hg3
 have Hg:=Lib.hid (show w.heap.size≤g3 by omega)
 rw [← hg3] at K4
 have i1:IntKind.i64.wrap (k:Int)=(k:Int):=IntWalk.i64_in _ (by omega)
 clear hf o1 K3 hRS hg3
 go_enter Tryz.func22,Tryz.ntmps22
 go_wp2_with fail
 refine (roots_any hI _ _ _ f _ HP.out h9.cp.fit.smp (fun _=>h9.q) (fun h=>SqF.of9 h9 h) (by omega)).mono ?_
 rintro e w1 ⟨⟨A1,l1,c1,rfl,h1⟩,hb1⟩
 rw [← HRS.out] at h1
 have hl1:l1=RS.length:=h1.length.symm
 have HR:=Lib.hid h1
 replace K4:=Lib.hid (K4.out.below hb1 K4.out.lt)
 replace Hb:=Lib.hid (Hb.out.trans (hb1.mono Hb.out.size))
 clear hb1 h1 HP
 by_cases h0:l1=0
 ·subst h0
  have FX:=Lib.hid hl1
  have nd:=rz6_ndb K4.out
  have hf:=pu6_frs w1 g3 (.bool false) (.slice none 0 0) (.slice none 0 0) (.bool false) (.slice none 0 0) (.slice none 0 0)
  have Hb2:=Lib.hid (hf.mono Hb.out Hg.out Hg.out Hb.out.size)
  rw [← HG3.out]
  have r0:=(K4.out.cell 0).trans rfl;have r1:=(K4.out.cell 1).trans rfl;have r2:=(K4.out.cell 2).trans rfl;have r3:=(K4.out.cell 3).trans rfl;have r4:=(K4.out.cell 4).trans rfl;have r5:=(K4.out.cell 5).trans rfl;have s0:=K4.out.frozen 0;have s1:=K4.out.frozen 1;have s2:=K4.out.frozen 2;have s3:=K4.out.frozen 3;have s4:=K4.out.frozen 4;have s5:=K4.out.frozen 5
  clear K4 Hb nd hf HR hl1
  go_wp2
  refine bodyPost_ret (v:=.tuple #[.agg rz6,.bool false]) (by simp [results,Tryz.results22,go_sem,r0,r1,r2,r3,r4,r5]) rfl ⟨.inl ⟨FX.out.symm,rfl⟩,Hb2.out⟩
 ·have g1:((l1:Int) == 0)=false:=by rw [beq_eq_false_iff_ne];omega
  have g2:(l1:Int)≠0:=by omega
  have hlt:k % RS.length<RS.length:=Nat.mod_lt _ (by omega)
  obtain ⟨j,hj⟩:∃ j,j=k % RS.length:=⟨_,rfl⟩
  have hjl:j<RS.length:=by rw [hj];exact hlt
  have em:Int.tmod (k:Int) (l1:Int)=(j:Int):=by rw [hj,hl1];exact Int.ofNat_tmod _ _
  have i2:IntKind.i64.wrap (j:Int)=(j:Int):=IntWalk.i64_in _ (by omega)
  have ja:(j:Int)<(l1:Int):=by omega
  obtain ⟨b,o,rfl,hb0,hv⟩:∃ b o,A1=some ⟨b,o,none⟩∧b<w1.heap.size∧Vals w1 b o RS:=by
   rcases HR.out.elems with ⟨h,_⟩ | h
   ·omega
   ·exact h
  obtain ⟨n,A,l,c,B,m,d,n',A',l',c',B',m',d',e0,e1,e2,e3,e4,e5,z1,z2,z3,z4⟩:=hv.getv hjl
  have hf:=pu6_frs w1 g3 (.bool n) (.slice A l c) (.slice B m d) (.bool n') (.slice A' l' c') (.slice B' m' d')
  have nd:=rz6_ndb K4.out
  have FX:=Lib.hid (show PickE RS k (.returned (.tuple #[.agg #[.bool n,.slice A l c,.slice B m d,.bool n',.slice A' l' c',.slice B' m' d'],.bool true])) (pu6 w1 g3 (.bool n) (.slice A l c) (.slice B m d) (.bool n') (.slice A' l' c') (.slice B' m' d')) from .inr ⟨by omega,_,_,_,_,_,_,_,_,_,_,_,_,_,_,rfl,by rw [← hj];exact z1.frs hf nd nd,by rw [← hj];exact z2.frs hf nd nd,by rw [← hj];exact z3.frs hf nd nd,by rw [← hj];exact z4.frs hf nd nd⟩)
  have Hb2:=Lib.hid (hf.mono Hb.out Hg.out Hg.out Hb.out.size)
  rw [← HG3.out]
  have r0:=(K4.out.cell 0).trans rfl;have r1:=(K4.out.cell 1).trans rfl;have r2:=(K4.out.cell 2).trans rfl;have r3:=(K4.out.cell 3).trans rfl;have r4:=(K4.out.cell 4).trans rfl;have r5:=(K4.out.cell 5).trans rfl;have s0:=K4.out.frozen 0;have s1:=K4.out.frozen 1;have s2:=K4.out.frozen 2;have s3:=K4.out.frozen 3;have s4:=K4.out.frozen 4;have s5:=K4.out.frozen 5
  clear K4 Hb nd hf HR hv z1 z2 z3 z4 hj hlt h0 hl1
  go_wp2_with fail
  refine bodyPost_ret (v:=.tuple #[.agg #[.bool n,.slice A l c,.slice B m d,.bool n',.slice A' l' c',.slice B' m' d'],.bool true]) (by simp [results,Tryz.results22,go_sem,r0,r1,r2,r3,r4,r5]) rfl ⟨FX.out,Hb2.out⟩
end Go.Proofs.YtbfddopopajgaaaGreat
namespace Go.Proofs.YtbfddopopajgaaaGreat
open Go.RowKit
theorem cmp_law {f:List Int} (h9:P9 f) (h0:plen f≠0) {k:Nat} (hk:k<(proots f).length) {a:Fq} (ha:0<a.q) :
  vld 2 f ((proots f).getD k r00).1 ((proots f).getD k r00).2=true∧nbelow f ((proots f).getD k r00).1.z ((proots f).getD k r00).1.q=k ∧
   cmpV f ((proots f).getD k r00) a=if (k:Int)<nbelow f a.z a.q then -1 else if nbelow f a.z a.q=k∧a.sgn f=0 then 0 else 1:=by
 obtain ⟨xs,h⟩:=rf_ex h9 h0
 have hk':k<xs.length:=by rw [← h.len];exact hk
 have hv:=h.vld h9 h0 hk'
 have hq:=q_facts h9.q h0
 refine ⟨hv,h.below_lo h9 h0 hk',?_⟩
 unfold cmpV
 rw [hv]
 show cmpr _ _ _=_
 rw [cmpr_spec hq.q0 hq.simple (fun y=>(hq.root y).symm) (h.fa hk').1.p (h.fa hk').2.p ha (h.iso k hk')]
 rcases Pt.tri (xs.getD k default) a.p with c | c | c
 ·rw [pcmp_lt c,if_pos (below_gt h9 h0 h.lst hk' ha c)]
 ·have e:=below_eq h9 h0 h.lst hk' ha c
  rw [pcmp_eq c,e,if_neg (Int.lt_irrefl _),if_pos ⟨rfl,by rw [sgn_pt ha,← c];exact idx_root h.lst hk'⟩]
 ·obtain ⟨e1,e2⟩:=below_lt h9 h0 h.lst hk' ha c
  rw [pcmp_gt c,if_neg (by omega),if_neg (fun e=>by
   have:=e2 (by rw [← sgn_pt ha];exact e.2)
   omega)]
end Go.Proofs.YtbfddopopajgaaaGreat
namespace Go.Proofs.YtbfddopopajgaaaGreat
open Go Go.RowKit
theorem at_ok {p d:Int} (hp:I8 p) (hd:I8 d):AtOK (rtz p d) (rtq p d)∧(rtz p d).natAbs≤ZB∧rtq p d≤ZB:=by
 obtain ⟨b1,b2,b3⟩:=fr_bd hp hd
 have hz:(rtz p d).natAbs≤128:=by
  unfold rtz
  rw [Int.natAbs_tdiv,Int.natAbs_mul]
  refine Nat.le_trans (Nat.div_le_self _ _) ?_
  have:(sg (frd d)).natAbs≤1:=by rcases sg_cases (frd d) with ⟨_,e⟩ | ⟨_,e⟩ | ⟨_,e⟩<;>omega
  exact Nat.le_trans (Nat.mul_le_mul this b1) (by omega)
 have hg:0<Nat.gcd (frn p d).natAbs (frd d).natAbs:=Nat.gcd_pos_of_pos_right _ (by omega)
 have hq:rtq p d≤128:=by unfold rtq;exact Nat.le_trans (Nat.div_le_self _ _) (by omega)
 have hq0:0<rtq p d:=by
  unfold rtq
  exact Nat.div_pos (Nat.le_of_dvd (by omega) (Nat.gcd_dvd_right _ _)) hg
 have zb:=zb_128
 refine ⟨⟨fit_lt2 (by omega),fit_lt2 (by rw [Int.natAbs_natCast];omega),hq0,fit_lt2 ?_,fit_lt2 ?_⟩,by omega,by omega⟩
 ·rw [Int.natAbs_tdiv];exact Nat.lt_of_le_of_lt (Nat.div_le_self _ _) (by omega)
 ·rw [Int.natAbs_natCast];exact Nat.lt_of_le_of_lt (Nat.div_le_self _ _) (by omega)
theorem short_bd {w:World} {A:Option Addr} {l c:Nat} {p:List Int} (h:I16At w A l c p) (n:Nat):plen (ptrim (p.take n))≤n∧(ptrim (p.take n)).length≤n∧ptrim (ptrim (p.take n))=ptrim (p.take n)∧∀ j,((ptrim (p.take n)).getD j 0).natAbs≤32768:=by
 have h1:=plen_le (p.take n)
 rw [List.length_take] at h1
 refine ⟨by rw [plen_ptrim];omega,by rw [ptrim_length];omega,ptrim_ptrim _,fun j=>?_⟩
 rw [ptrim_getD]
 rcases Nat.lt_or_ge j (p.take n).length with hj | hj
 ·have hmem:(p.take n).getD j 0∈p:=by
   rw [List.getD_eq_getElem?_getD,List.getElem?_eq_getElem hj]
   exact List.mem_of_mem_take (List.getElem_mem _)
  have:=h.range _ hmem
  omega
 ·rw [getD_out _ hj];omega
theorem short_p9 {w:World} {A:Option Addr} {l c:Nat} {p:List Int} (h:I16At w A l c p) {n:Nat} (hn:n≤9):P9 (ptrim (p.take n)):=by
 obtain ⟨h1,_,_,h2⟩:=short_bd h n
 exact ⟨by omega,fun j=>Nat.le_trans (h2 j) (by rw [BB_eq];decide)⟩
end Go.Proofs.YtbfddopopajgaaaGreat
namespace Go.Proofs.YtbfddopopajgaaaGreat
open Go Go.RowKit
theorem rt_fqb18 {p d:Int} (hp:I8 p) (hd:I8 d):FqB ⟨rtz p d,rtq p d⟩:=by
 obtain ⟨h1,h2,h3⟩:=at_ok hp hd
 exact ⟨h1.pos,h2,h3⟩
set_option maxRecDepth 100000 in
set_option maxHeartbeats 8000000 in
theorem law_compares (A:Option Addr) (la ca:Nat) (cs:List Int) (k:Nat) (q0 q1:Int) (w:World) (h:I16At w A la ca cs) (hlm:la≤9223372036854775807) (hk:k≤255) (h0:I8 q0) (h1:I8 q1) :
  Calls Tryz.prog 4 #[.slice A la ca,.int .u8 (k:Int),.agg #[.int .i8 q0,.int .i8 q1]] w fun e w'=>e=.returned (.bool true)∧Below w.heap.size w w':=by
 have o1:=below_new w (.cells #[.int .i8 q0,.int .i8 q1] 36)
 have PB:=Lib.hid (Pai.make w q0 q1 36)
 have hl5:w.heap.size<(w.alloc (.cells #[.int .i8 q0,.int .i8 q1] 36)).heap.size:=by simp
 have Hi:=Lib.hid (h.below o1)
 have Hb:=Lib.hid o1
 have F9:P9 (ptrim (cs.take 7)):=short_p9 h (by omega)
 obtain ⟨_,lF,tF,_⟩:=short_bd h 7
 obtain ⟨F,hF⟩:∃ F,F=ptrim (cs.take 7):=⟨_,rfl⟩
 rw [← hF] at F9 lF tF
 have HFe:=Lib.hid hF.symm
 clear o1 h hF hl5
 go_enter Tryz.func4,Tryz.ntmps4
 go_wp2_with fail
 refine (awake18_any _).mono ?_
 rintro e w1 ⟨rfl,hb1⟩
 replace Hi:=Lib.hid (Hi.out.below hb1)
 replace PB:=Lib.hid (PB.out.move hb1)
 replace Hb:=Lib.hid (Hb.out.trans (hb1.mono Hb.out.size))
 clear hb1
 go_wp2_with fail
 refine (short_any _ _ _ 7 _ _ Hi.out (by omega) hlm).mono ?_
 rintro e w2 ⟨Af,lf,cf,rfl,h2f,hb2⟩
 rw [HFe.out] at h2f
 have hlf:lf≤7:=by have:=h2f.length;omega
 have HP:=Lib.hid h2f
 replace PB:=Lib.hid (PB.out.move hb2)
 replace Hb:=Lib.hid (Hb.out.trans (hb2.mono Hb.out.size))
 clear hb2 h2f Hi
 go_wp2_with fail
 refine (pick_any ikN HP.out (by omega) F9 hk).mono ?_
 rintro e w3 ⟨hpk,hb3⟩
 replace HP:=Lib.hid (HP.out.below ikN hb3)
 replace PB:=Lib.hid (PB.out.move hb3)
 replace Hb:=Lib.hid (Hb.out.trans (hb3.mono Hb.out.size))
 clear hb3
 rcases hpk with ⟨_,rfl⟩ | ⟨hpos,n,A1,l1,c1,B,m,d,n',A2,l2,c2,B',m',d',rfl,z1,z2,z3,z4⟩
 ·have jb:=below_new w3 (.cells rz6 44)
  replace Hb:=Lib.hid (Hb.out.trans (jb.mono Hb.out.size))
  clear jb
  go_wp2_with fail
  go_ret
  exact ⟨rfl,Hb.out⟩
 have hj:k % (proots F).length<(proots F).length:=Nat.mod_lt _ hpos
 obtain ⟨j,hje⟩:∃ j,j=k % (proots F).length:=⟨_,rfl⟩
 rw [← hje] at hj z1 z2 z3 z4
 have hF0:plen F≠0:=fun e=>by rw [proots_nil e] at hpos;cases hpos
 have ha:=rt_fqb18 h0 h1
 obtain ⟨a,hae⟩:∃ a:Fq,a=⟨rtz q0 q1,rtq q0 q1⟩:=⟨_,rfl⟩
 rw [← hae] at ha
 obtain ⟨hv,hbl,hcm⟩:=cmp_law F9 hF0 hj ha.p
 have hfq:=proots_fqb F9 _ (getD_mem hj r00)
 obtain ⟨r,hr⟩:∃ r,r=(proots F).getD j r00:=⟨_,rfl⟩
 rw [← hr] at z1 z2 z3 z4 hv hbl hcm hfq
 obtain ⟨fa,fb⟩:=hfq
 obtain ⟨NB,hNB⟩:∃ N,N=nbelow F a.z a.q:=⟨_,rfl⟩
 obtain ⟨S,hS⟩:∃ S,S=a.sgn F:=⟨_,rfl⟩
 rw [← hNB,← hS] at hcm
 have HAE:=Lib.hid hae
 have HV:=Lib.hid hv
 have HBL:=Lib.hid hbl
 have HNB:=Lib.hid hNB
 have HS:=Lib.hid hS
 have HCM:=Lib.hid hcm
 have T:=Lib.hid (TBox.make z1 z2 z3 z4)
 have jb:=below_new w3 (tbox n A1 l1 c1 B m d n' A2 l2 c2 B' m' d')
 replace HP:=Lib.hid (HP.out.below ikN jb)
 replace PB:=Lib.hid (PB.out.move jb)
 replace Hb:=Lib.hid (Hb.out.trans (jb.mono Hb.out.size))
 have x0:=PB.out.c0;have x1:=PB.out.c1
 clear z1 z2 z3 z4 hv hbl hNB hS hcm hr hje hj hpos hae jb
 go_wp2_with fail
 refine (rat15_any q0 q1 _ h0 h1).mono ?_
 rintro e w4 ⟨⟨n4,A4,l4,c4,B4,m4,d4,rfl,h4,k4⟩,hb4⟩
 have h4':IntN w4 n4 A4 l4 c4 a.z:=by rw [HAE.out];exact h4
 have k4':NatN w4 B4 m4 d4 a.q:=by rw [HAE.out];exact k4
 have o5:=below_new w4 (rbox n4 A4 l4 c4 B4 m4 d4)
 have b5:Below (w3.alloc (tbox n A1 l1 c1 B m d n' A2 l2 c2 B' m' d')).heap.size (w3.alloc (tbox n A1 l1 c1 B m d n' A2 l2 c2 B' m' d')) (w4.alloc (rbox n4 A4 l4 c4 B4 m4 d4)):=hb4.trans (o5.mono hb4.size)
 have R:=Lib.hid (RBox.make h4' k4')
 replace HP:=Lib.hid (HP.out.below ikN b5)
 replace T:=Lib.hid (T.out.move b5)
 replace Hb:=Lib.hid (Hb.out.trans (b5.mono Hb.out.size))
 clear hb4 h4 k4 h4' k4' o5 b5 x0 x1 PB
 obtain ⟨wb,hwb⟩:∃ wb,wb=w4.alloc (rbox n4 A4 l4 c4 B4 m4 d4):=⟨_,rfl⟩
 obtain ⟨g1,hg1⟩:∃ g,g=w3.heap.size:=⟨_,rfl⟩
 obtain ⟨g2,hg2⟩:∃ g,g=w4.heap.size:=⟨_,rfl⟩
 go_wp2_with fail
 rw [← hwb,← hg1] at T
 rw [← hwb,← hg2] at R
 rw [← hwb] at HP Hb ⊢
 rw [← hg1,← hg2]
 have l1':=T.out.r.lt
 have l2':=R.out.lt
 clear hwb hg1 hg2
 go_cut [11,12] (fun s11 s12 wx=>s11=.int .i64 (j:Int)∧s12=.int .i64 NB∧Below wb.heap.size wb wx)
 case first =>
  have x0:=T.out.r.c0;have x1:=T.out.r.c1;have x2:=T.out.r.c2;have y0:=R.out.c0;have y1:=R.out.c1;have y2:=R.out.c2
  refine wp_region_held_drew (S:=fun w'=>w'.cell? ⟨g1,0,none⟩=some (.bool n)∧w'.cell? ⟨g1,1,none⟩=some (.slice A1 l1 c1)∧w'.cell? ⟨g1,2,none⟩=some (.slice B m d)∧w'.cell? ⟨g2,0,none⟩=some (.bool n4)∧w'.cell? ⟨g2,1,none⟩=some (.slice A4 l4 c4)∧w'.cell? ⟨g2,2,none⟩=some (.slice B4 m4 d4)) (by kernel_rfl) (by (try dsimp only);go_keep) (fun hHeld=>?_)
  (refine tk (i:=0) (v:=?_) rfl rfl (Or.inl ⟨by rfl,?_⟩) ?_;rotate_left;(focus (intro w hSw;(try dsimp only at hSw);go_simp;(try with_reducible rfl)));(simp only [put_lit,List.set]))
  (refine tk (i:=1) (v:=?_) rfl rfl (Or.inl ⟨by rfl,?_⟩) ?_;rotate_left;(focus (intro w hSw;(try dsimp only at hSw);go_simp;(try with_reducible rfl)));(simp only [put_lit,List.set]))
  (refine tk (i:=2) (v:=?_) rfl rfl (Or.inl ⟨by rfl,?_⟩) ?_;rotate_left;(focus (intro w hSw;(try dsimp only at hSw);go_simp;(try with_reducible rfl)));(simp only [put_lit,List.set]))
  (refine tk (i:=4) (v:=?_) rfl rfl (Or.inl ⟨by rfl,?_⟩) ?_;rotate_left;(focus (intro w hSw;(try dsimp only at hSw);go_simp;(try with_reducible rfl)));(simp only [put_lit,List.set]))
  (refine tk (i:=5) (v:=?_) rfl rfl (Or.inl ⟨by rfl,?_⟩) ?_;rotate_left;(focus (intro w hSw;(try dsimp only at hSw);go_simp;(try with_reducible rfl)));(simp only [put_lit,List.set]))
  have G0:=Lib.hid (Below.refl wb.heap.size wb)
  (refine wpAnyH_ready (rs:=[3]) (by kernel_rfl) (by simp) ?_;refine AllReadyH.cons rfl (fun K hK=>?_) AllReadyH.nil;go_simp)
  refine (below_any _ _ _ F _ _ _ _ _ _ _ _ _ _ ((HP.out.below ikN G0.out).below ikN Bel.go) (by omega) F9 ((T.out.move G0.out).r.hz.below Bel.go) ((T.out.move G0.out).r.hq.below Bel.go) fa.at fa.z fa.q).mono ?_;rintro e w5 ⟨rfl,hb9⟩;rw [HBL.out];have G5:=Lib.hid (G0.out.trans (((Below.trans Bel.go (hb9.mono (by simp<;>omega))):Below wb.heap.size wb w5).mono G0.out.size));obtain ⟨hcx,hfx⟩:=bcellS hb9;refine hK.out _ _ ?_ (fun _=>?_);(focus (((try dsimp only);repeat' apply And.intro)<;>(rw [hcx _ (by go_simp)];go_simp)));clear hHeld hK K hcx hfx;rename_i hHeld;clear hb9
  (refine wpAnyH_ready (rs:=[6]) (by kernel_rfl) (by simp) ?_;refine AllReadyH.cons rfl (fun K hK=>?_) AllReadyH.nil;go_simp)
  refine (below_any _ _ _ F _ _ _ _ _ _ _ _ _ _ ((HP.out.below ikN G5.out).below ikN Bel.go) (by omega) F9 ((R.out.move G5.out).hz.below Bel.go) ((R.out.move G5.out).hq.below Bel.go) ha.at ha.z ha.q).mono ?_;rintro e w6 ⟨rfl,hb9⟩;rw [← HNB.out];have G6:=Lib.hid (G5.out.trans (((Below.trans Bel.go (hb9.mono (by simp<;>omega))):Below w5.heap.size w5 w6).mono G5.out.size));obtain ⟨hcx,hfx⟩:=bcellS hb9;refine hK.out _ _ ?_ (fun _=>?_);(focus (((try dsimp only);repeat' apply And.intro)<;>(rw [hcx _ (by go_simp)];go_simp)));clear hHeld hK K hcx hfx;rename_i hHeld;clear hb9
  (refine tk (i:=7) (v:=?_) rfl rfl (Or.inl ⟨by rfl,?_⟩) ?_;rotate_left;(focus (intro w hSw;(try dsimp only at hSw);go_simp;(try with_reducible rfl)));(simp only [put_lit,List.set]))
  (refine tk (i:=8) (v:=?_) rfl rfl (Or.inl ⟨by rfl,?_⟩) ?_;rotate_left;(focus (intro w hSw;(try dsimp only at hSw);go_simp;(try with_reducible rfl)));(simp only [put_lit,List.set]))
  refine wpAnyH_done (by kernel_rfl) ?_ _
  go_wp2_with fail
  go_meet
  exact ⟨rfl,rfl,G6.out⟩
 case rest =>
  obtain ⟨rfl,rfl,hb6⟩:=hcut
  replace HP:=Lib.hid (HP.out.below ikN hb6)
  replace T:=Lib.hid (T.out.move hb6)
  replace R:=Lib.hid (R.out.move hb6)
  replace Hb:=Lib.hid (Hb.out.trans (hb6.mono Hb.out.size))
  have pa:=F9.cp.at (z:=a.z) (q:=a.q) (by omega) ha.z ha.q
  obtain ⟨wk,hwk⟩:∃ wk,wk=wc:=⟨_,rfl⟩
  rw [← hwk] at HP T R Hb ⊢
  clear hwk hb6
  obtain ⟨W,hW⟩:∃ W:Int,W=if (j:Int)<NB then -1 else if NB=j∧S=0 then 0 else 1:=⟨_,rfl⟩
  have HW:=Lib.hid (show cmpV F r a=W by rw [HCM.out,hW])
  by_cases c1:(j:Int)<NB
  ·have b1:decide ((j:Int)<NB)=true:=decide_eq_true c1
   obtain rfl:W=-1:=by rw [hW,if_pos c1]
   clear hW
   have x0:=T.out.r.c0;have x1:=T.out.r.c1;have x2:=T.out.r.c2;have x3:=T.out.c3;have x4:=T.out.c4;have x5:=T.out.c5;have y0:=R.out.c0;have y1:=R.out.c1;have y2:=R.out.c2;go_wp2_with fail;refine (rcmpr_any ikN (f:=F) (r:=r) (a:=a) HP.out (by omega) F9 T.out.r.hz T.out.r.hq T.out.hz T.out.hq R.out.hz R.out.hq fa fb ha).mono ?_;rintro e w8 ⟨he,hb8⟩;rw [HW.out,HV.out] at he;have he2:e=.returned (.tuple #[.int .i64 (-1),.int .i64 0]):=he;subst he2;replace Hb:=Lib.hid (Hb.out.trans (hb8.mono Hb.out.size));clear he hb8 T R HP x0 x1 x2 x3 x4 x5 y0 y1 y2;go_wp2;go_ret;exact ⟨(by first | rfl | simp),Hb.out⟩
  have b1:decide ((j:Int)<NB)=false:=decide_eq_false c1
  rw [if_neg c1] at hW
  by_cases c2:NB=(j:Int)
  ·have b2:(NB == (j:Int))=true:=by rw [c2];simp
   have y0:=R.out.c0;have y1:=R.out.c1;have y2:=R.out.c2
   have C2:=Lib.hid c2
   have HWW:=Lib.hid hW
   clear c2 hW c1
   go_wp2_with fail
   refine (signat_any ikN _ _ _ F _ _ _ _ _ _ _ _ _ _ HP.out pa.fit (by omega) R.out.hz R.out.hq ha.at.u ha.at.v ha.at.pos pa.ok ha.at.fz ha.at.fq).mono ?_
   rintro e w7 ⟨he,hb7⟩
   have he2:e=.returned (.int .i64 S):=by rw [HS.out];exact he
   subst he2
   clear he y0 y1 y2
   replace HP:=Lib.hid (HP.out.below ikN hb7)
   replace T:=Lib.hid (T.out.move hb7)
   replace R:=Lib.hid (R.out.move hb7)
   replace Hb:=Lib.hid (Hb.out.trans (hb7.mono Hb.out.size))
   clear hb7
   by_cases c3:S=0
   ·have b3:(S == 0)=true:=by rw [c3];rfl
    obtain rfl:W=0:=by rw [HWW.out,if_pos ⟨C2.out,c3⟩]
    clear c3
    have x0:=T.out.r.c0;have x1:=T.out.r.c1;have x2:=T.out.r.c2;have x3:=T.out.c3;have x4:=T.out.c4;have x5:=T.out.c5;have y0:=R.out.c0;have y1:=R.out.c1;have y2:=R.out.c2;go_wp2_with fail;refine (rcmpr_any ikN (f:=F) (r:=r) (a:=a) HP.out (by omega) F9 T.out.r.hz T.out.r.hq T.out.hz T.out.hq R.out.hz R.out.hq fa fb ha).mono ?_;rintro e w8 ⟨he,hb8⟩;rw [HW.out,HV.out] at he;have he2:e=.returned (.tuple #[.int .i64 (0),.int .i64 0]):=he;subst he2;replace Hb:=Lib.hid (Hb.out.trans (hb8.mono Hb.out.size));clear he hb8 T R HP x0 x1 x2 x3 x4 x5 y0 y1 y2;go_wp2;go_ret;exact ⟨(by first | rfl | simp),Hb.out⟩
   ·have b3:(S == 0)=false:=by rw [beq_eq_false_iff_ne];exact c3
    obtain rfl:W=1:=by rw [HWW.out,if_neg fun h=>c3 h.2]
    clear c3
    have x0:=T.out.r.c0;have x1:=T.out.r.c1;have x2:=T.out.r.c2;have x3:=T.out.c3;have x4:=T.out.c4;have x5:=T.out.c5;have y0:=R.out.c0;have y1:=R.out.c1;have y2:=R.out.c2;go_wp2_with fail;refine (rcmpr_any ikN (f:=F) (r:=r) (a:=a) HP.out (by omega) F9 T.out.r.hz T.out.r.hq T.out.hz T.out.hq R.out.hz R.out.hq fa fb ha).mono ?_;rintro e w8 ⟨he,hb8⟩;rw [HW.out,HV.out] at he;have he2:e=.returned (.tuple #[.int .i64 (1),.int .i64 0]):=he;subst he2;replace Hb:=Lib.hid (Hb.out.trans (hb8.mono Hb.out.size));clear he hb8 T R HP x0 x1 x2 x3 x4 x5 y0 y1 y2;go_wp2;go_ret;exact ⟨(by first | rfl | simp),Hb.out⟩
  ·have b2:(NB == (j:Int))=false:=by rw [beq_eq_false_iff_ne];exact c2
   obtain rfl:W=1:=by rw [hW,if_neg fun h=>c2 h.1]
   clear hW c2
   have x0:=T.out.r.c0;have x1:=T.out.r.c1;have x2:=T.out.r.c2;have x3:=T.out.c3;have x4:=T.out.c4;have x5:=T.out.c5;have y0:=R.out.c0;have y1:=R.out.c1;have y2:=R.out.c2;go_wp2_with fail;refine (rcmpr_any ikN (f:=F) (r:=r) (a:=a) HP.out (by omega) F9 T.out.r.hz T.out.r.hq T.out.hz T.out.hq R.out.hz R.out.hq fa fb ha).mono ?_;rintro e w8 ⟨he,hb8⟩;rw [HW.out,HV.out] at he;have he2:e=.returned (.tuple #[.int .i64 (1),.int .i64 0]):=he;subst he2;replace Hb:=Lib.hid (Hb.out.trans (hb8.mono Hb.out.size));clear he hb8 T R HP x0 x1 x2 x3 x4 x5 y0 y1 y2;go_wp2;go_ret;exact ⟨(by first | rfl | simp),Hb.out⟩
end Go.Proofs.YtbfddopopajgaaaGreat
namespace Go.Proofs.YtbfddopopajgaaaGreat
open Go.ChangeShapes Go.WideShapes Go.ChangeAt Go.RowKit
set_option maxRecDepth 100000 in
theorem compares_lifted (os:Os) (started:os.Started) (H:Type) (enc:TypeId×Value→H) :
  ReturnsInHanded {} Tryz.checked os 4 .any (Rows.refineComparesSpec.pre6 enc Tryz.prog Tryz.f4 Rows.refineComparesRow.domain false) (Rows.refineComparesSpec.post enc Tryz.prog Tryz.f4 false true false false):=by
 refine returnsInHanded_of_change (C:=Tryz.checked) Tryz.own started (by kernel_rfl) Tryz.func4
  (ChangeSpec.witness6 (enc:=enc) (C:=Tryz.checked) false ⟨#[],#[.slice none 0 0,.int .u8 0,.agg #[.int .i8 0,.int .i8 0]],[]⟩ 8 (by kernel_rfl) (by kernel_rfl) (by kernel_rfl) (by kernel_rfl)) ?_
 intro W base args ds gs before hval0 hW hcnd _
 exact lifted_s16u8p _ Tryz.f4 Tryz.params4 rfl enc _ rfl (fun _ _ _=>rfl) (fun A la ca p n q0 q1 w h1 hl hn a b=>by obtain ⟨k,rfl⟩:=Int.eq_ofNat_of_zero_le hn.1;exact law_compares A la ca p k q0 q1 w h1 hl (by omega) a b) W args ds gs before hval0 hW
theorem refineCompares_holds:Rows.RefineComparesSaid :=
 OpenClaim.holds_of_wide 4 Tryz.f4 rfl rfl rfl rfl rfl rfl rfl ⟨rfl,rfl,rfl,rfl,rfl⟩ rfl rfl rfl rfl rfl (by kernel_rfl) Tryz.func4 (by kernel_rfl)
  (of_decide_eq_true (by kernel_rfl)) (by unfold Func.isWrapper;first | (rw [if_pos (by decide +kernel)];kernel_rfl) | (rw [if_neg (by decide +kernel)];exact ⟨rfl,rfl⟩))
  (fun os started H enc _=>compares_lifted os started H enc)
#print axioms refineCompares_holds
end Go.Proofs.YtbfddopopajgaaaGreat
