/- For any slice of int16s and two slices of int8s the law ThomMisses returns true and its arguments read as before: thom.Find and thom.Compare say which codes belong to no root. No condition. -/
import Derived.Test.YtbfddopopajgaaaGreatRatD
import Derived.Test.YtbfddopopajgaaaGreatRowP
import Derived.Test.YtbfddopopajgaaaGreatHfp
import Derived.Test.YtbfddopopajgaaaGreatSgw
import Derived.Test.YtbfddopopajgaaaGreatApg
import Derived.Test.YtbfddopopajgaaaGreatIvp
import Derived.Test.YtbfddopopajgaaaGreatAdp
import Derived.Test.YtbfddopopajgaaaGreatHfw
import Derived.Test.YtbfddopopajgaaaGreatIsv
namespace Go.Proofs.YtbfddopopajgaaaGreat
open Go Go.RowKit
structure I8At (w:World) (A:Option Addr) (len cap:Nat) (p:List Int):Prop where
 length:p.length=len
 range:∀ c∈p,-128≤c∧c≤127
 cells:len=0∨∃ b off,A=some ⟨b,off,none⟩∧b<w.heap.size∧∀ j,j<len→w.cell? ⟨b,off+j,none⟩=some (.int .i8 (p.getD j 0))
theorem I8At.below {w w':World} {A:Option Addr} {len cap:Nat} {p:List Int} (h:I8At w A len cap p) (hb:Below w.heap.size w w'):I8At w' A len cap p:=by
 refine ⟨h.length,h.range,?_⟩
 rcases h.cells with h0 | ⟨b,off,hA,hlt,hc⟩
 ·exact .inl h0
 ·exact .inr ⟨b,off,hA,Nat.lt_of_lt_of_le hlt hb.size,fun j hj=>(hb.cell (p:=⟨b,off+j,none⟩) hlt).trans (hc j hj)⟩
end Go.Proofs.YtbfddopopajgaaaGreat
namespace Go.Proofs.YtbfddopopajgaaaGreat
open Go.ChangeShapes Go.WideShapes Go.ChangeAt Go.RowKit
theorem Tryz.cellsI8:Tryz.prog.cellsOf 35=1:=by kernel_rfl
theorem open_i8 {H:Type} {enc:TypeId×Value→H} {W:World} {A:Option Addr} {len cap:Nat} {d:DataW H} {p:List MemPlace}
 (h:DataW.Trod enc Tryz.prog W 0 (fun _=>true) true 53 (.slice A len cap) d p) (hlt:∀ x∈p,x.block<W.heap.size) :
 len≤9223372036854775807∧∃ zs,I8At W A len cap zs:=by
 obtain ⟨fuel,hf⟩:=h
 rcases open_ints Tryz.underlying53 Tryz.underlying35 Tryz.cellsI8 hf with ⟨hcs,hx⟩ | ⟨a,len',cap',zs,hcs,_,hl,hm,hz,hx,hcell,hwz⟩
 ·simp [Value.cells] at hcs
  obtain ⟨rfl,rfl,rfl⟩:=hcs
  exact ⟨by omega,[],rfl,(fun c hc=>by cases hc),.inl rfl⟩
 ·simp [Value.cells] at hcs
  obtain ⟨rfl,rfl,rfl⟩:=hcs
  simp only [Prod.mk.injEq] at hx
  obtain ⟨rfl,rfl⟩:=hx
  simp only [if_true] at hz
  refine ⟨by unfold maxLen at hm;omega,zs.take len,by rw [List.length_take];omega,fun c hc=>i8_wf (hwz c (List.mem_of_mem_take hc)),?_⟩
  by_cases hl0:len=0
  ·exact .inl hl0
  ·obtain ⟨b,off,spot⟩:=a
   have hspot:spot=none:=by simpa [Addr.add] using World.cell?_spot (hcell 0 (by omega))
   subst hspot
   have hbW:b<W.heap.size:=hlt (.cell b off) (MemPlace.mem_row.2 ⟨0,by omega,by simp⟩)
   refine .inr ⟨b,off,rfl,hbW,fun j hj=>?_⟩
   have:=hcell j (by omega)
   rw [show (⟨b,off,none⟩:Addr).add j=⟨b,off+j,none⟩ by simp [Addr.add]] at this
   rw [this]
   simp [List.getD_eq_getElem?_getD,hj]
end Go.Proofs.YtbfddopopajgaaaGreat
namespace Go.Proofs.YtbfddopopajgaaaGreat
open Go.ChangeShapes Go.WideShapes Go.ChangeAt Go.RowKit
set_option maxRecDepth 100000 in
theorem lifted_s16two8 (f:Nat) (fn:Func) (hp:fn.params=#[22,53,53]) (hr:fn.resultTypes=#[4]) {H:Type} (enc:TypeId×Value→H) (spec:ChangeSpec) (hsv:spec.vars=[]) (hsf:∀ d d' d'',spec.fn H [d,d',d'']={ results:=[.lit (.bool true)],args:=[d,d',d''] })
  (walk:∀ A la ca p B lb cb q C lc cc r w,I16At w A la ca p→I8At w B lb cb q→I8At w C lc cc r→la≤9223372036854775807→lb≤9223372036854775807→lc≤9223372036854775807→Calls Tryz.prog f #[.slice A la ca,.slice B lb cb,.slice C lc cc] w fun e w'=>e=.returned (.bool true)∧Below w.heap.size w w')
  (W:World) (args:Array Value) (ds gs:List (DataW H)) (before:List MemPlace)
  (hval:∀ (j:Nat) t v,fn.params[j]?=some t→args[j]?=some v→Value.okWide Tryz.prog W .any 0 t v)
  (hW:DataW.Whole enc Tryz.prog fn.params.toList spec.vars false W args.toList ds gs before) :
  Calls Tryz.prog f args W fun e W'=>∃ v,e=Ending.returned v∧spec.post enc Tryz.prog fn false true false false W args v W':=by
 have hW':=hW
 obtain ⟨p,q,hA0,hV,rfl,_,_⟩:=hW
 have hA:DataW.TrodAll enc Tryz.prog W 0 (fun _=>true) true fn.params.toList args.toList ds p:=hA0
 rw [hp] at hA hval
 obtain ⟨v0,v1,v2,d0,d1,d2,p0,p1,p2,rfl,rfl,rfl,h0,h1,h2⟩:=trodAll_three hA
 rw [hsv] at hV
 obtain ⟨rfl,rfl⟩:=trodVars_none hV
 obtain ⟨a0,la,ca,rfl⟩:=okWide_slice Tryz.underlying22 (hval 0 22 v0 rfl rfl)
 obtain ⟨a1,lb,cb,rfl⟩:=okWide_slice Tryz.underlying53 (hval 1 53 v1 rfl rfl)
 obtain ⟨a2,lc,cc,rfl⟩:=okWide_slice Tryz.underlying53 (hval 2 53 v2 rfl rfl)
 simp only [List.append_nil] at hW'
 have hlt:∀ x∈p0 ++ p1 ++ p2,x.block<W.heap.size:=fun x hx=>by simpa using hW'.lt x hx
 have hlt0:∀ x∈p0,x.block<W.heap.size:=fun x hx=>hlt x (List.mem_append.2 (.inl (List.mem_append.2 (.inl hx))))
 have hlt1:∀ x∈p1,x.block<W.heap.size:=fun x hx=>hlt x (List.mem_append.2 (.inl (List.mem_append.2 (.inr hx))))
 have hlt2:∀ x∈p2,x.block<W.heap.size:=fun x hx=>hlt x (List.mem_append.2 (.inr hx))
 obtain ⟨hla,zs,hz⟩:=open_i16 h0 hlt0
 obtain ⟨hlb,ys,hy⟩:=open_i8 h1 hlt1
 obtain ⟨hlc,xs,hx⟩:=open_i8 h2 hlt2
 refine (walk a0 la ca zs a1 lb cb ys a2 lc cc xs W hz hy hx hla hlb hlc).mono fun e W' ⟨he,hb⟩=>?_
 subst he
 refine ⟨_,rfl,post_below (pa:=p0 ++ p1 ++ p2) (pv:=[]) hW' (fun _ _ _=>?_) (fun sp hs=>?_) (fun _ _=>?_) (by simp) hb ?_⟩
 ·rw [List.append_nil,hsf,hr]
  exact trodAll_mk1 (shut_bool Tryz.underlying4 _)
 ·rw [List.append_nil,hsf,hp,List.append_assoc]
  exact trodAll_mk3 (Go.WideElems.Trod_stays Tryz.laidOut (by kernel_rfl) (of_decide_eq_true (by kernel_rfl)) h0 (fun x hx=>hb.same (hlt0 x hx)) (fun x hx=>hs x (List.mem_append.2 (.inl (List.mem_append.2 (.inl hx)))))) (Go.WideElems.Trod_stays Tryz.laidOut (by kernel_rfl) (of_decide_eq_true (by kernel_rfl)) h1 (fun x hx=>hb.same (hlt1 x hx)) (fun x hx=>hs x (List.mem_append.2 (.inl (List.mem_append.2 (.inr hx)))))) (Go.WideElems.Trod_stays Tryz.laidOut (by kernel_rfl) (of_decide_eq_true (by kernel_rfl)) h2 (fun x hx=>hb.same (hlt2 x hx)) (fun x hx=>hs x (List.mem_append.2 (.inr hx))))
 ·rw [hsv,List.append_nil,hsf]
  rfl
 ·exact ok_one hr rfl (okWide_bool_mk Tryz.underlying4 _)
end Go.Proofs.YtbfddopopajgaaaGreat
namespace Go.Proofs.YtbfddopopajgaaaGreat
open Go Go.RowKit
noncomputable def sgA (Q:List Int) (r:Fq×Fq) (g:List Int):Int:=if fcmp r.1 r.2=0 then r.1.sgn g else nquery Q g r.1.z r.1.q r.2.z r.2.q
theorem sgA_eq {f Q g:List Int} {r:Fq×Fq} {x:Pt} (h:P9 Q) (l6:plen Q≤6) (hg:G6 g) (h0:plen Q≠0) (e:∀ y,sgp f y=0↔sgp Q y=0) (ha:FqB r.1) (hb:FqB r.2) (hi:IsoV f x r.1 r.2):sgA Q r g=sgp g x:=by
 have hle:=hi.le
 unfold sgA
 by_cases c:fcmp r.1 r.2=0
 ·rw [if_pos c,sgn_pt ha.p]
  have:=(fcmp_zero ha.p hb.p).1 c
  rcases hi.2 with h2 | h2
  ·rw [h2.2]
  ·grind
 rw [if_neg c]
 have hlt:r.1.v<r.2.v:=by
  have:r.1.v≠r.2.v:=fun e=>c ((fcmp_zero ha.p hb.p).2 e)
  grind
 rcases hi.2 with h2 | ⟨_,n1,n2,x1,x2,hu⟩
 ·grind
 have hx:Lst (fun y=>sgp Q y=0∧Pt.of ((r.1.z:Rat) / (r.1.q:Rat))<y∧(y<Pt.of ((r.2.z:Rat) / (r.2.q:Rat))∨y=Pt.of ((r.2.z:Rat) / (r.2.q:Rat)))) [x]:=by
  refine ⟨List.pairwise_singleton _ _,fun y=>?_⟩
  rw [List.mem_singleton]
  refine ⟨fun ey=>by rw [ey];exact ⟨(e x).1 hi.1,x1,.inl x2⟩,fun ⟨y1,y2,y3⟩=>hu y ((e y).2 y1) y2 (y3.resolve_right fun ey=>n2 ?_)⟩
  have:sgp f y=0:=(e y).2 y1
  rw [ey] at this
  exact this
 rw [nquery_sum h l6 hg h0 ha.p hb.p ha.z ha.q hb.z hb.q ((vld_lt ha.p hb.p).2 hlt) (Pt.of_lt_of.2 hlt) hx]
 show sgp g x+0=_
 omega
set_option maxRecDepth 100000 in
set_option maxHeartbeats 4000000 in
theorem tsign_any {I J:IntPred} (hI:IK I) (hJ:IK J) {w:World} {Ap:Option Addr} {lp cp:Nat} {Q:List Int} {Ag:Option Addr} {lg cg:Nat} {g:List Int} {r:Fq×Fq} {n:Bool} {A:Option Addr} {l c:Nat} {B:Option Addr} {m d:Nat} {n':Bool} {A':Option Addr} {l' c':Nat} {B':Option Addr} {m' d':Nat}
 (hp:PolyP I w Ap lp cp Q) (hlp:lp≤1000000) (h9:P9 Q) (l6:plen Q≤6) (hg:PolyP J w Ag lg cg g) (g6:G6 g) (hz:IntN w n A l c r.1.z) (hq:NatN w B m d r.1.q) (hz':IntN w n' A' l' c' r.2.z) (hq':NatN w B' m' d' r.2.q) (ha:FqB r.1) (hb:FqB r.2) :
 Calls Tryz.prog 53 #[.slice Ap lp cp,.agg #[.bool n,.slice A l c,.slice B m d,.bool n',.slice A' l' c',.slice B' m' d'],.slice Ag lg cg] w fun e w'=>e=.returned (.int .i64 (sgA Q r g))∧Below w.heap.size w w':=by
 have o1:=below_new w (tbox n A l c B m d n' A' l' c' B' m' d')
 have T:=Lib.hid (TBox.make hz hq hz' hq')
 have HP:=Lib.hid (hp.below hI o1)
 have HG:=Lib.hid (hg.below hJ o1)
 have Hb:=Lib.hid o1
 have hlg:lg≤6:=by have:=hg.length;have:=g6.len;omega
 have p1:=ha.p
 have p2:=hb.p
 have cg:CP g:=⟨by have:=g6.plen;omega,fun j=>Nat.le_trans (g6.b j) (by have:=bbk_le (show 1≤32 by decide);rw [Nat.pow_one] at this;exact this)⟩
 have pg:=cg.at (z:=r.1.z) (q:=r.1.q) (by have:=g6.len;omega) ha.z ha.q
 obtain ⟨V,hV⟩:∃ V,V=sgA Q r g:=⟨_,rfl⟩
 rw [← hV]
 unfold sgA at hV
 obtain ⟨S,hS⟩:∃ S,S=r.1.sgn g:=⟨_,rfl⟩
 obtain ⟨U,hU⟩:∃ U,U=nquery Q g r.1.z r.1.q r.2.z r.2.q:=⟨_,rfl⟩
 rw [← hS,← hU] at hV
 have HV:=Lib.hid hV
 have HS:=Lib.hid hS
 have HU:=Lib.hid hU
 clear hz hq hz' hq' o1 hp hg hV hS hU cg
 go_enter Tryz.func53,Tryz.ntmps53
 have x0:=T.out.r.c0;have x1:=T.out.r.c1;have x2:=T.out.r.c2;have x3:=T.out.c3;have x4:=T.out.c4;have x5:=T.out.c5
 go_wp2_with fail
 refine (rcmp_any _ _ _ _ _ _ _ _ _ _ _ _ _ _ _ _ _ _ _ T.out.r.hz.at_ T.out.r.hq.at_ T.out.hz.at_ T.out.hq.at_ (by omega) (by omega) ha.fz ha.fq hb.fz hb.fq).mono ?_
 rintro e w1 ⟨rfl,hb1⟩
 obtain ⟨C,hC⟩:∃ C,C=fcmp r.1 r.2:=⟨_,rfl⟩
 rw [show cmpz (r.1.z*(r.2.q:Int)) (r.2.z*(r.1.q:Int))=C from hC.symm]
 have hV:=HV.out
 rw [← hC] at hV
 replace HV:=Lib.hid hV
 replace T:=Lib.hid (T.out.move hb1)
 replace HP:=Lib.hid (HP.out.below hI hb1)
 replace HG:=Lib.hid (HG.out.below hJ hb1)
 replace Hb:=Lib.hid (Hb.out.trans (hb1.mono Hb.out.size))
 clear hb1 hC hV x0 x1 x2 x3 x4 x5
 have x0:=T.out.r.c0;have x1:=T.out.r.c1;have x2:=T.out.r.c2;have x3:=T.out.c3;have x4:=T.out.c4;have x5:=T.out.c5
 by_cases c0:C=0
 ·have b1:(C == 0)=true:=by rw [c0];rfl
  have EV:=Lib.hid (show V=S by rw [HV.out,if_pos c0])
  clear c0
  go_wp2_with fail
  refine (signat_any hJ _ _ _ g _ _ _ _ _ _ _ _ _ _ HG.out pg.fit (by omega) T.out.r.hz T.out.r.hq ha.at.u ha.at.v ha.at.pos pg.ok ha.at.fz ha.at.fq).mono ?_
  rintro e w4 ⟨he,hb4⟩
  have he2:e=.returned (.int .i64 S):=by rw [HS.out];exact he
  subst he2
  replace Hb:=Lib.hid (Hb.out.trans (hb4.mono Hb.out.size))
  clear he hb4 T HP HG x0 x1 x2 x3 x4 x5
  go_wp2
  go_ret
  exact ⟨by first | (rw [EV.out];done) | (rw [EV.out];rfl),Hb.out⟩
 ·have b1:(C == 0)=false:=by rw [beq_eq_false_iff_ne];exact c0
  have EV:=Lib.hid (show V=U by rw [HV.out,if_neg c0])
  clear c0
  go_wp2_with fail
  refine (query_any hI hJ _ _ _ Q _ _ _ g _ _ _ _ _ _ _ _ _ _ _ _ _ _ _ _ _ _ _ HP.out HG.out hlp h9 l6 g6 T.out.r.hz T.out.r.hq T.out.hz T.out.hq ha.at hb.at ha.z ha.q hb.z hb.q).mono ?_
  rintro e w4 ⟨he,hb4⟩
  have he2:e=.returned (.int .i64 U):=by rw [HU.out];exact he
  subst he2
  replace Hb:=Lib.hid (Hb.out.trans (hb4.mono Hb.out.size))
  clear he hb4 T HP HG x0 x1 x2 x3 x4 x5
  go_wp2
  go_ret
  exact ⟨by first | (rw [EV.out];done) | (rw [EV.out];rfl),Hb.out⟩
def SlC (u:Value):Prop:=∃ A l c,u=.slice A l c
theorem slC_nd (u:Value) (h:SlC u):Nd u:=by obtain ⟨A,l,c,rfl⟩:=h;exact nd_slice _ _ _
def PolR (w:World) (p:List Int) (vs:List Value):Prop:=∃ A l c,vs=[.slice A l c]∧PolyN w A l c p
def CodR (w:World) (xs:List Int) (vs:List Value):Prop:=∃ A l c,vs=[.slice A l c]∧I64At w A l c xs
section
variable {w w':World} {p xs:List Int} {vs:List Value} {g:Nat}
theorem PolR.below (h:PolR w p vs) (hb:Below w.heap.size w w'):PolR w' p vs:=by
 obtain ⟨A,l,c,e,h1⟩:=h
 exact ⟨A,l,c,e,h1.below ikN hb⟩
theorem PolR.len (h:PolR w p vs):vs.length=1:=by obtain ⟨A,l,c,e,h1⟩:=h;rw [e];rfl
theorem PolR.sl (h:PolR w p vs):∀ v∈vs,SlC v:=by
 obtain ⟨A,l,c,e,h1⟩:=h
 intro v hv
 rw [e,List.mem_singleton] at hv
 exact ⟨A,l,c,hv⟩
theorem PolR.frs (h:PolR w p vs) (hf:FrS g g w w') (hc:∀ o u,w.cell? ⟨g,o,none⟩=some u→SlC u):PolR w' p vs:=by
 obtain ⟨A,l,c,e,h1⟩:=h
 have hnd:NdB w g:=fun o u hu=>(slC_nd u (hc o u hu)).1
 refine ⟨A,l,c,e,PolyG.frs (g:=g) (g':=g) ⟨h1,?_⟩ hf hnd hnd⟩
 rcases h1.elems with h0 | ⟨b,o,hA,hlt,he⟩
 ·exact .inl h0
 ·rcases Nat.eq_zero_or_pos l with h0 | h0
  ·exact .inl h0
  ·have hne:b≠g:=fun e=>by
    subst e
    obtain ⟨neg,_,_,_,f1,_,_⟩:=he 0 h0
    obtain ⟨_,_,_,e2⟩:=hc _ _ f1
    cases e2
   exact .inr ⟨b,o,hA,hne,hne⟩
theorem CodR.below (h:CodR w xs vs) (hb:Below w.heap.size w w'):CodR w' xs vs:=by
 obtain ⟨A,l,c,e,h1⟩:=h
 exact ⟨A,l,c,e,h1.below hb⟩
theorem CodR.len (h:CodR w xs vs):vs.length=1:=by obtain ⟨A,l,c,e,h1⟩:=h;rw [e];rfl
theorem CodR.sl (h:CodR w xs vs):∀ v∈vs,SlC v:=by
 obtain ⟨A,l,c,e,h1⟩:=h
 intro v hv
 rw [e,List.mem_singleton] at hv
 exact ⟨A,l,c,hv⟩
theorem CodR.frs (h:CodR w xs vs) (hf:FrS g g w w') (hc:∀ o u,w.cell? ⟨g,o,none⟩=some u→SlC u):CodR w' xs vs:=by
 obtain ⟨A,l,c,e,h1⟩:=h
 refine ⟨A,l,c,e,h1.length,h1.cap,?_⟩
 rcases h1.cells with h0 | ⟨b,o,hA,hlt,he⟩
 ·exact .inl h0
 ·rcases Nat.eq_zero_or_pos l with h0 | h0
  ·exact .inl h0
  ·have hne:b≠g:=fun e=>by
    subst e
    obtain ⟨_,_,_,e2⟩:=hc _ _ (he 0 h0)
    cases e2
   exact .inr ⟨b,o,hA,Nat.lt_of_lt_of_le hlt hf.size,fun j hj=>(hf.cell hlt hne hne _).trans (he j hj)⟩
end
theorem wpList_app_own {w:World} {ops:Array Oper} {rest:List Oper} {o:Oper} {a:Act} {Q:Exit→Act→World→Prop} (hgd:o.guard=none) (s x:Operand) (t e:TypeId)
 (ho:o.op=.call { callee:=.builtin .append,args:=#[s,x],argTypes:=#[t,t] }) (E:Nat) (i0:TypeInfo) (z:Value) (ht:Tryz.prog.underlying t=some (.slice e)) (hi:Tryz.prog.info? e=some i0) (hz0:i0.zero=some z) (hz1:i0.size=E) (hz2:i0.bytes≤200) (hzs:z.cells.size=E) (C:Value→Prop) (hC:∀ u,C u→Nd u) (hzn:∀ j,j<E→C (z.cells[j]!)) (hE:0<E)
 (base:Nat) (v:Value) (us vs:List Value) (hs:a.eval s=v) (hown:OwnE C E e base w v us) (hB:base≤w.heap.size)
 (ax:Addr) (m c:Nat) (hx:a.eval x=.slice (some ax) m c) (hvl:vs.length=m*E) (hxc:∀ (j:Nat) (u:Value),vs[j]?=some u→w.cell? (ax.add j)=some u) (hvn:∀ u∈vs,C u) (hm:0<m∨v≠.slice none 0 0) (hn:us.length+vs.length≤100000000)
 (dd:Nat) (hdd:o.dst=some dd) (h:∀ v' w',GrE C E e base w v us vs v' w'→wpList Tryz.prog ops Q rest (a.put (some dd) v') w') :
 wpList Tryz.prog ops Q (o :: rest) a w :=
 wpList_plain hgd fun _ hK'=>oper_append_own s x t e ho E i0 z ht hi hz0 hz1 hz2 hzs C hC hzn hE base v us vs hs hown hB ax m c hx hvl hxc hvn hm hn dd hdd fun v' w' hg=>hK' _ _ (h v' w' hg)
theorem one_cell {w:World} {u:Value} (t:TypeId):∀ (j:Nat) (v:Value),[u][j]?=some v→(w.alloc (.cells #[u] t)).cell? ((⟨w.heap.size,0,none⟩:Addr).add j)=some v:=fun j v hv=>by
 match j,hv with
 | 0,hv=>simp at hv;subst hv;simp [Addr.add]
end Go.Proofs.YtbfddopopajgaaaGreat
namespace Go.Proofs.YtbfddopopajgaaaGreat
open Go Go.RowKit
section
variable {α:Type} {C:Value→Prop} {E t base:Nat} {R:World→α→List Value→Prop} {w w':World} {v v':Value} {us vs:List Value}
theorem GrE.mv (h:GrE C E t base w v us vs v' w') (hb:∀ x vs,Below w.heap.size w w'→R w x vs→R w' x vs) (hf:∀ g x vs,FrS g g w w'→(∀ o u,w.cell? ⟨g,o,none⟩=some u→C u)→R w x vs→R w' x vs) (x:α) (ys:List Value) (hx:R w x ys):R w' x ys:=by
 rcases h.2 with ⟨g,n,n',cap,_,_,_,_,k,f⟩ | ⟨k,_⟩
 ·exact hf g x ys f k hx
 ·exact hb x ys k hx
end
theorem polr_mv {B:Nat} {t:TypeId} {w w':World} {v v':Value} {us vs:List Value} (h:GrE SlC 1 t B w v us vs v' w') (p:List Int) (ys:List Value):PolR w p ys→PolR w' p ys:=h.mv (fun _ _ hb hx=>hx.below hb) (fun _ _ _ hf hc hx=>hx.frs hf hc) p ys
theorem codr_mv {B:Nat} {t:TypeId} {w w':World} {v v':Value} {us vs:List Value} (h:GrE SlC 1 t B w v us vs v' w') (p:List Int) (ys:List Value):CodR w p ys→CodR w' p ys:=h.mv (fun _ _ hb hx=>hx.below hb) (fun _ _ _ hf hc hx=>hx.frs hf hc) p ys
theorem slz:∀ j,j<1→SlC ((Value.slice none 0 0).cells[j]!):=fun j hj=>by
 match j,hj with
 | 0,_=>exact ⟨none,0,0,rfl⟩
theorem dk_out:∀ (m:Nat) (g:List Int),dk (m+1) g=pder (dk m g)
 | 0,_=>rfl
 | m+1,g=>dk_out m (pder g)
theorem pder_plen1 (p:List Int):plen (pder p)=plen p-1:=by
 rcases Nat.lt_or_ge (plen p) 2 with h | h
 ·have h1:=plen_le (pder p)
  rw [pder_length] at h1
  omega
 ·exact pder_plen h
theorem dk_plen:∀ (m:Nat) (g:List Int),plen (dk m g)=plen g-m
 | 0,_=>rfl
 | m+1,g=>by rw [dk_out,pder_plen1,dk_plen m g];omega
theorem dk_length (m:Nat) (g:List Int):(dk (m+1) g).length=plen g-(m+1):=by rw [dk_out,pder_length,dk_plen];omega
theorem dk_len6 {f:List Int} (hl:f.length≤6) (m:Nat):(dk m f).length≤6-m:=by
 have:=plen_le f
 match m with
 | 0=>exact hl
 | m+1=>rw [dk_length];omega
def dkl (f:List Int) (k:Nat):List (List Int):=(List.range k).map fun i=>dk (i+1) f
theorem dkl_succ (f:List Int) (k:Nat):dkl f (k+1)=dkl f k ++ [dk (k+1) f]:=by
 unfold dkl
 rw [List.range_succ,List.map_append]
 rfl
theorem dkl_len (f:List Int) (k:Nat):(dkl f k).length=k:=by unfold dkl;simp
def ders (f:List Int):List (List Int):=dkl f (plen f-1)
theorem dk_bd {M:Nat} {f:List Int} (hl:f.length≤6) (hM:∀ j,(f.getD j 0).natAbs≤M):∀ m j,((dk m f).getD j 0).natAbs≤M*5^m
 | 0,j=>by rw [Nat.pow_zero,Nat.mul_one];exact hM j
 | m+1,j=>by
   have ih:=dk_bd hl hM m (j+1)
   have hlen:=dk_len6 hl m
   rw [dk_out,pder_getD,Int.natAbs_mul]
   rcases Nat.lt_or_ge (j+1) (dk m f).length with h | h
   ·have h5:((j:Int)+1).natAbs≤5:=by omega
    rw [Nat.pow_succ,← Nat.mul_assoc]
    exact Nat.mul_le_mul ih h5
   ·rw [getD_out _ h];simp
theorem dk_g6 {f:List Int} (hl:f.length≤6) (hM:∀ j,(f.getD j 0).natAbs≤32768) {m:Nat} (hm:m≤6):G6 (dk m f):=by
 refine ⟨by have:=dk_len6 hl m;omega,fun j=>Nat.le_trans (dk_bd hl hM m j) ?_⟩
 have:5^m≤5^6:=Nat.pow_le_pow_right (by decide) hm
 have h2:=Nat.mul_le_mul_left 32768 this
 refine Nat.le_trans h2 ?_
 rw [BB_eq]
 decide
def lenv:Value→Nat
 | .slice _ l _=>l
 | _=>0
set_option maxRecDepth 100000 in
set_option maxHeartbeats 4000000 in
theorem ders_any {I:IntPred} (hI:IK I) {w:World} {Af:Option Addr} {lf cf:Nat} {f:List Int} (hf:PolyP I w Af lf cf f) (hl:f.length≤6) (hM:∀ j,(f.getD j 0).natAbs≤32768) :
 Calls Tryz.prog 81 #[.slice Af lf cf] w fun e w'=>(∃ A l c,e=.returned (.slice A l c)∧SlE 1 PolR w' A l c (ders f))∧Below w.heap.size w w':=by
 obtain ⟨i0,hi,hz0,hz1,hz2⟩:=info_parts info_poly
 have hlf:lf≤6:=by have:=hf.length;omega
 have g0:=dk_g6 hl hM (m:=0) (by omega)
 have HM:=Lib.hid hM
 have HF:=Lib.hid hf
 clear hf hM
 go_enter Tryz.func81,Tryz.ntmps81
 go_wp2_with fail
 refine (derivative_any hI _ _ _ f _ HF.out (show SmP f from g0.fit.smp) (by omega)).mono ?_
 rintro e w1 ⟨A1,l1,c1,rfl,h1,hb1⟩
 have H1:=Lib.hid h1
 have Hb1:=Lib.hid hb1
 clear h1 hb1 HF g0
 go_wp2_with fail
 go_loopw [3,4] (fun s3 s4 wr=>∃ k A l c,k≤plen f-1∧s4=.slice A l c∧PolyN wr A l c (dk (k+1) f)∧(∃ us,OwnE SlC 1 26 w.heap.size wr s3 us∧Lay (PolR wr) (dkl f k) us)∧Below w.heap.size w wr) (fun _ s4 _=>lenv s4)
 case atStart=>exact ⟨0,A1,l1,c1,Nat.zero_le _,rfl,H1.out,⟨[],OwnE.nil _ _ _ _ _,rfl⟩,Hb1.out⟩
 case round =>
  clear H1 Hb1
  obtain ⟨k,A,l,c,hk,rfl,hp,⟨us,ho,hly⟩,hbw⟩:=hrel
  have hlen:=hp.length
  rw [dk_length] at hlen
  have hpf:=plen_le f
  have hl6:l≤6:=by omega
  have g6:=dk_g6 hl HM.out (m:=k+1) (by omega)
  obtain ⟨P,hP⟩:∃ P,P=dk (k+1) f:=⟨_,rfl⟩
  rw [← hP] at hp g6
  have HPe:=Lib.hid hP
  have Hbw:=Lib.hid hbw
  have HP:=Lib.hid hp
  by_cases hl0:0<l
  ·have b1:decide (0<(l:Int))=true:=decide_eq_true (by omega)
   have b2:decide (0<l)=true:=decide_eq_true hl0
   have jb:=below_new wr (.cells #[.slice A l c] 26)
   have ho2:=ho.below jb
   have hly2:Lay (PolR (wr.alloc (.cells #[.slice A l c] 26))) (dkl f k) us:=hly.mono fun _ _ hx=>hx.below jb
   have hul:us.length=k*1:=by rw [hly.len fun x vs hx=>hx.len,dkl_len]
   have hx2:PolR (wr.alloc (.cells #[.slice A l c] 26)) P [.slice A l c]:=⟨A,l,c,rfl,hp.below ikN jb⟩
   have hsz:w.heap.size≤(wr.alloc (.cells #[.slice A l c] 26)).heap.size:=by have:=hbw.size;simp;omega
   have O:=Lib.hid (And.intro ho2 (And.intro hly2 hx2))
   have Hsz:=Lib.hid hsz
   have HB2:=Lib.hid (hbw.trans (jb.mono hbw.size))
   have Hlen:=Lib.hid hlen
   clear ho ho2 hly hly2 hx2 hsz jb hp hP hbw hlen
   go_wp2_with (at_builtin;refine wpList_app_own rfl (.tmp 12) (.tmp 14) 98 26 rfl 1 i0 (.slice none 0 0) Tryz.underlying98 hi hz0 hz1 (by rw [hz2];omega) rfl SlC slC_nd slz (by decide) w.heap.size _ us [.slice A l c] rfl O.out.1 Hsz.out ⟨wr.heap.size,0,none⟩ 1 1 rfl rfl (one_cell _) O.out.2.2.sl (.inl (by decide)) (by rw [hul];simp;omega) 15 rfl ?_)
   intro v2 w9 hgr
   have hb9:=hgr.below Hsz.out
   have hn:=polr_mv hgr _ _ O.out.2.2
   have hly9:Lay (PolR w9) (dkl f (k+1)) (us ++ [.slice A l c]):=by
    rw [dkl_succ,← HPe.out]
    exact hgr.lay O.out.2.1 (show Lay (PolR (wr.alloc (.cells #[.slice A l c] 26))) [P] [.slice A l c] from ⟨_,[],O.out.2.2,by simp,rfl⟩) (fun _ _ hb hx=>hx.below hb) (fun _ _ _ hf hc hx=>hx.frs hf hc)
   obtain ⟨_,_,_,e9,hn9⟩:=hn
   cases e9
   have O9:=Lib.hid (And.intro hgr.1 hly9)
   have HN:=Lib.hid hn9
   have Hb9:=Lib.hid (HB2.out.trans hb9)
   clear hgr hb9 hly9 hn9 O HB2 Hsz
   go_wp2_with fail
   refine (derivative_any ikN _ _ _ P _ HN.out g6.fit.smp (by omega)).mono ?_
   rintro e w10 ⟨A10,l10,c10,rfl,h10,hb10⟩
   have HN2:=Lib.hid h10
   have O10:=Lib.hid (And.intro (O9.out.1.below hb10) (O9.out.2.mono fun _ _ hx=>PolR.below hx hb10))
   have Hb10:=Lib.hid (Hb9.out.trans (hb10.mono Hb9.out.size))
   have hl10:l10<l:=by
    have h1:=h10.length
    rw [pder_length,HPe.out,dk_plen] at h1
    have:=Hlen.out
    omega
   clear h10 hb10 O9 HN Hb9
   go_wp2_with fail
   go_roundw
   case rel=>exact ⟨k+1,A10,l10,c10,by have:=Hlen.out;omega,rfl,by rw [dk_out,← HPe.out];exact HN2.out,⟨_,O10.out.1,O10.out.2⟩,Hb10.out⟩
   case measure=>exact hl10
  ·have b1:decide (0<(l:Int))=false:=decide_eq_false (by omega)
   have b2:decide (0<l)=false:=decide_eq_false hl0
   have hk2:k=plen f-1:=by omega
   obtain ⟨A9,l9,c9,e9,h9⟩:=ho.sle (by decide) hly fun x vs hx=>hx.len
   subst e9
   have FX:=Lib.hid (show SlE 1 PolR wr A9 l9 c9 (ders f) by unfold ders;rw [← hk2];exact h9)
   clear ho hly hp hP hlen h9 hk2 HPe HP
   go_wp2_with fail
   go_ret
   exact ⟨⟨_,_,_,rfl,FX.out⟩,Hbw.out⟩
end Go.Proofs.YtbfddopopajgaaaGreat
namespace Go.Proofs.YtbfddopopajgaaaGreat
open Go Go.RowKit
theorem SlE.getp {w:World} {A:Option Addr} {l c:Nat} {gs:List (List Int)} (h:SlE 1 PolR w A l c gs) {k:Nat} (hk:k<l) :
 ∃ b o A1 l1 c1,A=some ⟨b,o,none⟩∧b<w.heap.size∧w.cell? ⟨b,o+k,none⟩=some (.slice A1 l1 c1)∧PolyN w A1 l1 c1 (gs.getD k []):=by
 rcases h.elems with ⟨h0,_⟩ | ⟨b,o,e,hb,hv⟩
 ·omega
 ·have hkl:k<gs.length:=by rw [h.length];exact hk
  have eg:gs[k]?=some (gs.getD k []):=by rw [List.getD_eq_getElem?_getD,List.getElem?_eq_getElem hkl];rfl
  obtain ⟨vs,⟨A1,l1,c1,ev,h1⟩,hc⟩:=hv k _ eg
  subst ev
  have:=hc 0 _ rfl
  rw [Nat.mul_one,Nat.add_zero] at this
  exact ⟨b,o,A1,l1,c1,e,hb,this,h1⟩
theorem SlE.getc {w:World} {A:Option Addr} {l c:Nat} {gs:List (List Int)} (h:SlE 1 CodR w A l c gs) {k:Nat} (hk:k<l) :
 ∃ b o A1 l1 c1,A=some ⟨b,o,none⟩∧b<w.heap.size∧w.cell? ⟨b,o+k,none⟩=some (.slice A1 l1 c1)∧I64At w A1 l1 c1 (gs.getD k []):=by
 rcases h.elems with ⟨h0,_⟩ | ⟨b,o,e,hb,hv⟩
 ·omega
 ·have hkl:k<gs.length:=by rw [h.length];exact hk
  have eg:gs[k]?=some (gs.getD k []):=by rw [List.getD_eq_getElem?_getD,List.getElem?_eq_getElem hkl];rfl
  obtain ⟨vs,⟨A1,l1,c1,ev,h1⟩,hc⟩:=hv k _ eg
  subst ev
  have:=hc 0 _ rfl
  rw [Nat.mul_one,Nat.add_zero] at this
  exact ⟨b,o,A1,l1,c1,e,hb,this,h1⟩
theorem SlE.belowp {w w':World} {A:Option Addr} {l c:Nat} {gs:List (List Int)} (h:SlE 1 PolR w A l c gs) (hb:Below w.heap.size w w'):SlE 1 PolR w' A l c gs:=h.below hb fun _ _ hx=>hx.below hb
theorem SlE.belowc {w w':World} {A:Option Addr} {l c:Nat} {gs:List (List Int)} (h:SlE 1 CodR w A l c gs) (hb:Below w.heap.size w w'):SlE 1 CodR w' A l c gs:=h.below hb fun _ _ hx=>hx.below hb
def updl (S:List Int) (k:Nat):List Int:=S.take k ++ List.replicate (S.length-k) 0
theorem updl_len (S:List Int) {k:Nat} (h:k≤S.length):(updl S k).length=S.length:=by
 unfold updl
 rw [List.length_append,List.length_take,List.length_replicate]
 omega
theorem updl_zero (S:List Int):updl S 0=List.replicate S.length 0:=rfl
theorem updl_all (S:List Int):updl S S.length=S:=by
 unfold updl
 rw [List.take_length,Nat.sub_self]
 simp
theorem updl_set (S:List Int) {k:Nat} (h:k<S.length):(updl S k).set k (S.getD k 0)=updl S (k+1):=by
 unfold updl
 have hl:(S.take k).length=k:=by rw [List.length_take];omega
 obtain ⟨m,hm⟩:∃ m,S.length-k=m+1:=⟨S.length-k-1,by omega⟩
 rw [List.set_append_right _ _ (by omega),hl,Nat.sub_self,hm,show S.length-(k+1)=m by omega,List.replicate_succ,List.set_cons_zero,List.getD_eq_getElem?_getD,List.getElem?_eq_getElem h]
 show S.take k ++ S[k] :: List.replicate m 0=_
 rw [List.take_succ_eq_append_getElem h,List.append_assoc]
 rfl
set_option maxRecDepth 100000 in
set_option maxHeartbeats 4000000 in
theorem tsigns_any {I:IntPred} (hI:IK I) {w:World} {Ap:Option Addr} {lp cp:Nat} {Q:List Int} {Al:Option Addr} {ll cl:Nat} {gs:List (List Int)} {r:Fq×Fq} {n:Bool} {A:Option Addr} {l c:Nat} {B:Option Addr} {m d:Nat} {n':Bool} {A':Option Addr} {l' c':Nat} {B':Option Addr} {m' d':Nat}
 (hp:PolyP I w Ap lp cp Q) (hlp:lp≤1000000) (h9:P9 Q) (l6:plen Q≤6) (hl:SlE 1 PolR w Al ll cl gs) (hg:∀ k,k<gs.length→G6 (gs.getD k [])) (hll:ll≤1000) (hz:IntN w n A l c r.1.z) (hq:NatN w B m d r.1.q) (hz':IntN w n' A' l' c' r.2.z) (hq':NatN w B' m' d' r.2.q) (ha:FqB r.1) (hb:FqB r.2) :
 Calls Tryz.prog 54 #[.slice Ap lp cp,.agg #[.bool n,.slice A l c,.slice B m d,.bool n',.slice A' l' c',.slice B' m' d'],.slice Al ll cl] w fun e w'=>(∃ A c,e=.returned (.slice A ll c)∧I64At w' A ll c (gs.map (sgA Q r)))∧Below w.heap.size w w':=by
 have o1:=below_new w (tbox n A l c B m d n' A' l' c' B' m' d')
 have T:=Lib.hid (TBox.make hz hq hz' hq')
 have HP:=Lib.hid (hp.below hI o1)
 have HL:=Lib.hid (hl.belowp o1)
 have Hb:=Lib.hid o1
 have hgl:=hl.length
 obtain ⟨S,hS⟩:∃ S,S=gs.map (sgA Q r):=⟨_,rfl⟩
 have hSl:S.length=ll:=by rw [hS,List.length_map];exact hgl
 have hSg:∀ k,k<ll→S.getD k 0=sgA Q r (gs.getD k []):=fun k hk=>by
  rw [hS,List.getD_eq_getElem?_getD,List.getElem?_map,List.getElem?_eq_getElem (by omega),List.getD_eq_getElem?_getD,List.getElem?_eq_getElem (by omega)]
  rfl
 rw [← hS]
 have HSl:=Lib.hid hSl
 have HSg:=Lib.hid hSg
 have HGL:=Lib.hid hgl
 have HG:=Lib.hid hg
 clear hz hq hz' hq' o1 hp hl hS hSl hSg hgl hg
 go_enter Tryz.func54,Tryz.ntmps54
 obtain ⟨wa,hwa⟩:∃ wa,wa=w.alloc (tbox n A l c B m d n' A' l' c' B' m' d'):=⟨_,rfl⟩
 have hsa:wa.heap.size=w.heap.size+1:=by rw [hwa];simp
 rw [← hwa] at T HP HL Hb
 go_wp2_with (at_make;refine wpList_make_int _ rfl (.tmp 11) (.tmp 11) rfl ll rfl rfl (by omega) ?_)
 (try rw [← hwa])
 clear hwa
 intro w1 hz1 hb1 hs1
 rw [← hsa] at hz1 hs1 ⊢
 (try rw [← hsa] at hb1)
 have HZ:=Lib.hid (show IRow w1 wa.heap.size (updl S 0) by rw [updl_zero,HSl.out];exact hz1)
 obtain ⟨gI,hgI⟩:∃ g,g=wa.heap.size:=⟨_,rfl⟩
 obtain ⟨gT,hgT⟩:∃ g,g=w.heap.size:=⟨_,rfl⟩
 have HB1:=Lib.hid hb1
 rw [← hgI] at HZ ⊢
 rw [← hgT] at T
 have hTI:gT<gI:=by omega
 have HgI:=Lib.hid hgI
 have HgT:=Lib.hid hgT
 clear hz1 hb1 hs1 hgI hgT hsa
 go_wp2_with fail
 rw [← HgT.out]
 go_loopw [15] (fun s15 wr=>∃ k:Nat,k≤ll∧s15=.int .i64 (k:Int)∧IRow wr gI (updl S k)∧Below wa.heap.size wa wr) (fun s15 _=>ll-(intOf s15).toNat)
 case atStart=>exact ⟨0,Nat.zero_le _,rfl,HZ.out,HB1.out⟩
 case round =>
  clear HZ HB1
  obtain ⟨k,hk,rfl,hrow,hbw⟩:=hrel
  have HR:=Lib.hid hrow
  have Hbw:=Lib.hid hbw
  have hIr:gI<wr.heap.size:=hrow.lt
  by_cases hlt:k<ll
  ·have ka:(k:Int)<(ll:Int):=by omega
   have i1:IntKind.i64.wrap ((k:Int)+1)=(k:Int)+1:=IntWalk.i64_in _ (by omega)
   obtain ⟨b,o,A1,l1,c1,rfl,hb0,e0,hp1⟩:=(HL.out.belowp hbw).getp hlt
   have g6:=HG.out k (by rw [HGL.out];exact hlt)
   have T2:=Lib.hid (T.out.move hbw)
   have HPr:=Lib.hid (HP.out.below hI hbw)
   have HSk:=Lib.hid (HSg.out k hlt)
   obtain ⟨G,hG⟩:∃ G,G=gs.getD k []:=⟨_,rfl⟩
   obtain ⟨V,hV⟩:∃ V,V=S.getD k 0:=⟨_,rfl⟩
   rw [← hG] at hp1 g6
   have HEV:=Lib.hid (show sgA Q r G=V by rw [hV,HSk.out,hG])
   have HVV:=Lib.hid hV
   have H1:=Lib.hid hp1
   have Hkl:=Lib.hid hlt
   have x0:=T2.out.r.c0;have x1:=T2.out.r.c1;have x2:=T2.out.r.c2;have x3:=T2.out.c3;have x4:=T2.out.c4;have x5:=T2.out.c5
   clear hrow hbw hp1 hG hV hlt hk
   go_wp2_with fail
   refine (tsign_any hI ikN (r:=r) HPr.out hlp h9 l6 H1.out g6 T2.out.r.hz T2.out.r.hq T2.out.hz T2.out.hq ha hb).mono ?_
   rintro e w5 ⟨he,hb5⟩
   have he2:e=.returned (.int .i64 V):=by rw [← HEV.out];exact he
   subst he2
   have r5:=HR.out.below hb5 hIr
   have kc:=r5.cell (i:=k) (by rw [updl_len S (by rw [HSl.out];exact Nat.le_of_lt Hkl.out),HSl.out];exact Hkl.out)
   have kf:=r5.frozen k
   have RN:=Lib.hid (show IRow (w5.setCell ⟨gI,k,none⟩ (.int .i64 V)) gI (updl S (k+1)) by
    have h:=r5.set_ k V
    rw [HVV.out,updl_set S (by rw [HSl.out];exact Hkl.out),← HVV.out] at h
    exact h)
   have HBN:=Lib.hid (show Below wa.heap.size wa (w5.setCell ⟨gI,k,none⟩ (.int .i64 V)) from (Hbw.out.trans (hb5.mono Hbw.out.size)).setCell (by rw [HgI.out];exact Nat.le_refl _) _)
   clear he hb5 r5 x0 x1 x2 x3 x4 x5 T2 HPr H1 HR Hbw e0
   go_wp2_with fail
   go_roundw
   case rel=>exact ⟨k+1,Hkl.out,by go_num,RN.out,HBN.out⟩
   case measure=>have:=Hkl.out;simp [intOf];omega
  ·have hk2:k=ll:=by omega
   have t1:¬ (k:Int)<(ll:Int):=by omega
   have FX:=Lib.hid (show I64At wr (some ⟨gI,0,none⟩) ll ll S by
    have h:=hrow
    rw [hk2,← HSl.out,updl_all] at h
    have h2:=h.at_ (cap:=S.length) (Nat.le_refl _)
    rw [HSl.out] at h2
    exact h2)
   clear hrow hlt HR hk2
   go_wp2_with fail
   go_ret
   exact ⟨⟨_,_,rfl,FX.out⟩,Hb.out.trans (Hbw.out.mono Hb.out.size)⟩
end Go.Proofs.YtbfddopopajgaaaGreat
namespace Go.Proofs.YtbfddopopajgaaaGreat
open Go Go.RowKit
structure S6 (f:List Int):Prop where
 len:f.length≤6
 t:ptrim f=f
 b:∀ j,(f.getD j 0).natAbs≤32768
section
variable {f:List Int}
theorem S6.p9 (h:S6 f):P9 f:=⟨by have:=plen_le f;have:=h.len;omega,fun j=>Nat.le_trans (h.b j) (Nat.le_trans (by rw [Nat.pow_one,BB_eq];decide) (bbk_le (show 1≤10 by decide)))⟩
theorem S6.pl (h:S6 f):plen f≤6:=by have:=plen_le f;have:=h.len;omega
theorem S6.q9 (h:S6 f):P9 (qpart f):=by
 by_cases h0:plen f=0
 ·rw [qpart_nil h0]
  exact ⟨by decide,fun j=>by simp⟩
 ·have hq:=q_facts h.p9.q h0
  refine ⟨by have:=hq.l;have:=h.pl;omega,fun j=>Nat.le_trans (hq.b 1 (fun j=>Nat.le_trans (pprim_abs f j) (Nat.le_trans (h.b j) (by rw [Nat.pow_one,BB_eq];decide))) j) (bbk_le (by decide))⟩
theorem S6.ql (h:S6 f):plen (qpart f)≤6:=by have:=h.p9.part_l;have:=h.pl;omega
theorem S6.qlen (h:S6 f):(qpart f).length≤6:=by rw [← h.p9.part_t,ptrim_length];exact h.ql
end
noncomputable def tabl (f:List Int) (gs:List (List Int)):List (List Int):=(proots f).map fun r=>gs.map (sgA (qpart f) r)
noncomputable def codes (f:List Int):List (List Int):=tabl f (ders f)
theorem lay_take {α β:Type} {R:β→List Value→Prop} {F:α→β} {l:List α} {k:Nat} {us vs:List Value} {d:α} (h:Lay R ((l.take k).map F) us) (hk:k<l.length) (hx:R (F (l.getD k d)) vs):Lay R ((l.take (k+1)).map F) (us ++ vs):=by
 have e:l.take (k+1)=l.take k ++ [l.getD k d]:=by
  rw [List.take_succ_eq_append_getElem hk,List.getD_eq_getElem?_getD,List.getElem?_eq_getElem hk]
  rfl
 rw [e,List.map_append]
 exact h.app hx
theorem info_code:(Tryz.prog.info? 75).map (fun i=>(i.zero,i.size,i.bytes))=some (some (.slice none 0 0),1,24):=by kernel_rfl
theorem info_in1:(Tryz.prog.info? 3).map (fun i=>(i.zero,i.size,i.bytes))=some (some (.int .i64 0),1,8):=by kernel_rfl
def InC (u:Value):Prop:=∃ x,u=.int .i64 x
theorem inC_nd (u:Value) (h:InC u):Nd u:=by obtain ⟨x,rfl⟩:=h;exact ⟨(fun _ h=>by cases h),rfl⟩
def InR (_:World) (x:Int) (vs:List Value):Prop:=vs=[.int .i64 x]
theorem inz:∀ j,j<1→InC ((Value.int .i64 0).cells[j]!):=fun j hj=>by
 match j,hj with
 | 0,_=>exact ⟨0,rfl⟩
theorem Vals.getv {w:World} {g o:Nat} {rs:List (Fq×Fq)} (h:Vals w g o rs) {k:Nat} (hk:k<rs.length) :
 ∃ n A l c B m d n' A' l' c' B' m' d',w.cell? ⟨g,o+k*6,none⟩=some (.bool n)∧w.cell? ⟨g,o+k*6+1,none⟩=some (.slice A l c)∧w.cell? ⟨g,o+k*6+2,none⟩=some (.slice B m d)∧w.cell? ⟨g,o+k*6+3,none⟩=some (.bool n')∧w.cell? ⟨g,o+k*6+4,none⟩=some (.slice A' l' c')∧w.cell? ⟨g,o+k*6+5,none⟩=some (.slice B' m' d') ∧
   IntN w n A l c (rs.getD k r00).1.z∧NatN w B m d (rs.getD k r00).1.q∧IntN w n' A' l' c' (rs.getD k r00).2.z∧NatN w B' m' d' (rs.getD k r00).2.q:=by
 have e:rs[k]?=some (rs.getD k r00):=by rw [List.getD_eq_getElem?_getD,List.getElem?_eq_getElem hk];rfl
 obtain ⟨vs,⟨n,A,l,c,B,m,d,n',A',l',c',B',m',d',hv,h1,h2,h3,h4⟩,hc⟩:=h k _ e
 subst hv
 exact ⟨n,A,l,c,B,m,d,n',A',l',c',B',m',d',hc 0 _ rfl,hc 1 _ rfl,hc 2 _ rfl,hc 3 _ rfl,hc 4 _ rfl,hc 5 _ rfl,h1,h2,h3,h4⟩
theorem SlE.ints {w:World} {A:Option Addr} {l c:Nat} {xs:List Int} (h:SlE 1 InR w A l c xs):I64At w A l c xs:=by
 refine ⟨h.length,h.cap,?_⟩
 rcases h.elems with ⟨h0,_⟩ | ⟨b,o,e,hb,hv⟩
 ·exact .inl h0
 ·refine .inr ⟨b,o,e,hb,fun j hj=>?_⟩
  have hjl:j<xs.length:=by rw [h.length];exact hj
  obtain ⟨vs,ev,hc⟩:=hv j (xs.getD j 0) (by rw [List.getD_eq_getElem?_getD,List.getElem?_eq_getElem hjl];rfl)
  rw [show vs=_ from ev] at hc
  have:=hc 0 _ rfl
  rw [Nat.mul_one,Nat.add_zero] at this
  exact this
set_option maxRecDepth 100000 in
set_option maxHeartbeats 8000000 in
theorem codes_any {w:World} {Af:Option Addr} {lf cf:Nat} {f:List Int} (hf:PolyN w Af lf cf f) (s6:S6 f) :
 Calls Tryz.prog 37 #[.slice Af lf cf] w fun e w'=>(∃ A l c,e=.returned (.slice A l c)∧SlE 1 CodR w' A l c (codes f))∧Below w.heap.size w w':=by
 obtain ⟨i0,hi,hz0,hz1,hz2⟩:=info_parts info_code
 have hlf:lf≤6:=by have:=hf.length;have:=s6.len;omega
 have h9:=s6.p9
 have hq9:=s6.q9
 have hql:=s6.ql
 have hqlen:=s6.qlen
 have HP:=Lib.hid hf
 have S6H:=Lib.hid s6
 have hlen6:=s6.len
 have HB:=Lib.hid s6.b
 clear hf s6
 go_enter Tryz.func37,Tryz.ntmps37
 go_wp2_with fail
 refine (part_q ikN _ _ _ f _ HP.out h9.cp.fit.smp (fun _=>h9.q) (by omega)).mono ?_
 rintro e w1 ⟨A1,l1,c1,rfl,h1,hb1⟩
 obtain ⟨Q,hQ⟩:∃ Q,Q=qpart f:=⟨_,rfl⟩
 rw [← hQ] at h1 hq9 hql hqlen
 have hl1:l1≤6:=by have:=h1.length;omega
 have HQ:=Lib.hid h1
 have HQe:=Lib.hid hQ
 replace HP:=Lib.hid (HP.out.below ikN hb1)
 have Hb:=Lib.hid hb1
 clear h1 hb1 hQ
 go_wp2_with fail
 refine (ders_any ikN HP.out hlen6 HB.out).mono ?_
 rintro e w2 ⟨⟨A2,l2,c2,rfl,h2⟩,hb2⟩
 have hgl:=h2.length
 have hder:(ders f).length=plen f-1:=dkl_len _ _
 have hpl:=S6H.out.pl
 have HG:=Lib.hid (show ∀ k,k<(ders f).length→G6 ((ders f).getD k []) from fun k hk=>by
  unfold ders dkl at hk ⊢
  rw [List.length_map,List.length_range] at hk
  rw [List.getD_eq_getElem?_getD,List.getElem?_map,List.getElem?_range hk]
  exact dk_g6 hlen6 HB.out (by omega))
 have hl2:l2≤1000:=by omega
 have HL:=Lib.hid h2
 replace HP:=Lib.hid (HP.out.below ikN hb2)
 replace HQ:=Lib.hid (HQ.out.below ikN hb2)
 replace Hb:=Lib.hid (Hb.out.trans (hb2.mono Hb.out.size))
 clear h2 hb2 hgl hder hpl
 go_wp2_with fail
 refine (roots_any ikN _ _ _ f _ HP.out h9.cp.fit.smp (fun _=>h9.q) (fun h=>SqF.of9 h9 h) (by omega)).mono ?_
 rintro e w3 ⟨⟨A3,l3,c3,rfl,h3⟩,hb3⟩
 have hn9:=proots_le9 h9
 obtain ⟨RS,hRS⟩:∃ R,R=proots f:=⟨_,rfl⟩
 have hfq:=proots_fqb h9
 rw [← hRS] at h3 hn9 hfq
 have HRS:=Lib.hid hRS
 have Hrl:=Lib.hid h3.length
 have HR:=Lib.hid h3
 have Hfq:=Lib.hid hfq
 replace HQ:=Lib.hid (HQ.out.below ikN hb3)
 replace HL:=Lib.hid (HL.out.belowp hb3)
 replace Hb:=Lib.hid (Hb.out.trans (hb3.mono Hb.out.size))
 have hl3:l3≤9:=by rw [← h3.length];exact hn9
 clear hb3 h3 hRS hfq HP
 obtain ⟨F,hF⟩:∃ F:Fq×Fq→List Int,F=fun r=>(ders f).map (sgA Q r):=⟨_,rfl⟩
 have HF:=Lib.hid hF
 clear hF
 obtain ⟨wo,hwo⟩:∃ wo,wo=w3:=⟨_,rfl⟩
 rw [← hwo] at HR HQ Hb HL ⊢
 clear hwo
 go_wp2_with fail
 go_loopw [5,15] (fun s s15 wr=>∃ k:Nat,k≤l3∧s15=.int .i64 (k:Int)∧(∃ us,OwnE SlC 1 75 wo.heap.size wr s us∧Lay (CodR wr) ((RS.take k).map F) us)∧Below wo.heap.size wo wr) (fun _ s15 _=>l3-(intOf s15).toNat)
 case atStart=>exact ⟨0,Nat.zero_le _,rfl,⟨[],OwnE.nil _ _ _ _ _,rfl⟩,Bel.go⟩
 case round =>
  obtain ⟨k,hk,rfl,⟨us,ho,hly⟩,hbw⟩:=hrel
  by_cases hlt:k<l3
  ·have ka:(k:Int)<(l3:Int):=by omega
   have i1:IntKind.i64.wrap ((k:Int)+1)=(k:Int)+1:=IntWalk.i64_in _ (by omega)
   obtain ⟨b,o,rfl,hb0,hv⟩:∃ b o,A3=some ⟨b,o,none⟩∧b<wr.heap.size∧Vals wr b o RS:=by
    rcases (HR.out.below hbw).elems with ⟨h,_⟩ | h
    ·omega
    ·exact h
   have hkl:k<RS.length:=by rw [Hrl.out];exact hlt
   obtain ⟨n,A,l,c,B,m,d,n',A',l',c',B',m',d',e0,e1,e2,e3,e4,e5,z1,z2,z3,z4⟩:=hv.getv hkl
   obtain ⟨fa,fb⟩:=Hfq.out _ (getD_mem hkl r00)
   obtain ⟨r,hr⟩:∃ r,r=RS.getD k r00:=⟨_,rfl⟩
   rw [← hr] at z1 z2 z3 z4 fa fb
   have HRe:=Lib.hid hr
   have HKL:=Lib.hid hkl
   have jb:=below_new wr (tbox n A l c B m d n' A' l' c' B' m' d')
   have T:=Lib.hid (TBox.make z1 z2 z3 z4)
   have O:=Lib.hid (And.intro (ho.below jb) (show Lay (CodR (wr.alloc (tbox n A l c B m d n' A' l' c' B' m' d'))) ((RS.take k).map F) us from hly.mono fun _ _ hx=>hx.below jb))
   have hul:us.length=k*1:=by rw [hly.len fun x vs hx=>hx.len,List.length_map,List.length_take];omega
   have Hbw:=Lib.hid (hbw.trans (jb.mono hbw.size))
   have HQr:=Lib.hid ((HQ.out.below ikN hbw).below ikN jb)
   have HLr:=Lib.hid ((HL.out.belowp hbw).belowp jb)
   have x0:=T.out.r.c0;have x1:=T.out.r.c1;have x2:=T.out.r.c2;have x3:=T.out.c3;have x4:=T.out.c4;have x5:=T.out.c5
   have Hlt:=Lib.hid hlt
   clear z1 z2 z3 z4 hv hr ho hly hbw jb hlt hkl hk
   go_wp2_with fail
   refine (tsigns_any ikN (r:=r) HQr.out (by omega) hq9 hql HLr.out HG.out (by omega) T.out.r.hz T.out.r.hq T.out.hz T.out.hq fa fb).mono ?_
   rintro e w5 ⟨⟨A5,c5,rfl,h5⟩,hb5⟩
   have jb:=below_new w5 (.cells #[.slice A5 l2 c5] 75)
   have b6:=hb5.trans (jb.mono hb5.size)
   have HX6:=Lib.hid (show CodR (w5.alloc (.cells #[.slice A5 l2 c5] 75)) (F r) [.slice A5 l2 c5] from ⟨_,_,_,rfl,by rw [HF.out];exact h5.below jb⟩)
   have HC6:=Lib.hid (show ∀ (j:Nat) (v:Value),[Value.slice A5 l2 c5][j]?=some v→(w5.alloc (.cells #[.slice A5 l2 c5] 75)).cell? ((⟨w5.heap.size,0,none⟩:Addr).add j)=some v from one_cell _)
   have O5:=Lib.hid (And.intro (O.out.1.below b6) (show Lay (CodR (w5.alloc (.cells #[.slice A5 l2 c5] 75))) ((RS.take k).map F) us from O.out.2.mono fun _ _ hx=>hx.below b6))
   have Hb6:=Lib.hid (Hbw.out.trans (b6.mono Hbw.out.size))
   have Hsz:=Lib.hid (show wo.heap.size≤(w5.alloc (.cells #[.slice A5 l2 c5] 75)).heap.size from Hb6.out.size)
   clear hb5 jb b6 O Hbw HQr T x0 x1 x2 x3 x4 x5 HLr h5
   go_wp2_with (at_builtin;refine wpList_app_own rfl (.tmp 19) (.tmp 24) 70 75 rfl 1 i0 (.slice none 0 0) Tryz.underlying70 hi hz0 hz1 (by rw [hz2];omega) rfl SlC slC_nd slz (by decide) wo.heap.size _ us [.slice A5 l2 c5] rfl O5.out.1 Hsz.out ⟨w5.heap.size,0,none⟩ 1 1 rfl rfl HC6.out (fun u hu=>HX6.out.sl u hu) (.inl (by decide)) (by rw [hul];simp;omega) 25 rfl ?_)
   intro v2 w9 hgr
   have hb9:=hgr.below Hsz.out
   have hn:CodR w9 (F r) [.slice A5 l2 c5]:=codr_mv hgr _ _ HX6.out
   have hly9:Lay (CodR w9) ((RS.take (k+1)).map F) (us ++ [.slice A5 l2 c5]):=by
    have h1:Lay (CodR w9) ((RS.take k).map F) us:=O5.out.2.mono fun p ys hp=>codr_mv hgr p ys hp
    exact lay_take (d:=r00) h1 HKL.out (by rw [← HRe.out];exact hn)
   have O9:=Lib.hid (And.intro hgr.1 hly9)
   have Hb9:=Lib.hid (Hb6.out.trans hb9)
   clear hgr hb9 hly9 hn O5 Hb6 Hsz HC6
   go_wp2_with fail
   go_roundw
   case rel=>exact ⟨k+1,Hlt.out,by go_num,⟨_,O9.out.1,O9.out.2⟩,Hb9.out⟩
   case measure=>have:=Hlt.out;simp [intOf];omega
  ·have hk2:k=l3:=by omega
   have t1:¬ (k:Int)<(l3:Int):=by omega
   obtain ⟨A9,l9,c9,e9,h9'⟩:=ho.sle (by decide) hly fun x vs hx=>hx.len
   subst e9
   have FX:=Lib.hid (show SlE 1 CodR wr A9 l9 c9 (codes f) by
    rw [hk2,← Hrl.out,List.take_length,HF.out] at h9'
    unfold codes tabl
    rw [← HRS.out,← HQe.out]
    exact h9')
   clear ho hly h9' hk2 hlt
   go_wp2_with fail
   go_ret
   exact ⟨⟨_,_,_,rfl,FX.out⟩,Hb.out.trans (hbw.mono Hb.out.size)⟩
end Go.Proofs.YtbfddopopajgaaaGreat
namespace Go.Proofs.YtbfddopopajgaaaGreat
open Go Go.RowKit
theorem codes_len (f:List Int):(codes f).length=(proots f).length:=by unfold codes tabl;rw [List.length_map]
theorem w2_s6:S6 w2:=⟨by decide,by decide,fun j=>by
 match j with
 | 0=>decide
 | 1=>decide
 | 2=>decide
 | j+3=>simp [w2]⟩
theorem w2_all:nall w2=2:=by decide +kernel
theorem w2_codes:(codes w2).length=2:=by
 have h:=(cmpl_roots w2_s6.p9).1
 rw [w2_all] at h
 rw [codes_len]
 omega
theorem w2_atT (w:World):I64At (w.alloc (.cells #[.int .i64 (-2),.int .i64 0,.int .i64 1] 2)) (some ⟨w.heap.size,0,none⟩) 3 3 w2:=by
 refine ⟨rfl,by omega,.inr ⟨w.heap.size,0,rfl,by simp,fun j hj=>?_⟩⟩
 match j,hj with
 | 0,_=>simp [w2]
 | 1,_=>simp [w2]
 | 2,_=>simp [w2]
set_option maxHeartbeats 1000000 in
theorem awake19_any (w:World):Calls Tryz.prog 15 #[] w fun e w'=>e=.returned (.bool true)∧Below w.heap.size w w':=by
 have jb:=below_new w (.cells #[.int .i64 (-2),.int .i64 0,.int .i64 1] 2)
 have hat:=w2_atT w
 go_enter Tryz.func15,Tryz.ntmps15
 go_wp2_with fail
 refine (pof_any _ _ _ _ _ (by first | exact hat | simpa using hat) (by intro c hc;simp [w2] at hc;rcases hc with rfl | rfl | rfl<;>(unfold I64;omega)) (by omega)).mono ?_
 rintro e w1 ⟨A1,l1,c1,rfl,h1,hb1⟩
 rw [show ptrim w2=w2 by decide] at h1
 have HP:=Lib.hid h1
 have Hb:=Lib.hid (jb.trans (hb1.mono jb.size))
 clear hb1 h1 hat jb
 go_wp2_with fail
 refine (codes_any HP.out w2_s6).mono ?_
 rintro e w2' ⟨⟨A2,l2,c2,rfl,h2⟩,hb2⟩
 have hl:l2=2:=by rw [← h2.length];exact w2_codes
 subst hl
 replace Hb:=Lib.hid (Hb.out.trans (hb2.mono Hb.out.size))
 clear hb2 h2 HP
 go_wp2
 go_ret
 exact ⟨by first | rfl | simp,Hb.out⟩
theorem I64At.get {w:World} {A:Option Addr} {l c:Nat} {p:List Int} (h:I64At w A l c p) {k:Nat} (hk:k<l):∃ b o,A=some ⟨b,o,none⟩∧b<w.heap.size∧w.cell? ⟨b,o+k,none⟩=some (.int .i64 (p.getD k 0)):=by
 rcases h.cells with h0 | ⟨b,o,e,hb,hv⟩
 ·omega
 ·exact ⟨b,o,e,hb,hv k hk⟩
theorem list_ext {p q:List Int} (hl:p.length=q.length) (h:∀ j,j<p.length→p.getD j 0=q.getD j 0):p=q:=by
 refine List.ext_getElem hl fun j h1 h2=>?_
 have:=h j h1
 rwa [List.getD_eq_getElem?_getD,List.getD_eq_getElem?_getD,List.getElem?_eq_getElem h1,List.getElem?_eq_getElem h2] at this
set_option maxRecDepth 100000 in
set_option maxHeartbeats 4000000 in
theorem same_any {w:World} {A B:Option Addr} {l c m d:Nat} {p q:List Int} (ha:I64At w A l c p) (hb:I64At w B m d q) (hl:l≤1000000) (hm:m≤1000000) :
  Calls Tryz.prog 20 #[.slice A l c,.slice B m d] w fun e w'=>e=.returned (.bool (decide (p=q)))∧Below w.heap.size w w':=by
 have HA:=Lib.hid ha
 have HB:=Lib.hid hb
 have lp:=ha.length
 have lq:=hb.length
 clear ha hb
 go_enter Tryz.func20,Tryz.ntmps20
 by_cases e0:l=m
 ·subst e0
  go_wp2_with fail
  go_loopw [5] (fun s5 wr=>∃ k:Nat,k≤l∧s5=.int .i64 (k:Int)∧Below w.heap.size w wr∧∀ j,j<k→p.getD j 0=q.getD j 0) (fun s5 _=>l-(intOf s5).toNat)
  case atStart=>exact ⟨0,Nat.zero_le _,rfl,Below.refl _ _,fun j hj=>by omega⟩
  case round =>
   obtain ⟨k,hk,rfl,hbw,hs⟩:=hrel
   have HS:=Lib.hid hs
   have HAr:=Lib.hid (HA.out.below hbw)
   have HBr:=Lib.hid (HB.out.below hbw)
   have Hbw:=Lib.hid hbw
   clear hs hbw
   by_cases hlt:k<l
   ·have ka:(k:Int)<(l:Int):=by omega
    have i1:IntKind.i64.wrap ((k:Int)+1)=(k:Int)+1:=IntWalk.i64_in _ (by omega)
    obtain ⟨b1,o1,rfl,_,x1⟩:=HAr.out.get hlt
    obtain ⟨b2,o2,rfl,_,x2⟩:=HBr.out.get hlt
    obtain ⟨u,hu⟩:∃ u,u=p.getD k 0:=⟨_,rfl⟩
    obtain ⟨v,hv⟩:∃ v,v=q.getD k 0:=⟨_,rfl⟩
    rw [← hu] at x1
    rw [← hv] at x2
    have HU:=Lib.hid (And.intro hu hv)
    have Hlt:=Lib.hid hlt
    clear hu hv
    by_cases e1:u=v
    ·have e2:(u != v)=false:=by rw [e1];simp
     have HE:=Lib.hid e1
     subst e1
     go_wp2_with fail
     go_region
     go_wp2_with fail
     go_roundw
     case rel=>exact ⟨k+1,Hlt.out,by go_num,Hbw.out.trans Bel.go,fun j hj=>by
      by_cases h:j=k
      ·rw [h,← HU.out.1,← HU.out.2]
      ·exact HS.out j (by omega)⟩
     case measure=>have:=Hlt.out;simp [intOf];omega
    ·have FX:=Lib.hid (show decide (p=q)=false from decide_eq_false fun e=>e1 (by rw [HU.out.1,HU.out.2,e]))
     have e2:(u == v)=false:=by simpa using e1
     clear hlt
     go_wp2_with fail
     go_region
     go_wp2_with fail
     go_ret
     exact ⟨by rw [FX.out];rfl,Hbw.out.trans Bel.go⟩
   ·have hk2:k=l:=by omega
    have t1:¬ (k:Int)<(l:Int):=by omega
    have FX:=Lib.hid (show decide (p=q)=true from decide_eq_true (list_ext (by omega) fun j hj=>HS.out j (by omega)))
    clear hlt hk2
    go_wp2_with fail
    go_ret
    exact ⟨by rw [FX.out];rfl,Hbw.out⟩
 ·have FX:=Lib.hid (show decide (p=q)=false from decide_eq_false fun e=>e0 (by rw [← lp,← lq,e]))
  have e1:((l:Int) == (m:Int))=false:=by rw [beq_eq_false_iff_ne];omega
  have e2:¬ (l:Int)=(m:Int):=by omega
  go_wp2_with fail
  go_ret
  exact ⟨by rw [FX.out];rfl,Below.refl _ _⟩
set_option maxRecDepth 100000 in
set_option maxHeartbeats 4000000 in
theorem wide_any {w:World} {A:Option Addr} {l c n:Nat} {p:List Int} (ha:I8At w A l c p) (hn:n≤1000) :
  Calls Tryz.prog 27 #[.slice A l c,.int .i64 (n:Int)] w fun e w'=>(∃ A' l' c',e=.returned (.slice A' l' c')∧I64At w' A' l' c' (p.take n))∧Below w.heap.size w w':=by
 obtain ⟨i0,hi,hz0,hz1,hz2⟩:=info_parts info_in1
 have HA:=Lib.hid ha
 have lp:=ha.length
 clear ha
 go_enter Tryz.func27,Tryz.ntmps27
 obtain ⟨wo,hwo⟩:∃ wo,wo=w:=⟨_,rfl⟩
 rw [← hwo] at HA ⊢
 clear hwo
 go_wp2_with fail
 go_loopw [5,6] (fun s5 s6 wr=>∃ k:Nat,k≤l∧k≤n∧s6=.int .i64 (k:Int)∧(∃ us,OwnE InC 1 3 wo.heap.size wr s5 us∧Lay (InR wr) (p.take k) us)∧Below wo.heap.size wo wr) (fun _ s6 _=>l-(intOf s6).toNat)
 case atStart=>exact ⟨0,Nat.zero_le _,Nat.zero_le _,rfl,⟨[],OwnE.nil _ _ _ _ _,rfl⟩,Bel.go⟩
 case round =>
  obtain ⟨k,hk,hkn,rfl,⟨us,ho,hly⟩,hbw⟩:=hrel
  by_cases hlt:k<l∧k<n
  ·have ka:(k:Int)<(l:Int):=by omega
   have kb:(k:Int)<(n:Int):=by omega
   have i1:IntKind.i64.wrap ((k:Int)+1)=(k:Int)+1:=IntWalk.i64_in _ (by omega)
   have hbx:=(HA.out.below hbw).cells
   obtain ⟨b,o,rfl,hb0,hv⟩:∃ b o,A=some ⟨b,o,none⟩∧b<wr.heap.size∧∀ j,j<l→wr.cell? ⟨b,o+j,none⟩=some (.int .i8 (p.getD j 0)):=by
    rcases hbx with h | ⟨b,o,e,h1,h2⟩
    ·omega
    ·exact ⟨b,o,e,h1,h2⟩
   have x0:=hv k hlt.1
   obtain ⟨V,hV⟩:∃ V,V=p.getD k 0:=⟨_,rfl⟩
   rw [← hV] at x0
   have hV8:-128≤V∧V≤127:=by
    rw [hV]
    exact HA.out.range _ (by rw [List.getD_eq_getElem?_getD,List.getElem?_eq_getElem (by omega:k<p.length)];exact List.getElem_mem _)
   have i2:IntKind.i64.wrap V=V:=IntWalk.i64_in _ (by omega)
   have hul:us.length=k:=by rw [hly.len fun x vs hx=>(show vs.length=1 by rw [show vs=_ from hx];rfl),List.length_take];omega
   have jb:=below_new wr (.cells #[.int .i64 V] 3)
   have O:=Lib.hid (And.intro (ho.below jb) (show Lay (InR (wr.alloc (.cells #[.int .i64 V] 3))) (p.take k) us from hly))
   have Hbw:=Lib.hid (hbw.trans (jb.mono hbw.size))
   have Hsz:=Lib.hid (show wo.heap.size≤(wr.alloc (.cells #[.int .i64 V] 3)).heap.size from Hbw.out.size)
   have HVe:=Lib.hid hV
   have Hlt:=Lib.hid hlt
   have HC6:=Lib.hid (show ∀ (j:Nat) (v:Value),[Value.int .i64 V][j]?=some v→(wr.alloc (.cells #[.int .i64 V] 3)).cell? ((⟨wr.heap.size,0,none⟩:Addr).add j)=some v from one_cell _)
   clear hbx hv hV ho hly hbw jb hlt
   go_wp2_with (at_builtin;refine wpList_app_own rfl (.tmp 18) (.tmp 24) 28 3 rfl 1 i0 (.int .i64 0) Tryz.underlying28 hi hz0 hz1 (by rw [hz2];omega) rfl InC inC_nd inz (by decide) wo.heap.size _ us [.int .i64 V] rfl O.out.1 Hsz.out ⟨wr.heap.size,0,none⟩ 1 1 rfl rfl HC6.out (fun u hu=>⟨V,by simpa using hu⟩) (.inl (by decide)) (by rw [hul];simp;omega) 25 rfl ?_)
   intro v2 w9 hgr
   have hb9:=hgr.below Hsz.out
   have hly9:Lay (InR w9) (p.take (k+1)) (us ++ [.int .i64 V]):=by
    have h2:=Lay.app (R:=InR w9) (xs:=p.take k) (us:=us) (x:=V) (vs:=[.int .i64 V]) O.out.2 rfl
    have e:p.take (k+1)=p.take k ++ [V]:=by
     have hkl:k<p.length:=by have:=Hlt.out.1;omega
     rw [List.take_succ_eq_append_getElem hkl,HVe.out,List.getD_eq_getElem?_getD,List.getElem?_eq_getElem hkl]
     rfl
    rw [e]
    exact h2
   have O9:=Lib.hid (And.intro hgr.1 hly9)
   have Hb9:=Lib.hid (Hbw.out.trans hb9)
   clear hgr hb9 hly9 O Hbw Hsz HC6
   go_wp2_with fail
   go_roundw
   case rel=>exact ⟨k+1,Hlt.out.1,Hlt.out.2,by go_num,⟨_,O9.out.1,O9.out.2⟩,Hb9.out⟩
   case measure=>have:=Hlt.out;simp [intOf];omega
  ·obtain ⟨A9,l9,c9,e9,h9'⟩:=ho.sle (by decide) hly fun x vs hx=>(show vs.length=1 by rw [show vs=_ from hx];rfl)
   subst e9
   have FX:=Lib.hid (show I64At wr A9 l9 c9 (p.take n) by
    have e:p.take n=p.take k:=by
     by_cases h:k=n
     ·rw [h]
     ·rw [List.take_of_length_le (by omega),List.take_of_length_le (by omega)]
    rw [e]
    exact SlE.ints h9')
   clear ho hly h9'
   by_cases h1:k<l
   ·have t0:(k:Int)<(l:Int):=by omega
    have t1:¬ (k:Int)<(n:Int):=by omega
    clear hlt
    go_wp2_with fail
    go_ret
    exact ⟨⟨_,_,_,rfl,FX.out⟩,hbw⟩
   ·have t0:¬ (k:Int)<(l:Int):=by omega
    clear hlt
    go_wp2_with fail
    go_ret
    exact ⟨⟨_,_,_,rfl,FX.out⟩,hbw⟩
end Go.Proofs.YtbfddopopajgaaaGreat
namespace Go.Proofs.YtbfddopopajgaaaGreat
open Go Go.RowKit
end Go.Proofs.YtbfddopopajgaaaGreat
namespace Go.Proofs.YtbfddopopajgaaaGreat
open Go.RowKit
theorem rat_lec {a b:Rat} (h:a≤b):a<b∨a=b:=by
 by_cases c:a<b
 ·exact .inl c
 ·exact .inr (by grind)
section
variable {f:List Int} {xs:List Pt} {rs:List (Fq×Fq)} {i k:Nat}
theorem root_idx (hx:Lst (fun x=>sgp f x=0) xs) {y:Pt} (hy:sgp f y=0):∃ j,j<xs.length∧xs.getD j default=y:=by
 obtain ⟨j,hj,e⟩:=List.getElem_of_mem ((hx.2 y).2 hy)
 exact ⟨j,hj,by rw [List.getD_eq_getElem?_getD,List.getElem?_eq_getElem hj,e];rfl⟩
theorem idx_root (hx:Lst (fun x=>sgp f x=0) xs) (hk:k<xs.length):sgp f (xs.getD k default)=0:=(hx.2 _).1 (by
 rw [List.getD_eq_getElem?_getD,List.getElem?_eq_getElem hk]
 exact List.getElem_mem hk)
theorem below_lst {p:Pt} (hx:Lst (fun x=>sgp f x=0) xs) (lo:∀ j,j<i→xs.getD j default<p) (hi:∀ j,i≤j→j<xs.length→¬ xs.getD j default<p):Lst (fun x=>sgp f x=0∧x<p) (xs.take i):=by
 refine ⟨hx.1.take,fun y=>⟨fun hy=>?_,fun hy=>?_⟩⟩
 ·obtain ⟨j,hj,e⟩:=List.getElem_of_mem hy
  rw [List.length_take] at hj
  rw [List.getElem_take] at e
  have hj2:j<xs.length:=by omega
  refine ⟨(hx.2 y).1 (by rw [← e];exact List.getElem_mem _),?_⟩
  have:=lo j (by omega)
  rw [List.getD_eq_getElem?_getD,List.getElem?_eq_getElem hj2] at this
  rw [← e]
  exact this
 ·obtain ⟨j,hj,e⟩:=root_idx hx hy.1
  have hji:j<i:=Nat.lt_of_not_le fun hc=>hi j hc hj (by rw [e];exact hy.2)
  refine List.mem_iff_getElem.2 ⟨j,by rw [List.length_take];omega,?_⟩
  rw [List.getElem_take]
  rw [List.getD_eq_getElem?_getD,List.getElem?_eq_getElem hj] at e
  exact e
theorem below_k (h9:P9 f) (h0:plen f≠0) (hx:Lst (fun x=>sgp f x=0) xs) (hi:i≤xs.length) {g:Fq} (hq:0<g.q) (lo:∀ j,j<i→xs.getD j default<g.p) (hi2:∀ j,i≤j→j<xs.length→¬ xs.getD j default<g.p):nbelow f g.z g.q=i:=by
 rw [nbelow_len h9 h0 hq (below_lst hx lo hi2),List.length_take,Nat.min_eq_left hi]
theorem RF.lo_lt (h:RF f xs rs) {j:Nat} (hj:j<k) (hk:k<xs.length):xs.getD j default<(rs.getD k r00).1.p:=by
 have ij:=h.iso j (by omega)
 have ik:=h.iso k hk
 have ho:=h.ord j k hj hk
 have lt:=asc_get h.lst.1 hj hk
 rcases Pt.tri (xs.getD j default) (rs.getD k r00).1.p with c | c | c
 ·exact c
 ·rcases ik.2 with i2 | i2
  ·rw [c,i2.2] at lt;exact absurd lt (Pt.irr _)
  ·exact absurd (by rw [← c];exact ij.1) i2.2.1
 ·refine absurd ?_ ij.hi
  rcases rat_lec ho with c2 | c2
  ·exact Pt.lt_trans (Pt.of_lt_of.2 c2) c
  ·unfold Fq.p;rw [c2];exact c
theorem RF.below_lo (h:RF f xs rs) (h9:P9 f) (h0:plen f≠0) (hk:k<xs.length):nbelow f (rs.getD k r00).1.z (rs.getD k r00).1.q=k :=
 below_k h9 h0 h.lst (Nat.le_of_lt hk) (h.fa hk).1.p (fun j hj=>h.lo_lt hj hk) fun j hj hj2 c=>by
  have ik:=h.iso k hk
  rcases Nat.lt_or_ge k j with h1 | h1
  ·exact ik.lo (Pt.lt_trans (asc_get h.lst.1 h1 hj2) c)
  ·obtain rfl:j=k:=by omega
   exact ik.lo c
end
end Go.Proofs.YtbfddopopajgaaaGreat
namespace Go.Proofs.YtbfddopopajgaaaGreat
open Go Go.RowKit
theorem short_s6 {w:World} {A:Option Addr} {l c:Nat} {p:List Int} (h:I16At w A l c p) {n:Nat} (hn:n≤6):S6 (ptrim (p.take n)):=by
 have h1:=plen_le (p.take n)
 rw [List.length_take] at h1
 refine ⟨by rw [ptrim_length];omega,ptrim_ptrim _,fun j=>?_⟩
 rw [ptrim_getD]
 rcases Nat.lt_or_ge j (p.take n).length with hj | hj
 ·have hmem:(p.take n).getD j 0∈p:=by
   rw [List.getD_eq_getElem?_getD,List.getElem?_eq_getElem hj]
   exact List.mem_of_mem_take (List.getElem_mem _)
  have:=h.range _ hmem
  omega
 ·rw [getD_out _ hj];omega
section
variable {f g:List Int} {xs:List Pt} {k:Nat} {x:Pt}
theorem S6.sg (h:S6 f) (h0:plen f≠0) (hg:G6 g) {r:Fq×Fq} (ha:FqB r.1) (hb:FqB r.2) (hi:IsoV f x r.1 r.2):sgA (qpart f) r g=sgp g x:=by
 have hq:=q_facts h.p9.q h0
 exact sgA_eq h.q9 h.ql hg hq.q0 (fun y=>(hq.root y).symm) ha hb hi
theorem S6.nz (hk:k<(proots f).length):plen f≠0:=fun e=>by rw [proots_nil e] at hk;cases hk
theorem S6.sgk (h:S6 f) (hx:RF f xs (proots f)) (hk:k<(proots f).length) (hg:G6 g):sgA (qpart f) ((proots f).getD k r00) g=sgp g (xs.getD k default):=by
 have hk':k<xs.length:=by rw [← hx.len];exact hk
 obtain ⟨ha,hb⟩:=hx.fa hk'
 exact h.sg (S6.nz hk) hg ha hb (hx.iso k hk')
theorem map_getD {α β:Type} (F:α→β) (l:List α) (d:α) (e:β) {k:Nat} (hk:k<l.length):(l.map F).getD k e=F (l.getD k d):=by
 rw [List.getD_eq_getElem?_getD,List.getElem?_map,List.getD_eq_getElem?_getD,List.getElem?_eq_getElem hk]
 rfl
theorem tabl_get (f:List Int) (gs:List (List Int)) (hk:k<(proots f).length):(tabl f gs).getD k []=gs.map (sgA (qpart f) ((proots f).getD k r00)):=by
 unfold tabl
 exact map_getD _ _ _ _ hk
end
end Go.Proofs.YtbfddopopajgaaaGreat
namespace Go.Proofs.YtbfddopopajgaaaGreat
open Go Go.RowKit
def nsg (x:Int):Bool:=decide (x < -1) || decide (1<x)
theorem any_not {p:List Int} (h:∀ j,j<p.length→nsg (p.getD j 0)=false):p.any nsg=false:=by
 rw [List.any_eq_false]
 intro x hx
 obtain ⟨j,hj,e⟩:=List.getElem_of_mem hx
 have:=h j hj
 rw [List.getD_eq_getElem?_getD,List.getElem?_eq_getElem hj] at this
 have e2:nsg x=false:=by rw [← e];exact this
 rw [e2];simp
def lsd (a b:List Int):Nat→Nat
 | 0=>0
 | n+1=>if a.getD n 0=b.getD n 0 then lsd a b n else n+1
theorem lsd_le (a b:List Int):∀ n,lsd a b n≤n
 | 0=>Nat.le_refl _
 | n+1=>by
   unfold lsd
   split
   ·have:=lsd_le a b n;omega
   ·exact Nat.le_refl _
theorem lsd_symm (a b:List Int):∀ n,lsd a b n=lsd b a n
 | 0=>rfl
 | n+1=>by
   unfold lsd
   by_cases h:a.getD n 0=b.getD n 0
   ·rw [if_pos h,if_pos h.symm];exact lsd_symm a b n
   ·rw [if_neg h,if_neg fun e=>h e.symm]
theorem lsd_ne {a b:List Int}:∀ {n m:Nat},lsd a b n=m+1→a.getD m 0≠b.getD m 0
 | 0,m,h=>by cases h
 | n+1,m,h=>by
   unfold lsd at h
   by_cases c:a.getD n 0=b.getD n 0
   ·rw [if_pos c] at h;exact lsd_ne h
   ·rw [if_neg c] at h
    rw [show m=n by omega];exact c
theorem lsd_eq {a b:List Int}:∀ {n j:Nat},lsd a b n≤j→j<n→a.getD j 0=b.getD j 0
 | 0,j,_,h=>by cases h
 | n+1,j,h,h1=>by
   unfold lsd at h
   by_cases c:a.getD n 0=b.getD n 0
   ·rw [if_pos c] at h
    by_cases e:j=n
    ·rw [e];exact c
    ·exact lsd_eq h (by omega)
   ·rw [if_neg c] at h;omega
def rul (a b:List Int):Int×Int :=
 if a.length≠b.length∨a.any nsg=true∨b.any nsg=true then (0,1) else
 if lsd a b a.length=0 then (0,0) else
 if lsd a b a.length=a.length∨a.getD (lsd a b a.length) 0=0 then (0,1) else
 if (a.getD (lsd a b a.length-1) 0<b.getD (lsd a b a.length-1) 0)↔(a.getD (lsd a b a.length) 0=1) then (-1,0) else (1,0)
theorem rul_swap {a b:List Int} (h:(rul a b).2=0):rul b a=(-(rul a b).1,0):=by
 unfold rul at h ⊢
 by_cases c:a.length≠b.length∨a.any nsg=true∨b.any nsg=true
 ·rw [if_pos c] at h;cases h
 have c':¬ (b.length≠a.length∨b.any nsg=true∨a.any nsg=true):=by
  rintro (e | e | e)
  ·exact c (.inl e.symm)
  ·exact c (.inr (.inr e))
  ·exact c (.inr (.inl e))
 rw [if_neg c] at h ⊢
 rw [if_neg c']
 have hl:a.length=b.length:=by
  by_cases e:a.length=b.length
  ·exact e
  ·exact absurd (.inl e) c
 rw [← hl,lsd_symm b a]
 by_cases c0:lsd a b a.length=0
 ·rw [if_pos c0,if_pos c0];rfl
 rw [if_neg c0] at h ⊢
 rw [if_neg c0]
 by_cases c1:lsd a b a.length=a.length∨a.getD (lsd a b a.length) 0=0
 ·rw [if_pos c1] at h;cases h
 have hlt:lsd a b a.length<a.length:=by have:=lsd_le a b a.length;have:=fun e=>c1 (.inl e);omega
 have e1:=lsd_eq (a:=a) (b:=b) (Nat.le_refl _) hlt
 obtain ⟨m,hm⟩:∃ m,lsd a b a.length=m+1:=⟨lsd a b a.length-1,by omega⟩
 have e2:=lsd_ne hm
 rw [if_neg c1,← e1,if_neg c1]
 rw [hm]
 show (if (b.getD m 0<a.getD m 0↔a.getD (m+1) 0=1) then ((-1,0):Int×Int) else (1,0))=(-(if (a.getD m 0<b.getD m 0↔a.getD (m+1) 0=1) then ((-1,0):Int×Int) else (1,0)).1,0)
 by_cases u:a.getD (m+1) 0=1<;>by_cases v:a.getD m 0<b.getD m 0
 ·rw [if_neg (fun h=>absurd (h.2 u) (by omega)),if_pos ⟨fun _=>u,fun _=>v⟩];rfl
 ·rw [if_pos ⟨fun _=>u,fun _=>by omega⟩,if_neg (fun h=>v (h.2 u))]
 ·rw [if_pos ⟨fun h=>absurd h (by omega),fun h=>absurd h u⟩,if_neg (fun h=>u (h.1 v))]
 ·rw [if_neg (fun h=>u (h.1 (by omega))),if_pos ⟨fun h=>absurd h v,fun h=>absurd h u⟩];rfl
theorem lsd_suc (a b:List Int) (k:Nat):lsd a b (k+1)=if a.getD k 0=b.getD k 0 then lsd a b k else k+1:=rfl
end Go.Proofs.YtbfddopopajgaaaGreat
namespace Go.Proofs.YtbfddopopajgaaaGreat
open Go Go.RowKit
theorem S6.ders_len {f:List Int} (h:S6 f):(ders f).length≤6:=by
 have h1:(ders f).length=plen f-1:=dkl_len _ _
 have:=h.pl
 omega
theorem S6.ders_g6 {f:List Int} (h:S6 f):∀ k,k<(ders f).length→G6 ((ders f).getD k []):=fun k hk=>by
 have hl:=h.len
 have hp:=h.pl
 unfold ders dkl at hk ⊢
 rw [List.length_map,List.length_range] at hk
 rw [List.getD_eq_getElem?_getD,List.getElem?_map,List.getElem?_range hk]
 exact dk_g6 hl h.b (by omega)
section
variable {f g h:List Int} {x y:Pt}
theorem zero_all (hxy:x<y) (h0:∀ z,x<z→z<y→sgp h z=0):plen h=0:=by
 by_cases e:plen h=0
 ·exact e
 exfalso
 obtain ⟨xs,hx⟩:=roots_lst e (fun z=>x<z∧z<y)
 obtain ⟨q,q1,q2⟩:=Pt.mid hxy
 match xs,hx with
 | [],hx =>
   have:=(hx.2 (Pt.of q)).2 ⟨h0 _ q1 q2,q1,q2⟩
   cases this
 | a :: xs,hx =>
   obtain ⟨_,a1,a2⟩:=(hx.2 a).1 (List.mem_cons_self ..)
   obtain ⟨p,p1,p2⟩:=Pt.mid a1
   have hm:=(hx.2 (Pt.of p)).2 ⟨h0 _ p1 (Pt.lt_trans p2 a2),p1,Pt.lt_trans p2 a2⟩
   rcases List.mem_cons.1 hm with e1 | e1
   ·rw [e1] at p2;exact Pt.irr _ p2
   ·have:=(List.pairwise_cons.1 hx.1).1 _ e1
    exact Pt.irr _ (Pt.lt_trans this p2)
theorem pder_none (e:plen (pder h)=0):plen h≤1:=by
 by_cases c:2≤plen h
 ·have:=pder_plen c;omega
 ·omega
theorem one_const (e:plen h≤1) (x y:Pt):sgp h x=sgp h y:=by
 by_cases c:plen h=0
 ·rw [sgp_zero c,sgp_zero c]
 ·rw [sgp_one (by omega),sgp_one (by omega)]
theorem mono_sign {t:Int} (hxy:x<y) (ht:∀ z,x<z→z<y→sgp (pder h) z=t) :
  (t=1∧(sgp h x≠-1→sgp h y=1))∨(t=-1∧(sgp h x≠1→sgp h y=-1))∨(t=0∧plen h≤1):=by
 obtain ⟨q,q1,q2⟩:=Pt.mid hxy
 rcases sgp_or (pder h) (Pt.of q) with e | e | e
 ·rw [ht _ q1 q2] at e
  exact .inl ⟨e,fun h1=>sgp_rise hxy (fun z z1 z2=>by rw [ht z z1 z2,e]) h1⟩
 ·rw [ht _ q1 q2] at e
  exact .inr (.inl ⟨e,fun h1=>sgp_fall hxy (fun z z1 z2=>by rw [ht z z1 z2,e]) h1⟩)
 ·rw [ht _ q1 q2] at e
  exact .inr (.inr ⟨e,pder_none (zero_all hxy fun z z1 z2=>by rw [ht z z1 z2,e])⟩)
theorem thom_same (hxy:x<y):∀ (n:Nat) (h:List Int),plen h≤n→(∀ i,sgp (dk i h) x=sgp (dk i h) y)→∀ z,x<z→z<y→sgp h z=sgp h x
 | 0,h,hl,_,z,_,_=>one_const (by omega) z x
 | n+1,h,hl,hs,z,z1,z2=>by
   by_cases c:plen h≤1
   ·exact one_const c z x
   have hp:=pder_plen (p:=h) (by omega)
   have ih:=thom_same hxy n (pder h) (by omega) fun i=>hs (i+1)
   have h0:sgp h x=sgp h y:=hs 0
   have k1:=mono_sign (h:=h) z1 fun u u1 u2=>ih u u1 (Pt.lt_trans u2 z2)
   have k2:=mono_sign (h:=h) z2 fun u u1 u2=>ih u (Pt.lt_trans z1 u1) u2
   rcases k1 with ⟨e,k1⟩ | ⟨e,k1⟩ | ⟨_,k1⟩
   ·rcases k2 with ⟨_,k2⟩ | ⟨e2,_⟩ | ⟨e2,_⟩
    ·rcases sgp_or h x with a | a | a<;>rcases sgp_or h z with b | b | b<;>rw [a] at k1 h0<;>rw [b] at k1 k2<;>rw [← h0] at k2<;>rw [a,b]<;>simp at k1 k2
    ·omega
    ·omega
   ·rcases k2 with ⟨e2,_⟩ | ⟨_,k2⟩ | ⟨e2,_⟩
    ·omega
    ·rcases sgp_or h x with a | a | a<;>rcases sgp_or h z with b | b | b<;>rw [a] at k1 h0<;>rw [b] at k1 k2<;>rw [← h0] at k2<;>rw [a,b]<;>simp at k1 k2
    ·omega
   ·omega
theorem thom_ord (hxy:x<y) (hs:∀ i,sgp (dk i (pder h)) x=sgp (dk i (pder h)) y) (hd:sgp h x≠sgp h y):sgp (pder h) x≠0∧(sgp h x<sgp h y↔sgp (pder h) x=1):=by
 have ih:=thom_same hxy (plen (pder h)) (pder h) (Nat.le_refl _) hs
 rcases mono_sign (h:=h) hxy ih with ⟨e,k⟩ | ⟨e,k⟩ | ⟨_,k⟩
 ·rw [e]
  refine ⟨by decide,fun _=>rfl,fun _=>?_⟩
  rcases sgp_or h x with a | a | a<;>rcases sgp_or h y with b | b | b<;>rw [a,b] at hd k ⊢<;>simp at hd k ⊢
 ·rw [e]
  refine ⟨by decide,fun h1=>?_,fun h1=>by simp at h1⟩
  rcases sgp_or h x with a | a | a<;>rcases sgp_or h y with b | b | b<;>rw [a,b] at hd k h1<;>simp at hd k h1
 ·exact absurd (one_const k x y) hd
theorem dk_dk (f:List Int) (m:Nat):∀ i,dk i (dk m f)=dk (m+i) f
 | 0=>rfl
 | i+1=>by rw [dk_out,dk_dk f m i,← dk_out];rfl
noncomputable def codeP (f:List Int) (x:Pt):List Int:=(ders f).map fun g=>sgp g x
theorem codeP_len (f:List Int) (x:Pt):(codeP f x).length=plen f-1:=by
 unfold codeP
 rw [List.length_map]
 exact dkl_len _ _
theorem codeP_get (f:List Int) (x:Pt) {j:Nat} (hj:j<plen f-1):(codeP f x).getD j 0=sgp (dk (j+1) f) x:=by
 unfold codeP ders dkl
 rw [List.map_map,List.getD_eq_getElem?_getD,List.getElem?_map,List.getElem?_range hj]
 rfl
theorem dk_out_z {j:Nat} (hj:plen f≤j) (x:Pt):sgp (dk j f) x=0:=sgp_zero (by rw [dk_plen];omega) x
theorem codeP_nsg (f:List Int) (x:Pt):(codeP f x).any nsg=false:=any_not fun j hj=>by
 rw [codeP_len] at hj
 rw [codeP_get f x hj]
 rcases sgp_or (dk (j+1) f) x with e | e | e<;>rw [e]<;>rfl
theorem code_ord (h0:plen f≠0) (hx:sgp f x=0) (hy:sgp f y=0) (hxy:x<y):rul (codeP f x) (codeP f y)=(-1,0):=by
 have h2:2≤plen f:=by
  by_cases c:plen f=1
  ·rw [sgp_one c] at hx
   exact absurd hx (sg_ne (plead_ne h0))
  ·omega
 have same:∀ j,lsd (codeP f x) (codeP f y) (plen f-1)≤j→sgp (dk (j+1) f) x=sgp (dk (j+1) f) y:=fun j hj=>by
  by_cases c:j<plen f-1
  ·have:=lsd_eq hj c
   rwa [codeP_get f x c,codeP_get f y c] at this
  ·rw [dk_out_z (by omega),dk_out_z (by omega)]
 unfold rul
 rw [codeP_len,codeP_len,codeP_nsg,codeP_nsg,if_neg (by simp)]
 by_cases c0:lsd (codeP f x) (codeP f y) (plen f-1)=0
 ·exfalso
  have k:=thom_same hxy (plen f) f (Nat.le_refl _) fun i=>by
   match i with
   | 0=>exact hx.trans hy.symm
   | i+1=>exact same i (by omega)
  exact h0 (zero_all hxy fun z z1 z2=>(k z z1 z2).trans hx)
 rw [if_neg c0]
 obtain ⟨m,hm⟩:∃ m,lsd (codeP f x) (codeP f y) (plen f-1)=m+1:=⟨lsd (codeP f x) (codeP f y) (plen f-1)-1,by omega⟩
 have hle:=lsd_le (codeP f x) (codeP f y) (plen f-1)
 have hne:=lsd_ne hm
 rw [hm] at same hle ⊢
 rw [codeP_get f x (by omega),codeP_get f y (by omega)] at hne
 have e:pder (dk (m+1) f)=dk (m+2) f:=(dk_out (m+1) f).symm
 obtain ⟨k1,k2⟩:=thom_ord (h:=dk (m+1) f) hxy (fun i=>by
  rw [e,dk_dk]
  have:=same (m+1+i) (by omega)
  rwa [show m+1+i+1=m+2+i by omega] at this) hne
 rw [e] at k1 k2
 have hlt:m+1<plen f-1:=by
  by_cases c:m+1=plen f-1
  ·exact absurd (dk_out_z (f:=f) (j:=m+2) (by omega) x) k1
  ·omega
 rw [codeP_get f x hlt,show m+1-1=m by omega,codeP_get f x (by omega),codeP_get f y (by omega),if_neg (by rintro (c | c);omega;exact k1 c),if_pos k2]
theorem lsd_self (a:List Int):∀ n,lsd a a n=0
 | 0=>rfl
 | n+1=>by rw [lsd_suc,if_pos rfl];exact lsd_self a n
theorem code_self (f:List Int) (x:Pt):rul (codeP f x) (codeP f x)=(0,0):=by
 unfold rul
 rw [codeP_nsg,lsd_self,if_neg (by simp),if_pos rfl]
theorem code_swap (h0:plen f≠0) (hx:sgp f x=0) (hy:sgp f y=0) (hxy:y<x):rul (codeP f x) (codeP f y)=(1,0):=by
 have h:=code_ord h0 hy hx hxy
 have:=rul_swap (a:=codeP f y) (b:=codeP f x) (by rw [h])
 rw [this,h];rfl
theorem S6.codes_get (h:S6 f) {xs:List Pt} (hx:RF f xs (proots f)) {k:Nat} (hk:k<(proots f).length) (hg:∀ j,j<(ders f).length→G6 ((ders f).getD j [])):(codes f).getD k []=codeP f (xs.getD k default):=by
 unfold codes codeP
 rw [tabl_get f _ hk]
 refine List.map_congr_left fun g hgm=>?_
 obtain ⟨j,hj,e⟩:=List.getElem_of_mem hgm
 have:=hg j hj
 rw [List.getD_eq_getElem?_getD,List.getElem?_eq_getElem hj] at this
 have g6:G6 g:=by rw [← e];exact this
 exact h.sgk hx hk g6
end
end Go.Proofs.YtbfddopopajgaaaGreat
namespace Go.Proofs.YtbfddopopajgaaaGreat
open Go Go.RowKit
set_option maxRecDepth 100000 in
set_option maxHeartbeats 4000000 in
theorem equal_any {w:World} {A B:Option Addr} {l c m d:Nat} {p q:List Int} (ha:I64At w A l c p) (hb:I64At w B m d q) (hl:l≤1000000) (hm:m≤1000000) :
  Calls Tryz.prog 87 #[.slice A l c,.slice B m d] w fun e w'=>e=.returned (.bool (decide (p=q)))∧Below w.heap.size w w':=by
 have HA:=Lib.hid ha
 have HB:=Lib.hid hb
 have lp:=ha.length
 have lq:=hb.length
 clear ha hb
 go_enter Tryz.func87,Tryz.ntmps87
 by_cases e0:l=m
 ·subst e0
  go_wp2_with fail
  go_loopw [13] (fun s5 wr=>∃ k:Nat,k≤l∧s5=.int .i64 (k:Int)∧Below w.heap.size w wr∧∀ j,j<k→p.getD j 0=q.getD j 0) (fun s5 _=>l-(intOf s5).toNat)
  case atStart=>exact ⟨0,Nat.zero_le _,rfl,Below.refl _ _,fun j hj=>by omega⟩
  case round =>
   obtain ⟨k,hk,rfl,hbw,hs⟩:=hrel
   have HS:=Lib.hid hs
   have HAr:=Lib.hid (HA.out.below hbw)
   have HBr:=Lib.hid (HB.out.below hbw)
   have Hbw:=Lib.hid hbw
   clear hs hbw
   by_cases hlt:k<l
   ·have ka:(k:Int)<(l:Int):=by omega
    have i1:IntKind.i64.wrap ((k:Int)+1)=(k:Int)+1:=IntWalk.i64_in _ (by omega)
    obtain ⟨b1,o1,rfl,_,x1⟩:=HAr.out.get hlt
    obtain ⟨b2,o2,rfl,_,x2⟩:=HBr.out.get hlt
    obtain ⟨u,hu⟩:∃ u,u=p.getD k 0:=⟨_,rfl⟩
    obtain ⟨v,hv⟩:∃ v,v=q.getD k 0:=⟨_,rfl⟩
    rw [← hu] at x1
    rw [← hv] at x2
    have HU:=Lib.hid (And.intro hu hv)
    have Hlt:=Lib.hid hlt
    clear hu hv
    by_cases e1:u=v
    ·have e2:(u != v)=false:=by rw [e1];simp
     have HE:=Lib.hid e1
     subst e1
     go_wp2_with fail
     go_region
     go_wp2_with fail
     go_roundw
     case rel=>exact ⟨k+1,Hlt.out,by go_num,Hbw.out.trans Bel.go,fun j hj=>by
      by_cases h:j=k
      ·rw [h,← HU.out.1,← HU.out.2]
      ·exact HS.out j (by omega)⟩
     case measure=>have:=Hlt.out;simp [intOf];omega
    ·have FX:=Lib.hid (show decide (p=q)=false from decide_eq_false fun e=>e1 (by rw [HU.out.1,HU.out.2,e]))
     have e2:(u == v)=false:=by simpa using e1
     clear hlt
     go_wp2_with fail
     go_region
     go_wp2_with fail
     go_ret
     exact ⟨by rw [FX.out];rfl,Hbw.out.trans Bel.go⟩
   ·have hk2:k=l:=by omega
    have t1:¬ (k:Int)<(l:Int):=by omega
    have FX:=Lib.hid (show decide (p=q)=true from decide_eq_true (list_ext (by omega) fun j hj=>HS.out j (by omega)))
    clear hlt hk2
    go_wp2_with fail
    go_ret
    exact ⟨by rw [FX.out];rfl,Hbw.out⟩
 ·have FX:=Lib.hid (show decide (p=q)=false from decide_eq_false fun e=>e0 (by rw [← lp,← lq,e]))
  have e1:((l:Int) == (m:Int))=false:=by rw [beq_eq_false_iff_ne];omega
  have e2:¬ (l:Int)=(m:Int):=by omega
  go_wp2_with fail
  go_ret
  exact ⟨by rw [FX.out];rfl,Below.refl _ _⟩
def ordI (i k:Int):Int:=if i<k then -1 else if k<i then 1 else 0
set_option maxHeartbeats 1000000 in
theorem order_any (i k:Int) (w:World):Calls Tryz.prog 43 #[.int .i64 i,.int .i64 k] w fun e w'=>e=.returned (.int .i64 (ordI i k))∧w'=w:=by
 obtain ⟨R,hR⟩:∃ R,R=ordI i k:=⟨_,rfl⟩
 rw [← hR]
 unfold ordI at hR
 go_enter Tryz.func43,Tryz.ntmps43
 by_cases h1:i<k
 ·rw [if_pos h1] at hR
  subst hR
  go_wp2
  go_ret
  exact ⟨rfl,rfl⟩
 ·rw [if_neg h1] at hR
  by_cases h2:k<i
  ·rw [if_pos h2] at hR
   subst hR
   go_wp2
   go_ret
   exact ⟨rfl,rfl⟩
  ·rw [if_neg h2] at hR
   subst hR
   go_wp2
   go_ret
   exact ⟨rfl,rfl⟩
def IdxOf (cs:List (List Int)) (c:List Int) (i:Int):Prop :=
 (i=-1∧∀ j,j<cs.length→cs.getD j []≠c)∨(∃ j:Nat,i=(j:Int)∧j<cs.length∧cs.getD j []=c)
def Dst (cs:List (List Int)):Prop:=∀ i j,i<cs.length→j<cs.length→cs.getD i []=cs.getD j []→i=j
theorem IdxOf.uniq {cs:List (List Int)} {c:List Int} {i k:Int} (hd:Dst cs) (h:IdxOf cs c i) (h':IdxOf cs c k):i=k:=by
 rcases h with ⟨e,h⟩ | ⟨j,e,hj,h⟩<;>rcases h' with ⟨e',h'⟩ | ⟨j',e',hj',h'⟩
 ·rw [e,e']
 ·exact absurd h' (h j' hj')
 ·exact absurd h (h' j hj)
 ·rw [e,e',hd j j' hj hj' (h.trans h'.symm)]
set_option maxRecDepth 100000 in
set_option maxHeartbeats 4000000 in
theorem find_any {w:World} {A:Option Addr} {l c:Nat} {cs:List (List Int)} {B:Option Addr} {m d:Nat} {q:List Int} (ha:SlE 1 CodR w A l c cs) (hb:I64At w B m d q) (hl:l≤1000) (hm:m≤1000) (hs:∀ j,j<cs.length→(cs.getD j []).length≤1000) :
  Calls Tryz.prog 41 #[.slice A l c,.slice B m d] w fun e w'=>(∃ i,e=.returned (.int .i64 i)∧IdxOf cs q i)∧Below w.heap.size w w':=by
 have HA:=Lib.hid ha
 have HB:=Lib.hid hb
 have lp:=ha.length
 clear ha hb
 go_enter Tryz.func41,Tryz.ntmps41
 go_wp2_with fail
 go_loopw [5] (fun s5 wr=>∃ k:Nat,k≤l∧s5=.int .i64 (k:Int)∧Below w.heap.size w wr∧∀ j,j<k→cs.getD j []≠q) (fun s5 _=>l-(intOf s5).toNat)
 case atStart=>exact ⟨0,Nat.zero_le _,rfl,Below.refl _ _,fun j hj=>by omega⟩
 case round =>
  obtain ⟨k,hk,rfl,hbw,hs'⟩:=hrel
  have HS:=Lib.hid hs'
  have HBr:=Lib.hid (HB.out.below hbw)
  have Hbw:=Lib.hid hbw
  by_cases hlt:k<l
  ·have ka:(k:Int)<(l:Int):=by omega
   have i1:IntKind.i64.wrap ((k:Int)+1)=(k:Int)+1:=IntWalk.i64_in _ (by omega)
   obtain ⟨b1,o1,A1,l1,c1,rfl,_,x1,h1⟩:=(HA.out.belowc hbw).getc hlt
   have hl1:l1≤1000:=by rw [← h1.length];exact hs k (by omega)
   have H1:=Lib.hid h1
   have Hlt:=Lib.hid hlt
   clear hs' hbw hlt h1
   go_wp2_with fail
   refine (same_any H1.out HBr.out (by omega) (by omega)).mono ?_
   rintro e w2 ⟨rfl,hb2⟩
   replace Hbw:=Lib.hid (Hbw.out.trans (hb2.mono Hbw.out.size))
   clear hb2 x1
   by_cases c0:cs.getD k []=q
   ·have FX:=Lib.hid (show IdxOf cs q (k:Int) from .inr ⟨k,rfl,by have:=Hlt.out;omega,c0⟩)
    rw [decide_eq_true c0]
    clear c0
    go_wp2_with fail
    go_ret
    exact ⟨⟨_,rfl,FX.out⟩,Hbw.out⟩
   ·have HC:=Lib.hid c0
    rw [decide_eq_false c0]
    clear c0
    go_wp2_with fail
    go_roundw
    case rel=>exact ⟨k+1,Hlt.out,by go_num,Hbw.out,fun j hj=>by
     by_cases h:j=k
     ·rw [h];exact HC.out
     ·exact HS.out j (by omega)⟩
    case measure=>have:=Hlt.out;simp [intOf];omega
  ·have hk2:k=l:=by omega
   have t1:¬ (k:Int)<(l:Int):=by omega
   have FX:=Lib.hid (show IdxOf cs q (-1) from .inl ⟨rfl,fun j hj=>HS.out j (by omega)⟩)
   clear hs' hbw hlt hk2
   go_wp2_with fail
   go_ret
   exact ⟨⟨_,rfl,FX.out⟩,Hbw.out⟩
def cmpI (i k:Int):Int×Int:=if i<0∨k<0 then (0,5) else (ordI i k,0)
def IdxK (cs:List (List Int)) (q:List Int) (k:Nat) (i:Int):Prop:=(i=-1∧∀ j,j<k→cs.getD j []≠q)∨(∃ j:Nat,i=(j:Int)∧j<k∧cs.getD j []=q)
theorem IdxK.yes {cs:List (List Int)} {q:List Int} {k:Nat} (h:cs.getD k []=q):IdxK cs q (k+1) (k:Int):=.inr ⟨k,rfl,by omega,h⟩
theorem IdxK.no {cs:List (List Int)} {q:List Int} {k:Nat} {i:Int} (hi:IdxK cs q k i) (h:cs.getD k []≠q):IdxK cs q (k+1) i:=by
 rcases hi with ⟨e,h1⟩ | ⟨j,e,hj,h1⟩
 ·refine .inl ⟨e,fun j hj=>?_⟩
  by_cases c:j=k
  ·rw [c];exact h
  ·exact h1 j (by omega)
 ·exact .inr ⟨j,e,by omega,h1⟩
def CmpE (cs:List (List Int)) (a b:List Int) (e:Ending):Prop:=∃ i k,IdxOf cs a i∧IdxOf cs b k∧e=.returned (.tuple #[.int .i64 (cmpI i k).1,.int .i64 (cmpI i k).2])
theorem codes_len9 {f:List Int} (h:S6 f):(codes f).length≤9:=by rw [codes_len];exact proots_le9 h.p9
theorem codes_row {f:List Int} (h:S6 f):∀ j,j<(codes f).length→((codes f).getD j []).length≤6:=fun j hj=>by
 rw [codes_len] at hj
 unfold codes
 rw [tabl_get f _ hj,List.length_map]
 have h1:(ders f).length=plen f-1:=dkl_len _ _
 have:=h.pl
 omega
set_option maxRecDepth 100000 in
set_option maxHeartbeats 8000000 in
theorem tcompare_any {w:World} {Af:Option Addr} {lf cf:Nat} {f:List Int} {A B:Option Addr} {l c m d:Nat} {a b:List Int} (hf:PolyN w Af lf cf f) (s6:S6 f) (ha:I64At w A l c a) (hb:I64At w B m d b) (hl:l≤1000) (hm:m≤1000) :
  Calls Tryz.prog 42 #[.slice Af lf cf,.slice A l c,.slice B m d] w fun e w'=>CmpE (codes f) a b e∧Below w.heap.size w w':=by
 have HP:=Lib.hid hf
 have HA:=Lib.hid ha
 have HB:=Lib.hid hb
 have S6H:=Lib.hid s6
 clear hf ha hb s6
 go_enter Tryz.func42,Tryz.ntmps42
 go_wp2_with fail
 refine (codes_any HP.out S6H.out).mono ?_
 rintro e w1 ⟨⟨A1,l1,c1,rfl,h1⟩,hb1⟩
 have hl9:=codes_len9 S6H.out
 have hrow:=codes_row S6H.out
 obtain ⟨cs,hcs⟩:∃ cs,cs=codes f:=⟨_,rfl⟩
 rw [← hcs] at h1 hl9 hrow
 have HCS:=Lib.hid hcs
 have HL:=Lib.hid h1
 have Hle:=Lib.hid h1.length
 have hl1:l1≤9:=by rw [← h1.length];exact hl9
 replace HA:=Lib.hid (HA.out.below hb1)
 replace HB:=Lib.hid (HB.out.below hb1)
 have Hb:=Lib.hid hb1
 have HR:=Lib.hid hrow
 clear h1 hb1 HP hcs hrow hl9
 obtain ⟨wo,hwo⟩:∃ wo,wo=w1:=⟨_,rfl⟩
 rw [← hwo] at HL HA HB Hb ⊢
 clear hwo
 go_wp2_with fail
 go_loopw [8,9,15] (fun s8 s9 s15 wr=>∃ (k:Nat) (i j:Int),k≤l1∧s15=.int .i64 (k:Int)∧s8=.int .i64 i∧s9=.int .i64 j∧IdxK cs a k i∧IdxK cs b k j∧Below wo.heap.size wo wr) (fun _ _ s15 _=>l1-(intOf s15).toNat)
 case atStart=>exact ⟨0,-1,-1,Nat.zero_le _,rfl,rfl,rfl,.inl ⟨rfl,fun j hj=>by omega⟩,.inl ⟨rfl,fun j hj=>by omega⟩,Bel.go⟩
 case round =>
  obtain ⟨k,i,j,hk,rfl,rfl,rfl,hi,hj,hbw⟩:=hrel
  have HI:=Lib.hid hi
  have HJ:=Lib.hid hj
  have Hbw:=Lib.hid hbw
  have HAr:=Lib.hid (HA.out.below hbw)
  have HBr:=Lib.hid (HB.out.below hbw)
  by_cases hlt:k<l1
  ·have ka:(k:Int)<(l1:Int):=by omega
   have i1:IntKind.i64.wrap ((k:Int)+1)=(k:Int)+1:=IntWalk.i64_in _ (by omega)
   obtain ⟨b1,o1,A2,l2,c2,rfl,_,x1,h2⟩:=(HL.out.belowc hbw).getc hlt
   have hl2:l2≤6:=by rw [← h2.length];exact HR.out k (by have:=Hle.out;omega)
   have H2:=Lib.hid h2
   have Hlt:=Lib.hid hlt
   clear hi hj hbw hlt h2
   go_wp2_with fail
   refine (equal_any H2.out HAr.out (by omega) (by omega)).mono ?_
   rintro e w2 ⟨rfl,hb2⟩
   replace H2:=Lib.hid (H2.out.below hb2)
   replace HBr:=Lib.hid (HBr.out.below hb2)
   replace Hbw:=Lib.hid (Hbw.out.trans (hb2.mono Hbw.out.size))
   clear hb2 x1 HAr
   by_cases c0:cs.getD k []=a
   ·have HI2:=Lib.hid (IdxK.yes c0)
    rw [decide_eq_true c0]
    clear c0 HI
    go_wp2_with fail
    refine (equal_any H2.out HBr.out (by omega) (by omega)).mono ?_
    rintro e w3 ⟨rfl,hb3⟩
    replace Hbw:=Lib.hid (Hbw.out.trans (hb3.mono Hbw.out.size))
    clear hb3
    by_cases c1:cs.getD k []=b
    ·have HJ2:=Lib.hid (IdxK.yes c1)
     rw [decide_eq_true c1]
     clear c1 HJ
     go_wp2_with fail
     go_roundw
     case rel=>exact ⟨k+1,k,k,Hlt.out,by go_num,rfl,rfl,HI2.out,HJ2.out,Hbw.out⟩
     case measure=>have:=Hlt.out;simp [intOf];omega
    ·have HJ2:=Lib.hid (HJ.out.no c1)
     rw [decide_eq_false c1]
     clear c1 HJ
     go_wp2_with fail
     go_roundw
     case rel=>exact ⟨k+1,k,j,Hlt.out,by go_num,rfl,rfl,HI2.out,HJ2.out,Hbw.out⟩
     case measure=>have:=Hlt.out;simp [intOf];omega
   ·have HI2:=Lib.hid (HI.out.no c0)
    rw [decide_eq_false c0]
    clear c0 HI
    go_wp2_with fail
    refine (equal_any H2.out HBr.out (by omega) (by omega)).mono ?_
    rintro e w3 ⟨rfl,hb3⟩
    replace Hbw:=Lib.hid (Hbw.out.trans (hb3.mono Hbw.out.size))
    clear hb3
    by_cases c1:cs.getD k []=b
    ·have HJ2:=Lib.hid (IdxK.yes c1)
     rw [decide_eq_true c1]
     clear c1 HJ
     go_wp2_with fail
     go_roundw
     case rel=>exact ⟨k+1,i,k,Hlt.out,by go_num,rfl,rfl,HI2.out,HJ2.out,Hbw.out⟩
     case measure=>have:=Hlt.out;simp [intOf];omega
    ·have HJ2:=Lib.hid (HJ.out.no c1)
     rw [decide_eq_false c1]
     clear c1 HJ
     go_wp2_with fail
     go_roundw
     case rel=>exact ⟨k+1,i,j,Hlt.out,by go_num,rfl,rfl,HI2.out,HJ2.out,Hbw.out⟩
     case measure=>have:=Hlt.out;simp [intOf];omega
  ·have hk2:k=l1:=by omega
   have t1:¬ (k:Int)<(l1:Int):=by omega
   have FI:=Lib.hid (show IdxOf (codes f) a i by
    have:=HI.out
    rw [hk2,← Hle.out,HCS.out] at this
    exact this)
   have FJ:=Lib.hid (show IdxOf (codes f) b j by
    have:=HJ.out
    rw [hk2,← Hle.out,HCS.out] at this
    exact this)
   replace Hb:=Lib.hid (Hb.out.trans (Hbw.out.mono Hb.out.size))
   clear hi hj hbw hlt hk2 HI HJ
   by_cases n1:i<0
   ·have FX:=Lib.hid (show cmpI i j=(0,5) by unfold cmpI;rw [if_pos (.inl n1)])
    go_wp2_with fail
    refine bodyPost_ret (v:=.tuple #[.int .i64 0,.int .i64 5]) (by simp [results,Tryz.results42,go_sem]) rfl ⟨⟨i,j,FI.out,FJ.out,by rw [FX.out]⟩,Hb.out⟩
   by_cases n2:j<0
   ·have FX:=Lib.hid (show cmpI i j=(0,5) by unfold cmpI;rw [if_pos (.inr n2)])
    go_wp2_with fail
    refine bodyPost_ret (v:=.tuple #[.int .i64 0,.int .i64 5]) (by simp [results,Tryz.results42,go_sem]) rfl ⟨⟨i,j,FI.out,FJ.out,by rw [FX.out]⟩,Hb.out⟩
   have FC:=Lib.hid (show cmpI i j=(ordI i j,0) by unfold cmpI;rw [if_neg (by omega)])
   by_cases n3:i<j
   ·have FX:=Lib.hid (show ordI i j=-1 by unfold ordI;rw [if_pos n3])
    go_wp2_with fail
    refine bodyPost_ret (v:=.tuple #[.int .i64 (-1),.int .i64 0]) (by simp [results,Tryz.results42,go_sem]) rfl ⟨⟨i,j,FI.out,FJ.out,by rw [FC.out,FX.out]⟩,Hb.out⟩
   by_cases n4:j<i
   ·have FX:=Lib.hid (show ordI i j=1 by unfold ordI;rw [if_neg n3,if_pos n4])
    go_wp2_with fail
    refine bodyPost_ret (v:=.tuple #[.int .i64 1,.int .i64 0]) (by simp [results,Tryz.results42,go_sem]) rfl ⟨⟨i,j,FI.out,FJ.out,by rw [FC.out,FX.out]⟩,Hb.out⟩
   have FX:=Lib.hid (show ordI i j=0 by unfold ordI;rw [if_neg n3,if_neg n4])
   go_wp2_with fail
   refine bodyPost_ret (v:=.tuple #[.int .i64 0,.int .i64 0]) (by simp [results,Tryz.results42,go_sem]) rfl ⟨⟨i,j,FI.out,FJ.out,by rw [FC.out,FX.out]⟩,Hb.out⟩
section
variable {f:List Int} {i k:Nat}
theorem rt_nz (hi:i<(codes f).length):plen f≠0:=S6.nz (by rw [← codes_len];exact hi)
theorem codes_rul (h:S6 f) (hi:i<(codes f).length) (hk:k<(codes f).length):rul ((codes f).getD i []) ((codes f).getD k [])=(ordI (i:Int) (k:Int),0):=by
 have h0:=rt_nz hi
 obtain ⟨xs,hx⟩:=rf_ex h.p9 h0
 rw [codes_len] at hi hk
 have hi':i<xs.length:=by rw [← hx.len];exact hi
 have hk':k<xs.length:=by rw [← hx.len];exact hk
 rw [h.codes_get hx hi h.ders_g6,h.codes_get hx hk h.ders_g6]
 unfold ordI
 by_cases c:i<k
 ·rw [if_pos (by omega),code_ord h0 (idx_root hx.lst hi') (idx_root hx.lst hk') (asc_get hx.lst.1 c hk')]
 ·rw [if_neg (by omega)]
  by_cases c2:k<i
  ·rw [if_pos (by omega),code_swap h0 (idx_root hx.lst hi') (idx_root hx.lst hk') (asc_get hx.lst.1 c2 hi')]
  ·rw [if_neg (by omega),show i=k by omega,code_self]
theorem codes_dst (h:S6 f):Dst (codes f):=fun i k hi hk e=>by
 have h1:=codes_rul h hi hk
 have h2:=codes_rul h hk hk
 rw [e,h2] at h1
 have h3:=congrArg Prod.fst h1
 unfold ordI at h3
 by_cases c:i<k
 ·rw [if_neg (by omega),if_neg (by omega),if_pos (by omega)] at h3;cases h3
 ·by_cases c2:k<i
  ·rw [if_neg (by omega),if_neg (by omega),if_neg (by omega),if_pos (by omega)] at h3;cases h3
  ·omega
end
end Go.Proofs.YtbfddopopajgaaaGreat
namespace Go.Proofs.YtbfddopopajgaaaGreat
open Go Go.RowKit
def RtEr (er:Int) (s:Fq×Fq) (e:Ending) (w:World):Prop :=
 ∃ n A l c B m d n' A' l' c' B' m' d',e=.returned (.tuple #[.agg #[.bool n,.slice A l c,.slice B m d,.bool n',.slice A' l' c',.slice B' m' d'],.int .i64 er])∧IntN w n A l c s.1.z∧NatN w B m d s.1.q∧IntN w n' A' l' c' s.2.z∧NatN w B' m' d' s.2.q
def z0q:Fq×Fq:=(⟨0,0⟩,⟨0,0⟩)
theorem intn_zeroT (w:World):IntN w false none 0 0 0:=⟨NatN.zero _ _ _,by simp⟩
def FindE (f c:List Int) (e:Ending) (w:World):Prop :=
 (∃ k,k<(proots f).length∧(codes f).getD k []=c∧RtEr 0 ((proots f).getD k r00) e w)∨((∀ j,j<(codes f).length→(codes f).getD j []≠c)∧RtEr 5 z0q e w)
theorem root_er {w w9:World} {g t:Nat} {r:Fq×Fq} {n:Bool} {A:Option Addr} {l c:Nat} {B:Option Addr} {m d:Nat} {n':Bool} {A':Option Addr} {l' c':Nat} {B':Option Addr} {m' d':Nat} (er:Int) (hw:Below w.heap.size w w9) (hk:Blk w9 g t rz6) (hg:w.heap.size≤g) (hz:IntN w9 n A l c r.1.z) (hq:NatN w9 B m d r.1.q) (hz':IntN w9 n' A' l' c' r.2.z) (hq':NatN w9 B' m' d' r.2.q) :
  RtEr er r (.returned (.tuple #[.agg #[.bool n,.slice A l c,.slice B m d,.bool n',.slice A' l' c',.slice B' m' d'],.int .i64 er])) (pu6 w9 g (.bool n) (.slice A l c) (.slice B m d) (.bool n') (.slice A' l' c') (.slice B' m' d'))∧Below w.heap.size w (pu6 w9 g (.bool n) (.slice A l c) (.slice B m d) (.bool n') (.slice A' l' c') (.slice B' m' d')):=by
 have hf:=pu6_frs w9 g (.bool n) (.slice A l c) (.slice B m d) (.bool n') (.slice A' l' c') (.slice B' m' d')
 have nd:=rz6_ndb hk
 exact ⟨⟨n,A,l,c,B,m,d,n',A',l',c',B',m',d',rfl,hz.frs hf nd nd,hq.frs hf nd nd,hz'.frs hf nd nd,hq'.frs hf nd nd⟩,hf.mono hw hg hg hw.size⟩
set_option maxRecDepth 100000 in
set_option maxHeartbeats 8000000 in
theorem tfind_any {w:World} {Af:Option Addr} {lf cf:Nat} {f:List Int} {Ac:Option Addr} {lc cc:Nat} {q:List Int} (hf:PolyN w Af lf cf f) (s6:S6 f) (hq:I64At w Ac lc cc q) (hlc:lc≤1000) :
  Calls Tryz.prog 39 #[.slice Af lf cf,.slice Ac lc cc] w fun e w'=>FindE f q e w'∧Below w.heap.size w w':=by
 have hlf:lf≤6:=by have:=hf.length;have:=s6.len;omega
 have o1:=below_new w rtObj
 have K3:Blk (w.alloc rtObj) w.heap.size 44 rz6:=Blk.new _ _ _
 have h9:=s6.p9
 have hq9:=s6.q9
 have hql:=s6.ql
 have hqlen:=s6.qlen
 have HP:=Lib.hid (hf.below ikN o1)
 have HC:=Lib.hid (hq.below o1)
 have K4:=Lib.hid K3
 have Hb:=Lib.hid o1
 have S6H:=Lib.hid s6
 have hlen6:=s6.len
 have HB:=Lib.hid s6.b
 obtain ⟨g3,hg3⟩:∃ g,g=w.heap.size:=⟨_,rfl⟩
 have HG3:=Lib.hid hg3
 have Hg:=Lib.hid (show w.heap.size≤g3 by omega)
 rw [← hg3] at K4
 clear hf s6 hq o1 K3 hg3
 go_enter Tryz.func39,Tryz.ntmps39
 go_wp2_with fail
 refine (part_q ikN _ _ _ f _ HP.out h9.cp.fit.smp (fun _=>h9.q) (by omega)).mono ?_
 rintro e w1 ⟨A1,l1,c1,rfl,h1,hb1⟩
 obtain ⟨Q,hQ⟩:∃ Q,Q=qpart f:=⟨_,rfl⟩
 rw [← hQ] at h1 hq9 hql hqlen
 have hl1:l1≤6:=by have:=h1.length;omega
 have HQ:=Lib.hid h1
 have HQe:=Lib.hid hQ
 replace HP:=Lib.hid (HP.out.below ikN hb1)
 replace HC:=Lib.hid (HC.out.below hb1)
 replace K4:=Lib.hid (K4.out.below hb1 K4.out.lt)
 replace Hb:=Lib.hid (Hb.out.trans (hb1.mono Hb.out.size))
 clear h1 hb1 hQ
 go_wp2_with fail
 refine (ders_any ikN HP.out hlen6 HB.out).mono ?_
 rintro e w2 ⟨⟨A2,l2,c2,rfl,h2⟩,hb2⟩
 have HG:=Lib.hid S6H.out.ders_g6
 have hl2:l2≤6:=by rw [← h2.length];exact S6H.out.ders_len
 have HL:=Lib.hid h2
 replace HP:=Lib.hid (HP.out.below ikN hb2)
 replace HQ:=Lib.hid (HQ.out.below ikN hb2)
 replace HC:=Lib.hid (HC.out.below hb2)
 replace K4:=Lib.hid (K4.out.below hb2 K4.out.lt)
 replace Hb:=Lib.hid (Hb.out.trans (hb2.mono Hb.out.size))
 clear h2 hb2
 go_wp2_with fail
 refine (roots_any ikN _ _ _ f _ HP.out h9.cp.fit.smp (fun _=>h9.q) (fun h=>SqF.of9 h9 h) (by omega)).mono ?_
 rintro e w3 ⟨⟨A3,l3,c3,rfl,h3⟩,hb3⟩
 have hn9:=proots_le9 h9
 have hcd:∀ k,k<(proots f).length→(codes f).getD k []=(ders f).map (sgA (qpart f) ((proots f).getD k r00)):=fun k hk=>tabl_get f _ hk
 have hcl:=codes_len f
 obtain ⟨RS,hRS⟩:∃ R,R=proots f:=⟨_,rfl⟩
 have hfq:=proots_fqb h9
 rw [← hRS] at h3 hn9 hfq hcd hcl
 rw [← HQe.out] at hcd
 have HCD:=Lib.hid hcd
 have HCL:=Lib.hid hcl
 have HRS:=Lib.hid hRS
 have Hrl:=Lib.hid h3.length
 have HR:=Lib.hid h3
 have Hfq:=Lib.hid hfq
 replace HQ:=Lib.hid (HQ.out.below ikN hb3)
 replace HL:=Lib.hid (HL.out.belowp hb3)
 replace HC:=Lib.hid (HC.out.below hb3)
 replace K4:=Lib.hid (K4.out.below hb3 K4.out.lt)
 replace Hb:=Lib.hid (Hb.out.trans (hb3.mono Hb.out.size))
 have hl3:l3≤9:=by rw [← h3.length];exact hn9
 clear hb3 h3 hRS hfq HP hcd hcl
 obtain ⟨wo,hwo⟩:∃ wo,wo=w3:=⟨_,rfl⟩
 rw [← hwo] at HR HQ Hb HL HC K4 ⊢
 clear hwo
 go_wp2_with fail
 go_loopw [17] (fun s17 wr=>∃ k:Nat,k≤l3∧s17=.int .i64 (k:Int)∧(∀ j,j<k→(codes f).getD j []≠q)∧Below wo.heap.size wo wr) (fun s17 _=>l3-(intOf s17).toNat)
 case atStart=>exact ⟨0,Nat.zero_le _,rfl,fun j hj=>absurd hj (Nat.not_lt_zero _),Bel.go⟩
 case round =>
  obtain ⟨k,hk,rfl,hno,hbw⟩:=hrel
  have HN:=Lib.hid hno
  have K4r:=Lib.hid (K4.out.below hbw K4.out.lt)
  by_cases hlt:k<l3
  ·have ka:(k:Int)<(l3:Int):=by omega
   have i1:IntKind.i64.wrap ((k:Int)+1)=(k:Int)+1:=IntWalk.i64_in _ (by omega)
   obtain ⟨b,o,rfl,hb0,hv⟩:∃ b o,A3=some ⟨b,o,none⟩∧b<wr.heap.size∧Vals wr b o RS:=by
    rcases (HR.out.below hbw).elems with ⟨h,_⟩ | h
    ·omega
    ·exact h
   have hkl:k<RS.length:=by rw [Hrl.out];exact hlt
   obtain ⟨n,A,l,c,B,m,d,n',A',l',c',B',m',d',e0,e1,e2,e3,e4,e5,z1,z2,z3,z4⟩:=hv.getv hkl
   obtain ⟨fa,fb⟩:=Hfq.out _ (getD_mem hkl r00)
   have hck:=HCD.out k hkl
   obtain ⟨r,hr⟩:∃ r,r=RS.getD k r00:=⟨_,rfl⟩
   rw [← hr] at z1 z2 z3 z4 fa fb hck
   have HRe:=Lib.hid hr
   have HKL:=Lib.hid hkl
   have HCK:=Lib.hid hck
   have jb:=below_new wr (tbox n A l c B m d n' A' l' c' B' m' d')
   have T:=Lib.hid (TBox.make z1 z2 z3 z4)
   replace K4r:=Lib.hid (K4r.out.below jb K4r.out.lt)
   have Hbw:=Lib.hid (hbw.trans (jb.mono hbw.size))
   have HQr:=Lib.hid ((HQ.out.below ikN hbw).below ikN jb)
   have HLr:=Lib.hid ((HL.out.belowp hbw).belowp jb)
   have HCr:=Lib.hid ((HC.out.below hbw).below jb)
   have x0:=T.out.r.c0;have x1:=T.out.r.c1;have x2:=T.out.r.c2;have x3:=T.out.c3;have x4:=T.out.c4;have x5:=T.out.c5
   have Hlt:=Lib.hid hlt
   clear z1 z2 z3 z4 hv hr hbw jb hlt hkl hk hck hno
   go_wp2_with fail
   refine (tsigns_any ikN (r:=r) HQr.out (by omega) hq9 hql HLr.out HG.out (by omega) T.out.r.hz T.out.r.hq T.out.hz T.out.hq fa fb).mono ?_
   rintro e w5 ⟨⟨A5,c5,rfl,h5⟩,hb5⟩
   rw [← HCK.out] at h5
   have H5:=Lib.hid h5
   replace HCr:=Lib.hid (HCr.out.below hb5)
   replace T:=Lib.hid (T.out.move hb5)
   replace K4r:=Lib.hid (K4r.out.below hb5 K4r.out.lt)
   replace Hbw:=Lib.hid (Hbw.out.trans (hb5.mono Hbw.out.size))
   clear h5 hb5 HQr HLr x0 x1 x2 x3 x4 x5
   go_wp2_with fail
   refine (equal_any H5.out HCr.out (by omega) (by omega)).mono ?_
   rintro e w6 ⟨rfl,hb6⟩
   replace T:=Lib.hid (T.out.move hb6)
   replace K4r:=Lib.hid (K4r.out.below hb6 K4r.out.lt)
   replace Hbw:=Lib.hid (Hbw.out.trans (hb6.mono Hbw.out.size))
   clear hb6 H5 HCr
   by_cases c0:(codes f).getD k []=q
   ·have HE:=Lib.hid c0
    rw [decide_eq_true c0]
    clear c0
    have FX:=Lib.hid (root_er (r:=r) 0 (Hb.out.trans (Hbw.out.mono Hb.out.size)) K4r.out Hg.out T.out.r.hz T.out.r.hq T.out.hz T.out.hq)
    have KK:=K4r.out
    have r0:=(KK.cell 0).trans rfl;have r1:=(KK.cell 1).trans rfl;have r2:=(KK.cell 2).trans rfl;have r3:=(KK.cell 3).trans rfl;have r4:=(KK.cell 4).trans rfl;have r5:=(KK.cell 5).trans rfl;have s0:=KK.frozen 0;have s1:=KK.frozen 1;have s2:=KK.frozen 2;have s3:=KK.frozen 3;have s4:=KK.frozen 4;have s5:=KK.frozen 5
    have x0:=T.out.r.c0;have x1:=T.out.r.c1;have x2:=T.out.r.c2;have x3:=T.out.c3;have x4:=T.out.c4;have x5:=T.out.c5
    clear KK K4r T Hbw
    rw [← HG3.out]
    go_wp2_with fail
    refine bodyPost_ret (v:=.tuple #[.agg #[.bool n,.slice A l c,.slice B m d,.bool n',.slice A' l' c',.slice B' m' d'],.int .i64 0]) (by simp [results,Tryz.results39,go_sem,r0,r1,r2,r3,r4,r5]) rfl ⟨.inl ⟨k,by rw [← HRS.out];exact HKL.out,HE.out,by rw [← HRS.out,← HRe.out];exact FX.out.1⟩,FX.out.2⟩
   ·have HE:=Lib.hid c0
    rw [decide_eq_false c0]
    clear c0 T K4r
    go_wp2_with fail
    go_roundw
    case rel=>exact ⟨k+1,Hlt.out,by go_num,fun j hj=>by
     by_cases h:j=k
     ·rw [h];exact HE.out
     ·exact HN.out j (by omega),Hbw.out⟩
    case measure=>have:=Hlt.out;simp [intOf];omega
  ·have hk2:k=l3:=by omega
   have t1:¬ (k:Int)<(l3:Int):=by omega
   have FN:=Lib.hid (show ∀ j,j<(codes f).length→(codes f).getD j []≠q from fun j hj=>HN.out j (by rw [hk2,← Hrl.out,← HCL.out];exact hj))
   have FX:=Lib.hid (root_er (r:=z0q) 5 (Hb.out.trans (hbw.mono Hb.out.size)) K4r.out Hg.out (intn_zeroT _) (NatN.zero _ none 0) (intn_zeroT _) (NatN.zero _ none 0))
   have KK:=K4r.out
   have r0:=(KK.cell 0).trans rfl;have r1:=(KK.cell 1).trans rfl;have r2:=(KK.cell 2).trans rfl;have r3:=(KK.cell 3).trans rfl;have r4:=(KK.cell 4).trans rfl;have r5:=(KK.cell 5).trans rfl;have s0:=KK.frozen 0;have s1:=KK.frozen 1;have s2:=KK.frozen 2;have s3:=KK.frozen 3;have s4:=KK.frozen 4;have s5:=KK.frozen 5
   clear KK K4r hno hbw hk2 hlt
   rw [← HG3.out]
   go_wp2_with fail
   refine bodyPost_ret (v:=.tuple #[.agg rz6,.int .i64 5]) (by simp [results,Tryz.results39,go_sem,r0,r1,r2,r3,r4,r5]) rfl ⟨.inr ⟨FN.out,FX.out.1⟩,FX.out.2⟩
end Go.Proofs.YtbfddopopajgaaaGreat
namespace Go.Proofs.YtbfddopopajgaaaGreat
open Go Go.RowKit
variable {f:List Int}
structure Quad (W:World) (g:Nat) (x0 x1 x2 x3:Int):Prop where
 c0:W.cell? ⟨g,0,none⟩=some (.int .i8 x0)
 c1:W.cell? ⟨g,1,none⟩=some (.int .i8 x1)
 c2:W.cell? ⟨g,2,none⟩=some (.int .i8 x2)
 c3:W.cell? ⟨g,3,none⟩=some (.int .i8 x3)
 lt:g<W.heap.size
theorem Quad.move {W W':World} {g:Nat} {x0 x1 x2 x3:Int} (h:Quad W g x0 x1 x2 x3) (hb:Below W.heap.size W W'):Quad W' g x0 x1 x2 x3 :=
 ⟨(hb.cell (p:=⟨g,0,none⟩) h.lt).trans h.c0,(hb.cell (p:=⟨g,1,none⟩) h.lt).trans h.c1,(hb.cell (p:=⟨g,2,none⟩) h.lt).trans h.c2,(hb.cell (p:=⟨g,3,none⟩) h.lt).trans h.c3,Nat.lt_of_lt_of_le h.lt hb.size⟩
theorem Quad.make (W:World) (x0 x1 x2 x3:Int) (t:TypeId):Quad (W.alloc (.cells #[.int .i8 x0,.int .i8 x1,.int .i8 x2,.int .i8 x3] t)) W.heap.size x0 x1 x2 x3:=⟨by go_simp,by go_simp,by go_simp,by go_simp,by simp⟩
theorem vld_one (h9:P9 f) {a b:Fq} (ha:0<a.q) (hb:0<b.q):vld 1 f a b=vld 2 f a b:=by
 unfold vld
 by_cases h0:plen f<1
 ·rw [if_pos h0,if_pos (by omega)]
 rw [if_neg h0]
 by_cases h2:plen f<2
 ·rw [if_pos h2]
  have h1:plen f=1:=by omega
  have ea:a.sgn f≠0:=by rw [sgn_pt ha];exact no_roots h1 _
  have eb:b.sgn f≠0:=by rw [sgn_pt hb];exact no_roots h1 _
  by_cases c:a.z*(b.q:Int)<b.z*(a.q:Int)
  ·rw [if_pos c,if_neg ea,if_neg eb]
   have e:fcount f a b=0:=by
    unfold fcount
    rw [ncount_half h9 (by omega) ha hb c (xs:=[]) ⟨List.Pairwise.nil,fun x=>⟨fun h=>by simp at h,fun h=>absurd h.1 (no_roots h1 x)⟩⟩]
    rfl
   rw [e];rfl
  ·rw [if_neg c]
   split
   ·rfl
   ·rw [beq_eq_false_iff_ne];exact ea
 ·rw [if_neg h2]
end Go.Proofs.YtbfddopopajgaaaGreat
namespace Go.Proofs.YtbfddopopajgaaaGreat
open Go Go.RowKit
theorem root_facts {f:List Int} (h:S6 f) {k:Nat} (hk:k<(proots f).length):FqB ((proots f).getD k r00).1∧FqB ((proots f).getD k r00).2∧vld 1 f ((proots f).getD k r00).1 ((proots f).getD k r00).2=true∧nbelow f ((proots f).getD k r00).1.z ((proots f).getD k r00).1.q=(k:Int):=by
 have h0:=S6.nz hk
 obtain ⟨xs,hx⟩:=rf_ex h.p9 h0
 have hk':k<xs.length:=by rw [← hx.len];exact hk
 obtain ⟨fa,fb⟩:=hx.fa hk'
 exact ⟨fa,fb,by rw [vld_one h.p9 fa.p fb.p];exact hx.vld h.p9 h0 hk',hx.below_lo h.p9 h0 hk'⟩
end Go.Proofs.YtbfddopopajgaaaGreat
namespace Go.Proofs.YtbfddopopajgaaaGreat
open Go Go.RowKit
set_option maxRecDepth 100000 in
set_option maxHeartbeats 2000000 in
theorem parts0_any (n:Bool) (A:Option Addr) (l c:Nat) (B:Option Addr) (m d:Nat) (w:World) (hq:NatAt w B m d 0) :
  Calls Tryz.prog 72 #[.agg #[.bool n,.slice A l c,.slice B m d]] w fun e w'=>(∃ n' A' l' c',e=.returned (.tuple #[.agg #[.bool false,.slice none 0 0],.agg #[.bool n',.slice A' l' c']]))∧Below w.heap.size w w':=by
 have hb0:Below w.heap.size w (((w.alloc (rbox n A l c B m d)).alloc (ibox false none 0 0)).alloc (ibox false none 0 0)):=below_three w _ _ _ (Nat.le_refl _)
 have hq1:=hq.below hb0
 have k2:Blk ((w.alloc (rbox n A l c B m d)).alloc (ibox false none 0 0)) (w.alloc (rbox n A l c B m d)).heap.size 40 #[.bool false,.slice none 0 0]:=Blk.new _ _ _
 have k3:Blk (((w.alloc (rbox n A l c B m d)).alloc (ibox false none 0 0)).alloc (ibox false none 0 0)) ((w.alloc (rbox n A l c B m d)).alloc (ibox false none 0 0)).heap.size 40 #[.bool false,.slice none 0 0]:=Blk.new _ _ _
 replace k2:=k2.below (below_new ((w.alloc (rbox n A l c B m d)).alloc (ibox false none 0 0)) (ibox false none 0 0)) k2.lt
 simp only [World.size_alloc] at k2 k3
 have K2:=Lib.hid k2
 have K3:=Lib.hid k3
 have Hb0:=Lib.hid hb0
 have hs:Sm 0:=by show dlen 0≤_;rw [dlen_zero];omega
 clear hq hb0 k2 k3
 go_enter Tryz.func72,Tryz.ntmps72
 go_wp2_with fail
 refine (isZero_any _ _ _ _ _ hq1 hs).mono ?_
 rintro e w1 ⟨rfl,rfl⟩
 clear hq1
 go_wp2_with fail
 refine (iof_any 1 _ (by unfold I64;omega)).mono ?_
 rintro e w2 ⟨n2,A2,l2,c2,rfl,h2,hb2⟩
 have k2:=K2.out.below hb2 K2.out.lt
 have k3:=K3.out.below hb2 K3.out.lt
 have a0:=(k2.cell 0).trans rfl
 have a1:=(k2.cell 1).trans rfl
 have a2:=k2.frozen 0
 have a3:=k2.frozen 1
 have a4:=(k3.cell 0).trans rfl
 have a5:=(k3.cell 1).trans rfl
 have a6:=k3.frozen 0
 have a7:=k3.frozen 1
 have HX:=Lib.hid (((((Hb0.out.trans (hb2.mono Hb0.out.size)).setCell (p:=⟨w.heap.size+1,0,none⟩) (by simp) (.bool false)).setCell (p:=⟨w.heap.size+1,1,none⟩) (by simp) (.slice none 0 0)).setCell (p:=⟨w.heap.size+1+1,0,none⟩) (by simp<;>omega) (.bool n2)).setCell (p:=⟨w.heap.size+1+1,1,none⟩) (by simp<;>omega) (.slice A2 l2 c2))
 clear k2 k3 K2 K3 h2 hb2 hs
 go_wp2_with fail
 refine bodyPost_ret (v:=.tuple #[.agg #[.bool false,.slice none 0 0],.agg #[.bool n2,.slice A2 l2 c2]]) (by simp [results,Tryz.results72,go_sem,a0,a1,a4,a5]) rfl ⟨⟨_,_,_,_,rfl⟩,HX.out⟩
set_option maxRecDepth 100000 in
set_option maxHeartbeats 2000000 in
theorem rsign0_any (n:Bool) (A:Option Addr) (l c:Nat) (B:Option Addr) (m d:Nat) (w:World) (hq:NatAt w B m d 0) :
  Calls Tryz.prog 36 #[.agg #[.bool n,.slice A l c,.slice B m d]] w fun e w'=>e=.returned (.int .i64 0)∧Below w.heap.size w w':=by
 have hb0:Below w.heap.size w (w.alloc (rbox n A l c B m d)):=(Below.refl _ _).alloc (Nat.le_refl _) _
 have hq1:=hq.below hb0
 have Hb0:=Lib.hid hb0
 clear hq hb0
 go_enter Tryz.func36,Tryz.ntmps36
 go_wp2_with fail
 refine (parts0_any _ _ _ _ _ _ _ _ hq1).mono ?_
 rintro e w1 ⟨⟨n1,A1,l1,c1,rfl⟩,hb1⟩
 have hb2:Below w1.heap.size w1 ((w1.alloc (ibox false none 0 0)).alloc (ibox n1 A1 l1 c1)):=below_two w1 _ _ (Nat.le_refl _)
 have Hb1:=Lib.hid (Hb0.out.trans (hb1.mono Hb0.out.size))
 have Hb2:=Lib.hid (Hb1.out.trans (hb2.mono Hb1.out.size))
 clear hq1 hb1 hb2
 go_wp2_with fail
 refine (isign_any _ _ _ _ 0 _ (IntN.at_ ⟨NatN.zero _ _ _,by simp⟩) SmI.zero).mono ?_
 rintro e w2 ⟨rfl,rfl⟩
 go_wp2
 go_ret
 exact ⟨rfl,Hb2.out.alloc Hb2.out.size _⟩
end Go.Proofs.YtbfddopopajgaaaGreat
namespace Go.Proofs.YtbfddopopajgaaaGreat
open Go Go.RowKit
theorem cmpI_none {i k:Int} (h:i<0∨k<0):cmpI i k=(0,5):=by unfold cmpI;rw [if_pos h]
theorem cmpI_ord {i k:Int} (h:¬ i<0) (h':¬ k<0):cmpI i k=(ordI i k,0):=by unfold cmpI;rw [if_neg (by omega)]
set_option maxRecDepth 100000 in
set_option maxHeartbeats 16000000 in
theorem law_misses (A:Option Addr) (la ca:Nat) (cs:List Int) (B:Option Addr) (lb cb:Nat) (p:List Int) (C:Option Addr) (lc cc:Nat) (q:List Int) (w:World) (h:I16At w A la ca cs) (h2:I8At w B lb cb p) (h3:I8At w C lc cc q) (hlm:la≤9223372036854775807) :
  Calls Tryz.prog 9 #[.slice A la ca,.slice B lb cb,.slice C lc cc] w fun e w'=>e=.returned (.bool true)∧Below w.heap.size w w':=by
 have sF:=short_s6 h (show 5≤6 by omega)
 obtain ⟨F,hF⟩:∃ F,F=ptrim (cs.take 5):=⟨_,rfl⟩
 rw [← hF] at sF
 have HFe:=Lib.hid hF.symm
 have SF:=Lib.hid sF
 have Hi:=Lib.hid h
 have HBp:=Lib.hid h2
 have HCq:=Lib.hid h3
 clear h h2 h3 hF sF
 go_enter Tryz.func9,Tryz.ntmps9
 go_wp2_with fail
 refine (awake19_any _).mono ?_
 rintro e w1 ⟨rfl,hb1⟩
 replace Hi:=Lib.hid (Hi.out.below hb1)
 replace HBp:=Lib.hid (HBp.out.below hb1)
 replace HCq:=Lib.hid (HCq.out.below hb1)
 have Hb:=Lib.hid hb1
 clear hb1
 go_wp2_with fail
 refine (short_any _ _ _ 5 _ _ Hi.out (by omega) hlm).mono ?_
 rintro e w2 ⟨Af,lf,cf,rfl,h2f,hb2⟩
 rw [HFe.out] at h2f
 have hlf:lf≤6:=by have:=h2f.length;have:=SF.out.len;omega
 have HP:=Lib.hid h2f
 replace HBp:=Lib.hid (HBp.out.below hb2)
 replace HCq:=Lib.hid (HCq.out.below hb2)
 replace Hb:=Lib.hid (Hb.out.trans (hb2.mono Hb.out.size))
 clear hb2 h2f Hi
 go_wp2_with fail
 refine (wide_any (n:=6) HBp.out (by omega)).mono ?_
 rintro e w3 ⟨⟨A3,l3,c3,rfl,h3⟩,hb3⟩
 obtain ⟨X,hX⟩:∃ X,X=p.take 6:=⟨_,rfl⟩
 rw [← hX] at h3
 have hl3:l3≤6:=by rw [← h3.length,hX,List.length_take];omega
 have HX:=Lib.hid h3
 replace HP:=Lib.hid (HP.out.below ikN hb3)
 replace HCq:=Lib.hid (HCq.out.below hb3)
 replace Hb:=Lib.hid (Hb.out.trans (hb3.mono Hb.out.size))
 clear hb3 h3 hX HBp
 go_wp2_with fail
 refine (wide_any (n:=6) HCq.out (by omega)).mono ?_
 rintro e w4 ⟨⟨A4,l4,c4,rfl,h4⟩,hb4⟩
 obtain ⟨Y,hY⟩:∃ Y,Y=q.take 6:=⟨_,rfl⟩
 rw [← hY] at h4
 have hl4:l4≤6:=by rw [← h4.length,hY,List.length_take];omega
 have HY:=Lib.hid h4
 replace HP:=Lib.hid (HP.out.below ikN hb4)
 replace HX:=Lib.hid (HX.out.below hb4)
 replace Hb:=Lib.hid (Hb.out.trans (hb4.mono Hb.out.size))
 clear hb4 h4 hY HCq
 go_wp2_with fail
 refine (codes_any HP.out SF.out).mono ?_
 rintro e w5 ⟨⟨A5,l5,c5,rfl,h5⟩,hb5⟩
 have hl9:=codes_len9 SF.out
 have hrow:=codes_row SF.out
 have hdst:=codes_dst SF.out
 have hcl:=codes_len F
 obtain ⟨ls,hls⟩:∃ ls,ls=codes F:=⟨_,rfl⟩
 rw [← hls] at h5 hl9 hrow hdst hcl
 have HLS:=Lib.hid hls
 have HL:=Lib.hid h5
 have hl5:l5≤9:=by rw [← h5.length];exact hl9
 have HR:=Lib.hid (show ∀ j,j<ls.length→(ls.getD j []).length≤1000 from fun j hj=>by have:=hrow j hj;omega)
 have HD:=Lib.hid hdst
 have HCL:=Lib.hid hcl
 replace HX:=Lib.hid (HX.out.below hb5);replace HY:=Lib.hid (HY.out.below hb5);replace HP:=Lib.hid (HP.out.below ikN hb5);replace Hb:=Lib.hid (Hb.out.trans ((hb5).mono Hb.out.size))
 clear h5 hb5 hls hrow hdst hl9 hcl
 go_wp2_with fail
 refine (find_any HL.out HX.out (by omega) (by omega) HR.out).mono ?_
 rintro e w6 ⟨⟨i,rfl,hi⟩,hb6⟩
 have HI:=Lib.hid hi
 replace HL:=Lib.hid (HL.out.belowc hb6)
 replace HX:=Lib.hid (HX.out.below hb6);replace HY:=Lib.hid (HY.out.below hb6);replace HP:=Lib.hid (HP.out.below ikN hb6);replace Hb:=Lib.hid (Hb.out.trans ((hb6).mono Hb.out.size))
 clear hb6 hi
 go_wp2_with fail
 refine (find_any HL.out HY.out (by omega) (by omega) HR.out).mono ?_
 rintro e w7 ⟨⟨k,rfl,hk⟩,hb7⟩
 have HK:=Lib.hid hk
 replace HX:=Lib.hid (HX.out.below hb7);replace HY:=Lib.hid (HY.out.below hb7);replace HP:=Lib.hid (HP.out.below ikN hb7);replace Hb:=Lib.hid (Hb.out.trans ((hb7).mono Hb.out.size))
 clear hb7 hk HL
 go_wp2_with fail
 refine (tfind_any HP.out SF.out HX.out (by omega)).mono ?_
 rintro e w8 ⟨hf,hb8⟩
 unfold FindE at hf;rw [← HLS.out] at hf
 replace HX:=Lib.hid (HX.out.below hb8);replace HY:=Lib.hid (HY.out.below hb8);replace HP:=Lib.hid (HP.out.below ikN hb8);replace Hb:=Lib.hid (Hb.out.trans ((hb8).mono Hb.out.size))
 clear hb8
 have hu:∀ {r:Int},IdxOf ls X r→r=i:=fun hr=>hr.uniq HD.out HI.out
 have hu2:∀ {r:Int},IdxOf ls Y r→r=k:=fun hr=>hr.uniq HD.out HK.out
 have HU:=Lib.hid (And.intro @hu @hu2)
 clear hu hu2
 rcases hf with ⟨j,hj,hc,hr⟩ | ⟨hno,hr⟩
 ·have hij:IdxOf ls X (j:Int):=.inr ⟨j,rfl,by rw [HCL.out];exact hj,hc⟩
  have eij:(j:Int)=i:=HU.out.1 hij
  obtain ⟨fa,fb,hv,_⟩:=root_facts SF.out hj
  obtain ⟨n,A7,l7,c7,B7,m,d,n',A8,l8,c8,B8,m',d',rfl,z1,z2,z3,z4⟩:=hr
  have jb:=below_new w8 (tbox n A7 l7 c7 B7 m d n' A8 l8 c8 B8 m' d')
  have T:=Lib.hid (TBox.make z1 z2 z3 z4)
  replace HX:=Lib.hid (HX.out.below jb);replace HY:=Lib.hid (HY.out.below jb);replace HP:=Lib.hid (HP.out.below ikN jb);replace Hb:=Lib.hid (Hb.out.trans ((jb).mono Hb.out.size))
  have HV:=Lib.hid hv
  have ni:¬ i<0:=by omega
  have g1:decide (i<0)=false:=decide_eq_false ni
  have g3:decide (0≤i)=true:=decide_eq_true (by omega)
  clear z1 z2 z3 z4 jb hv hij eij hc hj
  have x0:=T.out.r.c0;have x1:=T.out.r.c1;have x2:=T.out.r.c2;have x3:=T.out.c3;have x4:=T.out.c4;have x5:=T.out.c5
  go_wp2_with fail
  refine (tcompare_any HP.out SF.out HX.out HY.out (by omega) (by omega)).mono ?_
  rintro e w9 ⟨⟨i',k',hi',hk',he⟩,hb9⟩
  rw [← HLS.out] at hi' hk'
  rw [HU.out.1 hi',HU.out.2 hk'] at he
  replace T:=Lib.hid (T.out.move hb9)
  replace HX:=Lib.hid (HX.out.below hb9);replace HY:=Lib.hid (HY.out.below hb9);replace HP:=Lib.hid (HP.out.below ikN hb9);replace Hb:=Lib.hid (Hb.out.trans ((hb9).mono Hb.out.size))
  clear hb9 hi' hk' HX HY
  by_cases nk:k<0
  ·have g2:decide (k<0)=true:=decide_eq_true nk
   rw [cmpI_none (.inr nk)] at he
   have he2:e=.returned (.tuple #[.int .i64 0,.int .i64 5]):=he
   subst he2
   clear he x0 x1 x2 x3 x4 x5
   have x0:=T.out.r.c0;have x1:=T.out.r.c1;have x2:=T.out.r.c2;have x3:=T.out.c3;have x4:=T.out.c4;have x5:=T.out.c5
   go_wp2_with fail
   refine (lawvalid_any ikN _ _ _ F ((proots F).getD j r00).1 ((proots F).getD j r00).2 _ _ _ _ _ _ _ _ _ _ _ _ _ _ _ HP.out (by have:=SF.out.len;omega) SF.out.p9 T.out.r.hz T.out.r.hq T.out.hz T.out.hq fa fb).mono ?_
   rintro e w10 ⟨rfl,hb10⟩
   rw [HV.out]
   replace Hb:=Lib.hid (Hb.out.trans (hb10.mono Hb.out.size))
   clear hb10 x0 x1 x2 x3 x4 x5 T HP
   go_wp2_with fail;go_ret;exact ⟨by first | rfl | simp,Hb.out⟩
  ·have g2:decide (k<0)=false:=decide_eq_false nk
   rw [cmpI_ord (by omega) (by omega)] at he
   have he2:e=.returned (.tuple #[.int .i64 (ordI i k),.int .i64 0]):=he
   subst he2
   clear he x0 x1 x2 x3 x4 x5
   have x0:=T.out.r.c0;have x1:=T.out.r.c1;have x2:=T.out.r.c2;have x3:=T.out.c3;have x4:=T.out.c4;have x5:=T.out.c5
   go_wp2_with fail
   refine (lawvalid_any ikN _ _ _ F ((proots F).getD j r00).1 ((proots F).getD j r00).2 _ _ _ _ _ _ _ _ _ _ _ _ _ _ _ HP.out (by have:=SF.out.len;omega) SF.out.p9 T.out.r.hz T.out.r.hq T.out.hz T.out.hq fa fb).mono ?_
   rintro e w10 ⟨rfl,hb10⟩
   rw [HV.out]
   replace Hb:=Lib.hid (Hb.out.trans (hb10.mono Hb.out.size))
   clear hb10 x0 x1 x2 x3 x4 x5 T HP
   go_wp2_with fail
   refine (order_any i k _).mono ?_
   rintro e w11 ⟨rfl,rfl⟩
   go_wp2_with fail;go_ret;exact ⟨by first | rfl | simp,Hb.out⟩
 ·have hin:IdxOf ls X (-1):=.inl ⟨rfl,hno⟩
  have ei:(-1:Int)=i:=HU.out.1 hin
  subst ei
  obtain ⟨n,A7,l7,c7,B7,m,d,n',A8,l8,c8,B8,m',d',rfl,z1,z2,z3,z4⟩:=hr
  have jb:=below_new w8 (tbox n A7 l7 c7 B7 m d n' A8 l8 c8 B8 m' d')
  have T:=Lib.hid (TBox.make z1 z2 z3 z4)
  replace HX:=Lib.hid (HX.out.below jb);replace HY:=Lib.hid (HY.out.below jb);replace HP:=Lib.hid (HP.out.below ikN jb);replace Hb:=Lib.hid (Hb.out.trans ((jb).mono Hb.out.size))
  clear z1 z2 z3 z4 jb hin hno
  have x0:=T.out.r.c0;have x1:=T.out.r.c1;have x2:=T.out.r.c2;have x3:=T.out.c3;have x4:=T.out.c4;have x5:=T.out.c5
  go_wp2_with fail
  refine (tcompare_any HP.out SF.out HX.out HY.out (by omega) (by omega)).mono ?_
  rintro e w9 ⟨⟨i',k',hi',hk',he⟩,hb9⟩
  rw [← HLS.out] at hi' hk'
  rw [HU.out.1 hi',HU.out.2 hk',cmpI_none (.inl (by omega))] at he
  have he2:e=.returned (.tuple #[.int .i64 0,.int .i64 5]):=he
  subst he2
  replace T:=Lib.hid (T.out.move hb9)
  replace HX:=Lib.hid (HX.out.below hb9);replace HY:=Lib.hid (HY.out.below hb9);replace HP:=Lib.hid (HP.out.below ikN hb9);replace Hb:=Lib.hid (Hb.out.trans ((hb9).mono Hb.out.size))
  clear he hb9 hi' hk' HX HY HP x0 x1 x2 x3 x4 x5
  have x0:=T.out.r.c0;have x1:=T.out.r.c1;have x2:=T.out.r.c2;have x3:=T.out.c3;have x4:=T.out.c4;have x5:=T.out.c5
  go_wp2_with fail
  refine (rsign0_any _ _ _ _ _ _ _ _ T.out.r.hq.at_).mono ?_
  rintro e w10 ⟨rfl,hb10⟩
  replace T:=Lib.hid (T.out.move hb10)
  replace Hb:=Lib.hid (Hb.out.trans (hb10.mono Hb.out.size))
  clear hb10 x0 x1 x2 x3 x4 x5
  have x0:=T.out.r.c0;have x1:=T.out.r.c1;have x2:=T.out.r.c2;have x3:=T.out.c3;have x4:=T.out.c4;have x5:=T.out.c5
  go_wp2_with fail
  refine (rsign0_any _ _ _ _ _ _ _ _ T.out.hq.at_).mono ?_
  rintro e w11 ⟨rfl,hb11⟩
  replace Hb:=Lib.hid (Hb.out.trans (hb11.mono Hb.out.size))
  clear hb11 x0 x1 x2 x3 x4 x5 T
  go_wp2_with fail;go_ret;exact ⟨by first | rfl | simp,Hb.out⟩
end Go.Proofs.YtbfddopopajgaaaGreat
namespace Go.Proofs.YtbfddopopajgaaaGreat
open Go.ChangeShapes Go.WideShapes Go.ChangeAt Go.RowKit
set_option maxRecDepth 100000 in
theorem misses_lifted (os:Os) (started:os.Started) (H:Type) (enc:TypeId×Value→H) :
  ReturnsInHanded {} Tryz.checked os 9 .any (Rows.thomMissesSpec.pre6 enc Tryz.prog Tryz.f9 Rows.thomMissesRow.domain false) (Rows.thomMissesSpec.post enc Tryz.prog Tryz.f9 false true false false):=by
 refine returnsInHanded_of_change (C:=Tryz.checked) Tryz.own started (by kernel_rfl) Tryz.func9
  (ChangeSpec.witness6 (enc:=enc) (C:=Tryz.checked) false ⟨#[],#[.slice none 0 0,.slice none 0 0,.slice none 0 0],[]⟩ 8 (by kernel_rfl) (by kernel_rfl) (by kernel_rfl) (by kernel_rfl)) ?_
 intro W base args ds gs before hval0 hW hcnd _
 exact lifted_s16two8 _ Tryz.f9 Tryz.params9 rfl enc _ rfl (fun _ _ _=>rfl) (fun A la ca p B lb cb q C lc cc r w h h' h'' hl _ _=>law_misses A la ca p B lb cb q C lc cc r w h h' h'' hl) W args ds gs before hval0 hW
theorem thomMisses_holds:Rows.ThomMissesSaid :=
 OpenClaim.holds_of_wide 9 Tryz.f9 rfl rfl rfl rfl rfl rfl rfl ⟨rfl,rfl,rfl,rfl,rfl⟩ rfl rfl rfl rfl rfl (by kernel_rfl) Tryz.func9 (by kernel_rfl)
  (of_decide_eq_true (by kernel_rfl)) (by unfold Func.isWrapper;first | (rw [if_pos (by decide +kernel)];kernel_rfl) | (rw [if_neg (by decide +kernel)];exact ⟨rfl,rfl⟩))
  (fun os started H enc _=>misses_lifted os started H enc)
#print axioms thomMisses_holds
end Go.Proofs.YtbfddopopajgaaaGreat
