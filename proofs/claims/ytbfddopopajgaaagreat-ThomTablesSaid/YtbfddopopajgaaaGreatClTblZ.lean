/- For any three slices of int16s the law ThomTables returns true and its argument reads as before: thom.Table has a row of signs for each root of the first polynomial. No condition. -/
import Derived.Test.YtbfddopopajgaaaGreatRowP
import Derived.Laws.IdiomArrays
import Derived.Test.YtbfddopopajgaaaGreatHfp
import Derived.Test.YtbfddopopajgaaaGreatSgw
import Derived.Test.YtbfddopopajgaaaGreatApg
import Derived.Test.YtbfddopopajgaaaGreatRatD
import Derived.Test.YtbfddopopajgaaaGreatIvp
import Derived.Test.YtbfddopopajgaaaGreatAdp
namespace Go.Proofs.YtbfddopopajgaaaGreat
open Go.ChangeShapes Go.WideShapes Go.ChangeAt Go.RowKit
theorem Tryz.cellsArr3:Tryz.prog.cellsOf 23=3:=by kernel_rfl
theorem Tryz.cellsSl16:Tryz.prog.cellsOf 22=1:=by kernel_rfl
theorem open_i16v {H:Type} {enc:TypeId×Value→H} {W:World} {fuel:Nat} {v:Value} {x:DataW H×List MemPlace}
  (h:DataW.trod enc Tryz.prog W 0 (fun _=>true) true fuel 22 [v]=some x) (hlt:∀ y∈x.2,y.block<W.heap.size) :
  ∃ A len cap zs,v=.slice A len cap∧len≤9223372036854775807∧I16At W A len cap zs:=by
 rcases open_ints Tryz.underlying22 Tryz.underlying95 Tryz.cellsI16 h with ⟨hcs,hx⟩ | ⟨a,len',cap',zs,hcs,_,hl,hm,hz,hx,hcell,hwz⟩
 ·simp at hcs
  exact ⟨none,0,0,[],hcs,by omega,rfl,(fun c hc=>by cases hc),.inl rfl⟩
 ·simp at hcs
  simp only [if_true] at hz
  refine ⟨some a,len',cap',zs.take len',hcs,by unfold maxLen at hm;omega,by rw [List.length_take];omega,fun c hc=>i16_wf (hwz c (List.mem_of_mem_take hc)),?_⟩
  by_cases hl0:len'=0
  ·exact .inl hl0
  ·obtain ⟨b,off,spot⟩:=a
   have hspot:spot=none:=by simpa [Addr.add] using World.cell?_spot (hcell 0 (by omega))
   subst hspot
   have hbW:b<W.heap.size:=by
    refine hlt (.cell b off) ?_
    rw [hx]
    exact MemPlace.mem_row.2 ⟨0,by omega,by simp⟩
   refine .inr ⟨b,off,rfl,hbW,fun j hj=>?_⟩
   have:=hcell j (by omega)
   rw [show (⟨b,off,none⟩:Addr).add j=⟨b,off+j,none⟩ by simp [Addr.add]] at this
   rw [this]
   simp [List.getD_eq_getElem?_getD,hj]
set_option maxRecDepth 100000 in
theorem lifted_arr16 (f:Nat) (fn:Func) (hp:fn.params=#[23]) (hr:fn.resultTypes=#[4]) {H:Type} (enc:TypeId×Value→H) (spec:ChangeSpec) (hsv:spec.vars=[]) (hsf:∀ d,spec.fn H [d]={ results:=[.lit (.bool true)],args:=[d] })
  (walk:∀ A0 l0 c0 p0 A1 l1 c1 p1 A2 l2 c2 p2 w,I16At w A0 l0 c0 p0→I16At w A1 l1 c1 p1→I16At w A2 l2 c2 p2→l0≤9223372036854775807→l1≤9223372036854775807→l2≤9223372036854775807→Calls Tryz.prog f #[.agg #[.slice A0 l0 c0,.slice A1 l1 c1,.slice A2 l2 c2]] w fun e w'=>e=.returned (.bool true)∧Below w.heap.size w w')
  (W:World) (args:Array Value) (ds gs:List (DataW H)) (before:List MemPlace)
  (hval:∀ (j:Nat) t v,fn.params[j]?=some t→args[j]?=some v→Value.okWide Tryz.prog W .any 0 t v)
  (hW:DataW.Whole enc Tryz.prog fn.params.toList spec.vars false W args.toList ds gs before) :
  Calls Tryz.prog f args W fun e W'=>∃ v,e=Ending.returned v∧spec.post enc Tryz.prog fn false true false false W args v W':=by
 have hW':=hW
 obtain ⟨p,q,hA0,hV,rfl,_,_⟩:=hW
 have hA:DataW.TrodAll enc Tryz.prog W 0 (fun _=>true) true fn.params.toList args.toList ds p:=hA0
 rw [hp] at hA hval
 obtain ⟨v0,d0,rfl,rfl,h0⟩:=trodAll_one hA
 rw [hsv] at hV
 obtain ⟨rfl,rfl⟩:=trodVars_none hV
 have hok:=hval 0 23 v0 rfl rfl
 simp only [Value.okWide,Tryz.underlying23] at hok
 obtain ⟨cs,rfl,hsz,_⟩:=hok
 rw [Tryz.cellsArr3] at hsz
 obtain ⟨c0,c1,c2,rfl⟩:∃ c0 c1 c2,cs=#[c0,c1,c2]:=by
  obtain ⟨l⟩:=cs
  match l,hsz with
  | [x,y,z],_=>exact ⟨x,y,z,rfl⟩
 simp only [List.append_nil] at hW'
 have hlt:∀ x∈p,x.block<W.heap.size:=fun x hx=>by simpa using hW'.lt x (by simpa using hx)
 have h0':=h0
 obtain ⟨fuel,hf⟩:=h0'
 obtain ⟨y0,y1,y2,n,hx,t0,t1,t2⟩:=trod_array3 Tryz.underlying23 Tryz.cellsSl16 (show DataW.trod enc Tryz.prog W 0 (fun _=>true) true fuel 23 [c0,c1,c2]=some (d0,p) from hf)
 simp only [Prod.mk.injEq] at hx
 have hpp:=hx.2
 obtain ⟨A0,l0,k0,z0,rfl,m0,g0⟩:=open_i16v t0 (fun y hy=>hlt y (by rw [hpp];exact List.mem_append.2 (.inl hy)))
 obtain ⟨A1,l1,k1,z1,rfl,m1,g1⟩:=open_i16v t1 (fun y hy=>hlt y (by rw [hpp];exact List.mem_append.2 (.inr (List.mem_append.2 (.inl hy)))))
 obtain ⟨A2,l2,k2,z2,rfl,m2,g2⟩:=open_i16v t2 (fun y hy=>hlt y (by rw [hpp];exact List.mem_append.2 (.inr (List.mem_append.2 (.inr hy)))))
 refine (walk A0 l0 k0 z0 A1 l1 k1 z1 A2 l2 k2 z2 W g0 g1 g2 m0 m1 m2).mono fun e W' ⟨he,hb⟩=>?_
 subst he
 refine ⟨_,rfl,post_below (pa:=p) (pv:=[]) hW' (fun _ _ _=>?_) (fun sp hs=>?_) (fun _ _=>?_) (by simp) hb ?_⟩
 ·rw [List.append_nil,hsf,hr]
  exact trodAll_mk1 (shut_bool Tryz.underlying4 _)
 ·rw [List.append_nil,hsf,hp]
  exact trodAll_mk1 (Go.WideElems.Trod_stays Tryz.laidOut (by kernel_rfl) (of_decide_eq_true (by kernel_rfl)) h0 (fun x hx=>hb.same (hlt x hx)) hs)
 ·rw [hsv,List.append_nil,hsf]
  rfl
 ·exact ok_one hr rfl (okWide_bool_mk Tryz.underlying4 _)
end Go.Proofs.YtbfddopopajgaaaGreat
namespace Go.Proofs.YtbfddopopajgaaaGreat
open Go Go.RowKit
noncomputable def sgA (Q:List Int) (r:Fq×Fq) (g:List Int):Int:=if fcmp r.1 r.2=0 then r.1.sgn g else nquery Q g r.1.z r.1.q r.2.z r.2.q
theorem sgA_eq {f Q g:List Int} {r:Fq×Fq} {x:Pt} (h:P9 Q) (l6:plen Q≤6) (hg:G6 g) (h0:plen Q≠0) (e:∀ y,sgp f y=0↔sgp Q y=0) (ha:FqB r.1) (hb:FqB r.2) (hi:IsoV f x r.1 r.2):sgA Q r g=sgp g x:=by
 have hle:=hi.le
 unfold sgA
 by_cases c:fcmp r.1 r.2=0
 ·rw [if_pos c,sgn_pt ha.p]
  have:=(fcmp_zero ha.p hb.p).1 c
  rcases hi.2 with h2 | h2
  ·rw [h2.2]
  ·grind
 rw [if_neg c]
 have hlt:r.1.v<r.2.v:=by
  have:r.1.v≠r.2.v:=fun e=>c ((fcmp_zero ha.p hb.p).2 e)
  grind
 rcases hi.2 with h2 | ⟨_,n1,n2,x1,x2,hu⟩
 ·grind
 have hx:Lst (fun y=>sgp Q y=0∧Pt.of ((r.1.z:Rat) / (r.1.q:Rat))<y∧(y<Pt.of ((r.2.z:Rat) / (r.2.q:Rat))∨y=Pt.of ((r.2.z:Rat) / (r.2.q:Rat)))) [x]:=by
  refine ⟨List.pairwise_singleton _ _,fun y=>?_⟩
  rw [List.mem_singleton]
  refine ⟨fun ey=>by rw [ey];exact ⟨(e x).1 hi.1,x1,.inl x2⟩,fun ⟨y1,y2,y3⟩=>hu y ((e y).2 y1) y2 (y3.resolve_right fun ey=>n2 ?_)⟩
  have:sgp f y=0:=(e y).2 y1
  rw [ey] at this
  exact this
 rw [nquery_sum h l6 hg h0 ha.p hb.p ha.z ha.q hb.z hb.q ((vld_lt ha.p hb.p).2 hlt) (Pt.of_lt_of.2 hlt) hx]
 show sgp g x+0=_
 omega
set_option maxRecDepth 100000 in
set_option maxHeartbeats 4000000 in
theorem tsign_any {I J:IntPred} (hI:IK I) (hJ:IK J) {w:World} {Ap:Option Addr} {lp cp:Nat} {Q:List Int} {Ag:Option Addr} {lg cg:Nat} {g:List Int} {r:Fq×Fq} {n:Bool} {A:Option Addr} {l c:Nat} {B:Option Addr} {m d:Nat} {n':Bool} {A':Option Addr} {l' c':Nat} {B':Option Addr} {m' d':Nat}
  (hp:PolyP I w Ap lp cp Q) (hlp:lp≤1000000) (h9:P9 Q) (l6:plen Q≤6) (hg:PolyP J w Ag lg cg g) (g6:G6 g) (hz:IntN w n A l c r.1.z) (hq:NatN w B m d r.1.q) (hz':IntN w n' A' l' c' r.2.z) (hq':NatN w B' m' d' r.2.q) (ha:FqB r.1) (hb:FqB r.2) :
  Calls Tryz.prog 53 #[.slice Ap lp cp,.agg #[.bool n,.slice A l c,.slice B m d,.bool n',.slice A' l' c',.slice B' m' d'],.slice Ag lg cg] w fun e w'=>e=.returned (.int .i64 (sgA Q r g))∧Below w.heap.size w w':=by
 have o1:=below_new w (tbox n A l c B m d n' A' l' c' B' m' d')
 have T:=Lib.hid (TBox.make hz hq hz' hq')
 have HP:=Lib.hid (hp.below hI o1)
 have HG:=Lib.hid (hg.below hJ o1)
 have Hb:=Lib.hid o1
 have hlg:lg≤6:=by have:=hg.length;have:=g6.len;omega
 have p1:=ha.p
 have p2:=hb.p
 have cg:CP g:=⟨by have:=g6.plen;omega,fun j=>Nat.le_trans (g6.b j) (by have:=bbk_le (show 1≤32 by decide);rw [Nat.pow_one] at this;exact this)⟩
 have pg:=cg.at (z:=r.1.z) (q:=r.1.q) (by have:=g6.len;omega) ha.z ha.q
 obtain ⟨V,hV⟩:∃ V,V=sgA Q r g:=⟨_,rfl⟩
 rw [← hV]
 unfold sgA at hV
 obtain ⟨S,hS⟩:∃ S,S=r.1.sgn g:=⟨_,rfl⟩
 obtain ⟨U,hU⟩:∃ U,U=nquery Q g r.1.z r.1.q r.2.z r.2.q:=⟨_,rfl⟩
 rw [← hS,← hU] at hV
 have HV:=Lib.hid hV
 have HS:=Lib.hid hS
 have HU:=Lib.hid hU
 clear hz hq hz' hq' o1 hp hg hV hS hU cg
 go_enter Tryz.func53,Tryz.ntmps53
 have x0:=T.out.r.c0;have x1:=T.out.r.c1;have x2:=T.out.r.c2;have x3:=T.out.c3;have x4:=T.out.c4;have x5:=T.out.c5
 go_wp2_with fail
 refine (rcmp_any _ _ _ _ _ _ _ _ _ _ _ _ _ _ _ _ _ _ _ T.out.r.hz.at_ T.out.r.hq.at_ T.out.hz.at_ T.out.hq.at_ (by omega) (by omega) ha.fz ha.fq hb.fz hb.fq).mono ?_
 rintro e w1 ⟨rfl,hb1⟩
 obtain ⟨C,hC⟩:∃ C,C=fcmp r.1 r.2:=⟨_,rfl⟩
 rw [show cmpz (r.1.z*(r.2.q:Int)) (r.2.z*(r.1.q:Int))=C from hC.symm]
 have hV:=HV.out
 rw [← hC] at hV
 replace HV:=Lib.hid hV
 replace T:=Lib.hid (T.out.move hb1)
 replace HP:=Lib.hid (HP.out.below hI hb1)
 replace HG:=Lib.hid (HG.out.below hJ hb1)
 replace Hb:=Lib.hid (Hb.out.trans (hb1.mono Hb.out.size))
 clear hb1 hC hV x0 x1 x2 x3 x4 x5
 have x0:=T.out.r.c0;have x1:=T.out.r.c1;have x2:=T.out.r.c2;have x3:=T.out.c3;have x4:=T.out.c4;have x5:=T.out.c5
 by_cases c0:C=0
 ·have b1:(C == 0)=true:=by rw [c0];rfl
  have EV:=Lib.hid (show V=S by rw [HV.out,if_pos c0])
  clear c0
  go_wp2_with fail
  refine (signat_any hJ _ _ _ g _ _ _ _ _ _ _ _ _ _ HG.out pg.fit (by omega) T.out.r.hz T.out.r.hq ha.at.u ha.at.v ha.at.pos pg.ok ha.at.fz ha.at.fq).mono ?_
  rintro e w4 ⟨he,hb4⟩
  have he2:e=.returned (.int .i64 S):=by rw [HS.out];exact he
  subst he2
  replace Hb:=Lib.hid (Hb.out.trans (hb4.mono Hb.out.size))
  clear he hb4 T HP HG x0 x1 x2 x3 x4 x5
  go_wp2
  go_ret
  exact ⟨by first | (rw [EV.out];done) | (rw [EV.out];rfl),Hb.out⟩
 ·have b1:(C == 0)=false:=by rw [beq_eq_false_iff_ne];exact c0
  have EV:=Lib.hid (show V=U by rw [HV.out,if_neg c0])
  clear c0
  go_wp2_with fail
  refine (query_any hI hJ _ _ _ Q _ _ _ g _ _ _ _ _ _ _ _ _ _ _ _ _ _ _ _ _ _ _ HP.out HG.out hlp h9 l6 g6 T.out.r.hz T.out.r.hq T.out.hz T.out.hq ha.at hb.at ha.z ha.q hb.z hb.q).mono ?_
  rintro e w4 ⟨he,hb4⟩
  have he2:e=.returned (.int .i64 U):=by rw [HU.out];exact he
  subst he2
  replace Hb:=Lib.hid (Hb.out.trans (hb4.mono Hb.out.size))
  clear he hb4 T HP HG x0 x1 x2 x3 x4 x5
  go_wp2
  go_ret
  exact ⟨by first | (rw [EV.out];done) | (rw [EV.out];rfl),Hb.out⟩
def SlC (u:Value):Prop:=∃ A l c,u=.slice A l c
theorem slC_nd (u:Value) (h:SlC u):Nd u:=by obtain ⟨A,l,c,rfl⟩:=h;exact nd_slice _ _ _
def PolR (w:World) (p:List Int) (vs:List Value):Prop:=∃ A l c,vs=[.slice A l c]∧PolyN w A l c p
def CodR (w:World) (xs:List Int) (vs:List Value):Prop:=∃ A l c,vs=[.slice A l c]∧I64At w A l c xs
section
variable {w w':World} {p xs:List Int} {vs:List Value} {g:Nat}
theorem PolR.below (h:PolR w p vs) (hb:Below w.heap.size w w'):PolR w' p vs:=by
 obtain ⟨A,l,c,e,h1⟩:=h
 exact ⟨A,l,c,e,h1.below ikN hb⟩
theorem PolR.len (h:PolR w p vs):vs.length=1:=by obtain ⟨A,l,c,e,h1⟩:=h;rw [e];rfl
theorem PolR.sl (h:PolR w p vs):∀ v∈vs,SlC v:=by
 obtain ⟨A,l,c,e,h1⟩:=h
 intro v hv
 rw [e,List.mem_singleton] at hv
 exact ⟨A,l,c,hv⟩
theorem PolR.frs (h:PolR w p vs) (hf:FrS g g w w') (hc:∀ o u,w.cell? ⟨g,o,none⟩=some u→SlC u):PolR w' p vs:=by
 obtain ⟨A,l,c,e,h1⟩:=h
 have hnd:NdB w g:=fun o u hu=>(slC_nd u (hc o u hu)).1
 refine ⟨A,l,c,e,PolyG.frs (g:=g) (g':=g) ⟨h1,?_⟩ hf hnd hnd⟩
 rcases h1.elems with h0 | ⟨b,o,hA,hlt,he⟩
 ·exact .inl h0
 ·rcases Nat.eq_zero_or_pos l with h0 | h0
  ·exact .inl h0
  ·have hne:b≠g:=fun e=>by
    subst e
    obtain ⟨neg,_,_,_,f1,_,_⟩:=he 0 h0
    obtain ⟨_,_,_,e2⟩:=hc _ _ f1
    cases e2
   exact .inr ⟨b,o,hA,hne,hne⟩
theorem CodR.below (h:CodR w xs vs) (hb:Below w.heap.size w w'):CodR w' xs vs:=by
 obtain ⟨A,l,c,e,h1⟩:=h
 exact ⟨A,l,c,e,h1.below hb⟩
theorem CodR.len (h:CodR w xs vs):vs.length=1:=by obtain ⟨A,l,c,e,h1⟩:=h;rw [e];rfl
theorem CodR.sl (h:CodR w xs vs):∀ v∈vs,SlC v:=by
 obtain ⟨A,l,c,e,h1⟩:=h
 intro v hv
 rw [e,List.mem_singleton] at hv
 exact ⟨A,l,c,hv⟩
theorem CodR.frs (h:CodR w xs vs) (hf:FrS g g w w') (hc:∀ o u,w.cell? ⟨g,o,none⟩=some u→SlC u):CodR w' xs vs:=by
 obtain ⟨A,l,c,e,h1⟩:=h
 refine ⟨A,l,c,e,h1.length,h1.cap,?_⟩
 rcases h1.cells with h0 | ⟨b,o,hA,hlt,he⟩
 ·exact .inl h0
 ·rcases Nat.eq_zero_or_pos l with h0 | h0
  ·exact .inl h0
  ·have hne:b≠g:=fun e=>by
    subst e
    obtain ⟨_,_,_,e2⟩:=hc _ _ (he 0 h0)
    cases e2
   exact .inr ⟨b,o,hA,Nat.lt_of_lt_of_le hlt hf.size,fun j hj=>(hf.cell hlt hne hne _).trans (he j hj)⟩
end
theorem wpList_app_own {w:World} {ops:Array Oper} {rest:List Oper} {o:Oper} {a:Act} {Q:Exit→Act→World→Prop} (hgd:o.guard=none) (s x:Operand) (t e:TypeId)
  (ho:o.op=.call { callee:=.builtin .append,args:=#[s,x],argTypes:=#[t,t] }) (E:Nat) (i0:TypeInfo) (z:Value) (ht:Tryz.prog.underlying t=some (.slice e)) (hi:Tryz.prog.info? e=some i0) (hz0:i0.zero=some z) (hz1:i0.size=E) (hz2:i0.bytes≤200) (hzs:z.cells.size=E) (C:Value→Prop) (hC:∀ u,C u→Nd u) (hzn:∀ j,j<E→C (z.cells[j]!)) (hE:0<E)
  (base:Nat) (v:Value) (us vs:List Value) (hs:a.eval s=v) (hown:OwnE C E e base w v us) (hB:base≤w.heap.size)
  (ax:Addr) (m c:Nat) (hx:a.eval x=.slice (some ax) m c) (hvl:vs.length=m*E) (hxc:∀ (j:Nat) (u:Value),vs[j]?=some u→w.cell? (ax.add j)=some u) (hvn:∀ u∈vs,C u) (hm:0<m∨v≠.slice none 0 0) (hn:us.length+vs.length≤100000000)
  (dd:Nat) (hdd:o.dst=some dd) (h:∀ v' w',GrE C E e base w v us vs v' w'→wpList Tryz.prog ops Q rest (a.put (some dd) v') w') :
  wpList Tryz.prog ops Q (o :: rest) a w :=
 wpList_plain hgd fun _ hK'=>oper_append_own s x t e ho E i0 z ht hi hz0 hz1 hz2 hzs C hC hzn hE base v us vs hs hown hB ax m c hx hvl hxc hvn hm hn dd hdd fun v' w' hg=>hK' _ _ (h v' w' hg)
theorem one_cell {w:World} {u:Value} (t:TypeId):∀ (j:Nat) (v:Value),[u][j]?=some v→(w.alloc (.cells #[u] t)).cell? ((⟨w.heap.size,0,none⟩:Addr).add j)=some v:=fun j v hv=>by
 match j,hv with
 | 0,hv=>simp at hv;subst hv;simp [Addr.add]
end Go.Proofs.YtbfddopopajgaaaGreat
namespace Go.Proofs.YtbfddopopajgaaaGreat
open Go Go.RowKit
section
variable {α:Type} {C:Value→Prop} {E t base:Nat} {R:World→α→List Value→Prop} {w w':World} {v v':Value} {us vs:List Value}
theorem GrE.mv (h:GrE C E t base w v us vs v' w') (hb:∀ x vs,Below w.heap.size w w'→R w x vs→R w' x vs) (hf:∀ g x vs,FrS g g w w'→(∀ o u,w.cell? ⟨g,o,none⟩=some u→C u)→R w x vs→R w' x vs) (x:α) (ys:List Value) (hx:R w x ys):R w' x ys:=by
 rcases h.2 with ⟨g,n,n',cap,_,_,_,_,k,f⟩ | ⟨k,_⟩
 ·exact hf g x ys f k hx
 ·exact hb x ys k hx
end
theorem polr_mv {B:Nat} {t:TypeId} {w w':World} {v v':Value} {us vs:List Value} (h:GrE SlC 1 t B w v us vs v' w') (p:List Int) (ys:List Value):PolR w p ys→PolR w' p ys:=h.mv (fun _ _ hb hx=>hx.below hb) (fun _ _ _ hf hc hx=>hx.frs hf hc) p ys
theorem codr_mv {B:Nat} {t:TypeId} {w w':World} {v v':Value} {us vs:List Value} (h:GrE SlC 1 t B w v us vs v' w') (p:List Int) (ys:List Value):CodR w p ys→CodR w' p ys:=h.mv (fun _ _ hb hx=>hx.below hb) (fun _ _ _ hf hc hx=>hx.frs hf hc) p ys
theorem slz:∀ j,j<1→SlC ((Value.slice none 0 0).cells[j]!):=fun j hj=>by
 match j,hj with
 | 0,_=>exact ⟨none,0,0,rfl⟩
theorem dk_out:∀ (m:Nat) (g:List Int),dk (m+1) g=pder (dk m g)
 | 0,_=>rfl
 | m+1,g=>dk_out m (pder g)
theorem pder_plen1 (p:List Int):plen (pder p)=plen p-1:=by
 rcases Nat.lt_or_ge (plen p) 2 with h | h
 ·have h1:=plen_le (pder p)
  rw [pder_length] at h1
  omega
 ·exact pder_plen h
theorem dk_plen:∀ (m:Nat) (g:List Int),plen (dk m g)=plen g-m
 | 0,_=>rfl
 | m+1,g=>by rw [dk_out,pder_plen1,dk_plen m g];omega
theorem dk_length (m:Nat) (g:List Int):(dk (m+1) g).length=plen g-(m+1):=by rw [dk_out,pder_length,dk_plen];omega
theorem dk_len6 {f:List Int} (hl:f.length≤6) (m:Nat):(dk m f).length≤6-m:=by
 have:=plen_le f
 match m with
 | 0=>exact hl
 | m+1=>rw [dk_length];omega
def dkl (f:List Int) (k:Nat):List (List Int):=(List.range k).map fun i=>dk (i+1) f
theorem dkl_succ (f:List Int) (k:Nat):dkl f (k+1)=dkl f k ++ [dk (k+1) f]:=by
 unfold dkl
 rw [List.range_succ,List.map_append]
 rfl
theorem dkl_len (f:List Int) (k:Nat):(dkl f k).length=k:=by unfold dkl;simp
def ders (f:List Int):List (List Int):=dkl f (plen f-1)
theorem dk_bd {M:Nat} {f:List Int} (hl:f.length≤6) (hM:∀ j,(f.getD j 0).natAbs≤M):∀ m j,((dk m f).getD j 0).natAbs≤M*5^m
 | 0,j=>by rw [Nat.pow_zero,Nat.mul_one];exact hM j
 | m+1,j=>by
   have ih:=dk_bd hl hM m (j+1)
   have hlen:=dk_len6 hl m
   rw [dk_out,pder_getD,Int.natAbs_mul]
   rcases Nat.lt_or_ge (j+1) (dk m f).length with h | h
   ·have h5:((j:Int)+1).natAbs≤5:=by omega
    rw [Nat.pow_succ,← Nat.mul_assoc]
    exact Nat.mul_le_mul ih h5
   ·rw [getD_out _ h];simp
theorem dk_g6 {f:List Int} (hl:f.length≤6) (hM:∀ j,(f.getD j 0).natAbs≤32768) {m:Nat} (hm:m≤6):G6 (dk m f):=by
 refine ⟨by have:=dk_len6 hl m;omega,fun j=>Nat.le_trans (dk_bd hl hM m j) ?_⟩
 have:5^m≤5^6:=Nat.pow_le_pow_right (by decide) hm
 have h2:=Nat.mul_le_mul_left 32768 this
 refine Nat.le_trans h2 ?_
 rw [BB_eq]
 decide
def lenv:Value→Nat
 | .slice _ l _=>l
 | _=>0
set_option maxRecDepth 100000 in
set_option maxHeartbeats 4000000 in
theorem ders_any {I:IntPred} (hI:IK I) {w:World} {Af:Option Addr} {lf cf:Nat} {f:List Int} (hf:PolyP I w Af lf cf f) (hl:f.length≤6) (hM:∀ j,(f.getD j 0).natAbs≤32768) :
  Calls Tryz.prog 81 #[.slice Af lf cf] w fun e w'=>(∃ A l c,e=.returned (.slice A l c)∧SlE 1 PolR w' A l c (ders f))∧Below w.heap.size w w':=by
 obtain ⟨i0,hi,hz0,hz1,hz2⟩:=info_parts info_poly
 have hlf:lf≤6:=by have:=hf.length;omega
 have g0:=dk_g6 hl hM (m:=0) (by omega)
 have HM:=Lib.hid hM
 have HF:=Lib.hid hf
 clear hf hM
 go_enter Tryz.func81,Tryz.ntmps81
 go_wp2_with fail
 refine (derivative_any hI _ _ _ f _ HF.out (show SmP f from g0.fit.smp) (by omega)).mono ?_
 rintro e w1 ⟨A1,l1,c1,rfl,h1,hb1⟩
 have H1:=Lib.hid h1
 have Hb1:=Lib.hid hb1
 clear h1 hb1 HF g0
 go_wp2_with fail
 go_loopw [3,4] (fun s3 s4 wr=>∃ k A l c,k≤plen f-1∧s4=.slice A l c∧PolyN wr A l c (dk (k+1) f)∧(∃ us,OwnE SlC 1 26 w.heap.size wr s3 us∧Lay (PolR wr) (dkl f k) us)∧Below w.heap.size w wr) (fun _ s4 _=>lenv s4)
 case atStart=>exact ⟨0,A1,l1,c1,Nat.zero_le _,rfl,H1.out,⟨[],OwnE.nil _ _ _ _ _,rfl⟩,Hb1.out⟩
 case round =>
  clear H1 Hb1
  obtain ⟨k,A,l,c,hk,rfl,hp,⟨us,ho,hly⟩,hbw⟩:=hrel
  have hlen:=hp.length
  rw [dk_length] at hlen
  have hpf:=plen_le f
  have hl6:l≤6:=by omega
  have g6:=dk_g6 hl HM.out (m:=k+1) (by omega)
  obtain ⟨P,hP⟩:∃ P,P=dk (k+1) f:=⟨_,rfl⟩
  rw [← hP] at hp g6
  have HPe:=Lib.hid hP
  have Hbw:=Lib.hid hbw
  have HP:=Lib.hid hp
  by_cases hl0:0<l
  ·have b1:decide (0<(l:Int))=true:=decide_eq_true (by omega)
   have b2:decide (0<l)=true:=decide_eq_true hl0
   have jb:=below_new wr (.cells #[.slice A l c] 26)
   have ho2:=ho.below jb
   have hly2:Lay (PolR (wr.alloc (.cells #[.slice A l c] 26))) (dkl f k) us:=hly.mono fun _ _ hx=>hx.below jb
   have hul:us.length=k*1:=by rw [hly.len fun x vs hx=>hx.len,dkl_len]
   have hx2:PolR (wr.alloc (.cells #[.slice A l c] 26)) P [.slice A l c]:=⟨A,l,c,rfl,hp.below ikN jb⟩
   have hsz:w.heap.size≤(wr.alloc (.cells #[.slice A l c] 26)).heap.size:=by have:=hbw.size;simp;omega
   have O:=Lib.hid (And.intro ho2 (And.intro hly2 hx2))
   have Hsz:=Lib.hid hsz
   have HB2:=Lib.hid (hbw.trans (jb.mono hbw.size))
   have Hlen:=Lib.hid hlen
   clear ho ho2 hly hly2 hx2 hsz jb hp hP hbw hlen
   go_wp2_with (at_builtin;refine wpList_app_own rfl (.tmp 12) (.tmp 14) 98 26 rfl 1 i0 (.slice none 0 0) Tryz.underlying98 hi hz0 hz1 (by rw [hz2];omega) rfl SlC slC_nd slz (by decide) w.heap.size _ us [.slice A l c] rfl O.out.1 Hsz.out ⟨wr.heap.size,0,none⟩ 1 1 rfl rfl (one_cell _) O.out.2.2.sl (.inl (by decide)) (by rw [hul];simp;omega) 15 rfl ?_)
   intro v2 w9 hgr
   have hb9:=hgr.below Hsz.out
   have hn:=polr_mv hgr _ _ O.out.2.2
   have hly9:Lay (PolR w9) (dkl f (k+1)) (us ++ [.slice A l c]):=by
    rw [dkl_succ,← HPe.out]
    exact hgr.lay O.out.2.1 (show Lay (PolR (wr.alloc (.cells #[.slice A l c] 26))) [P] [.slice A l c] from ⟨_,[],O.out.2.2,by simp,rfl⟩) (fun _ _ hb hx=>hx.below hb) (fun _ _ _ hf hc hx=>hx.frs hf hc)
   obtain ⟨_,_,_,e9,hn9⟩:=hn
   cases e9
   have O9:=Lib.hid (And.intro hgr.1 hly9)
   have HN:=Lib.hid hn9
   have Hb9:=Lib.hid (HB2.out.trans hb9)
   clear hgr hb9 hly9 hn9 O HB2 Hsz
   go_wp2_with fail
   refine (derivative_any ikN _ _ _ P _ HN.out g6.fit.smp (by omega)).mono ?_
   rintro e w10 ⟨A10,l10,c10,rfl,h10,hb10⟩
   have HN2:=Lib.hid h10
   have O10:=Lib.hid (And.intro (O9.out.1.below hb10) (O9.out.2.mono fun _ _ hx=>PolR.below hx hb10))
   have Hb10:=Lib.hid (Hb9.out.trans (hb10.mono Hb9.out.size))
   have hl10:l10<l:=by
    have h1:=h10.length
    rw [pder_length,HPe.out,dk_plen] at h1
    have:=Hlen.out
    omega
   clear h10 hb10 O9 HN Hb9
   go_wp2_with fail
   go_roundw
   case rel=>exact ⟨k+1,A10,l10,c10,by have:=Hlen.out;omega,rfl,by rw [dk_out,← HPe.out];exact HN2.out,⟨_,O10.out.1,O10.out.2⟩,Hb10.out⟩
   case measure=>exact hl10
  ·have b1:decide (0<(l:Int))=false:=decide_eq_false (by omega)
   have b2:decide (0<l)=false:=decide_eq_false hl0
   have hk2:k=plen f-1:=by omega
   obtain ⟨A9,l9,c9,e9,h9⟩:=ho.sle (by decide) hly fun x vs hx=>hx.len
   subst e9
   have FX:=Lib.hid (show SlE 1 PolR wr A9 l9 c9 (ders f) by unfold ders;rw [← hk2];exact h9)
   clear ho hly hp hP hlen h9 hk2 HPe HP
   go_wp2_with fail
   go_ret
   exact ⟨⟨_,_,_,rfl,FX.out⟩,Hbw.out⟩
end Go.Proofs.YtbfddopopajgaaaGreat
namespace Go.Proofs.YtbfddopopajgaaaGreat
open Go Go.RowKit
theorem SlE.getp {w:World} {A:Option Addr} {l c:Nat} {gs:List (List Int)} (h:SlE 1 PolR w A l c gs) {k:Nat} (hk:k<l) :
  ∃ b o A1 l1 c1,A=some ⟨b,o,none⟩∧b<w.heap.size∧w.cell? ⟨b,o+k,none⟩=some (.slice A1 l1 c1)∧PolyN w A1 l1 c1 (gs.getD k []):=by
 rcases h.elems with ⟨h0,_⟩ | ⟨b,o,e,hb,hv⟩
 ·omega
 ·have hkl:k<gs.length:=by rw [h.length];exact hk
  have eg:gs[k]?=some (gs.getD k []):=by rw [List.getD_eq_getElem?_getD,List.getElem?_eq_getElem hkl];rfl
  obtain ⟨vs,⟨A1,l1,c1,ev,h1⟩,hc⟩:=hv k _ eg
  subst ev
  have:=hc 0 _ rfl
  rw [Nat.mul_one,Nat.add_zero] at this
  exact ⟨b,o,A1,l1,c1,e,hb,this,h1⟩
theorem SlE.getc {w:World} {A:Option Addr} {l c:Nat} {gs:List (List Int)} (h:SlE 1 CodR w A l c gs) {k:Nat} (hk:k<l) :
  ∃ b o A1 l1 c1,A=some ⟨b,o,none⟩∧b<w.heap.size∧w.cell? ⟨b,o+k,none⟩=some (.slice A1 l1 c1)∧I64At w A1 l1 c1 (gs.getD k []):=by
 rcases h.elems with ⟨h0,_⟩ | ⟨b,o,e,hb,hv⟩
 ·omega
 ·have hkl:k<gs.length:=by rw [h.length];exact hk
  have eg:gs[k]?=some (gs.getD k []):=by rw [List.getD_eq_getElem?_getD,List.getElem?_eq_getElem hkl];rfl
  obtain ⟨vs,⟨A1,l1,c1,ev,h1⟩,hc⟩:=hv k _ eg
  subst ev
  have:=hc 0 _ rfl
  rw [Nat.mul_one,Nat.add_zero] at this
  exact ⟨b,o,A1,l1,c1,e,hb,this,h1⟩
theorem SlE.belowp {w w':World} {A:Option Addr} {l c:Nat} {gs:List (List Int)} (h:SlE 1 PolR w A l c gs) (hb:Below w.heap.size w w'):SlE 1 PolR w' A l c gs:=h.below hb fun _ _ hx=>hx.below hb
theorem SlE.belowc {w w':World} {A:Option Addr} {l c:Nat} {gs:List (List Int)} (h:SlE 1 CodR w A l c gs) (hb:Below w.heap.size w w'):SlE 1 CodR w' A l c gs:=h.below hb fun _ _ hx=>hx.below hb
def updl (S:List Int) (k:Nat):List Int:=S.take k ++ List.replicate (S.length-k) 0
theorem updl_len (S:List Int) {k:Nat} (h:k≤S.length):(updl S k).length=S.length:=by
 unfold updl
 rw [List.length_append,List.length_take,List.length_replicate]
 omega
theorem updl_zero (S:List Int):updl S 0=List.replicate S.length 0:=rfl
theorem updl_all (S:List Int):updl S S.length=S:=by
 unfold updl
 rw [List.take_length,Nat.sub_self]
 simp
theorem updl_set (S:List Int) {k:Nat} (h:k<S.length):(updl S k).set k (S.getD k 0)=updl S (k+1):=by
 unfold updl
 have hl:(S.take k).length=k:=by rw [List.length_take];omega
 obtain ⟨m,hm⟩:∃ m,S.length-k=m+1:=⟨S.length-k-1,by omega⟩
 rw [List.set_append_right _ _ (by omega),hl,Nat.sub_self,hm,show S.length-(k+1)=m by omega,List.replicate_succ,List.set_cons_zero,List.getD_eq_getElem?_getD,List.getElem?_eq_getElem h]
 show S.take k ++ S[k] :: List.replicate m 0=_
 rw [List.take_succ_eq_append_getElem h,List.append_assoc]
 rfl
set_option maxRecDepth 100000 in
set_option maxHeartbeats 4000000 in
theorem tsigns_any {I:IntPred} (hI:IK I) {w:World} {Ap:Option Addr} {lp cp:Nat} {Q:List Int} {Al:Option Addr} {ll cl:Nat} {gs:List (List Int)} {r:Fq×Fq} {n:Bool} {A:Option Addr} {l c:Nat} {B:Option Addr} {m d:Nat} {n':Bool} {A':Option Addr} {l' c':Nat} {B':Option Addr} {m' d':Nat}
  (hp:PolyP I w Ap lp cp Q) (hlp:lp≤1000000) (h9:P9 Q) (l6:plen Q≤6) (hl:SlE 1 PolR w Al ll cl gs) (hg:∀ k,k<gs.length→G6 (gs.getD k [])) (hll:ll≤1000) (hz:IntN w n A l c r.1.z) (hq:NatN w B m d r.1.q) (hz':IntN w n' A' l' c' r.2.z) (hq':NatN w B' m' d' r.2.q) (ha:FqB r.1) (hb:FqB r.2) :
  Calls Tryz.prog 54 #[.slice Ap lp cp,.agg #[.bool n,.slice A l c,.slice B m d,.bool n',.slice A' l' c',.slice B' m' d'],.slice Al ll cl] w fun e w'=>(∃ A c,e=.returned (.slice A ll c)∧I64At w' A ll c (gs.map (sgA Q r)))∧Below w.heap.size w w':=by
 have o1:=below_new w (tbox n A l c B m d n' A' l' c' B' m' d')
 have T:=Lib.hid (TBox.make hz hq hz' hq')
 have HP:=Lib.hid (hp.below hI o1)
 have HL:=Lib.hid (hl.belowp o1)
 have Hb:=Lib.hid o1
 have hgl:=hl.length
 obtain ⟨S,hS⟩:∃ S,S=gs.map (sgA Q r):=⟨_,rfl⟩
 have hSl:S.length=ll:=by rw [hS,List.length_map];exact hgl
 have hSg:∀ k,k<ll→S.getD k 0=sgA Q r (gs.getD k []):=fun k hk=>by
  rw [hS,List.getD_eq_getElem?_getD,List.getElem?_map,List.getElem?_eq_getElem (by omega),List.getD_eq_getElem?_getD,List.getElem?_eq_getElem (by omega)]
  rfl
 rw [← hS]
 have HSl:=Lib.hid hSl
 have HSg:=Lib.hid hSg
 have HGL:=Lib.hid hgl
 have HG:=Lib.hid hg
 clear hz hq hz' hq' o1 hp hl hS hSl hSg hgl hg
 go_enter Tryz.func54,Tryz.ntmps54
 obtain ⟨wa,hwa⟩:∃ wa,wa=w.alloc (tbox n A l c B m d n' A' l' c' B' m' d'):=⟨_,rfl⟩
 have hsa:wa.heap.size=w.heap.size+1:=by rw [hwa];simp
 rw [← hwa] at T HP HL Hb
 go_wp2_with (at_make;refine wpList_make_int _ rfl (.tmp 11) (.tmp 11) rfl ll rfl rfl (by omega) ?_)
 (try rw [← hwa])
 clear hwa
 intro w1 hz1 hb1 hs1
 rw [← hsa] at hz1 hs1 ⊢
 (try rw [← hsa] at hb1)
 have HZ:=Lib.hid (show IRow w1 wa.heap.size (updl S 0) by rw [updl_zero,HSl.out];exact hz1)
 obtain ⟨gI,hgI⟩:∃ g,g=wa.heap.size:=⟨_,rfl⟩
 obtain ⟨gT,hgT⟩:∃ g,g=w.heap.size:=⟨_,rfl⟩
 have HB1:=Lib.hid hb1
 rw [← hgI] at HZ ⊢
 rw [← hgT] at T
 have hTI:gT<gI:=by omega
 have HgI:=Lib.hid hgI
 have HgT:=Lib.hid hgT
 clear hz1 hb1 hs1 hgI hgT hsa
 go_wp2_with fail
 rw [← HgT.out]
 go_loopw [15] (fun s15 wr=>∃ k:Nat,k≤ll∧s15=.int .i64 (k:Int)∧IRow wr gI (updl S k)∧Below wa.heap.size wa wr) (fun s15 _=>ll-(intOf s15).toNat)
 case atStart=>exact ⟨0,Nat.zero_le _,rfl,HZ.out,HB1.out⟩
 case round =>
  clear HZ HB1
  obtain ⟨k,hk,rfl,hrow,hbw⟩:=hrel
  have HR:=Lib.hid hrow
  have Hbw:=Lib.hid hbw
  have hIr:gI<wr.heap.size:=hrow.lt
  by_cases hlt:k<ll
  ·have ka:(k:Int)<(ll:Int):=by omega
   have i1:IntKind.i64.wrap ((k:Int)+1)=(k:Int)+1:=IntWalk.i64_in _ (by omega)
   obtain ⟨b,o,A1,l1,c1,rfl,hb0,e0,hp1⟩:=(HL.out.belowp hbw).getp hlt
   have g6:=HG.out k (by rw [HGL.out];exact hlt)
   have T2:=Lib.hid (T.out.move hbw)
   have HPr:=Lib.hid (HP.out.below hI hbw)
   have HSk:=Lib.hid (HSg.out k hlt)
   obtain ⟨G,hG⟩:∃ G,G=gs.getD k []:=⟨_,rfl⟩
   obtain ⟨V,hV⟩:∃ V,V=S.getD k 0:=⟨_,rfl⟩
   rw [← hG] at hp1 g6
   have HEV:=Lib.hid (show sgA Q r G=V by rw [hV,HSk.out,hG])
   have HVV:=Lib.hid hV
   have H1:=Lib.hid hp1
   have Hkl:=Lib.hid hlt
   have x0:=T2.out.r.c0;have x1:=T2.out.r.c1;have x2:=T2.out.r.c2;have x3:=T2.out.c3;have x4:=T2.out.c4;have x5:=T2.out.c5
   clear hrow hbw hp1 hG hV hlt hk
   go_wp2_with fail
   refine (tsign_any hI ikN (r:=r) HPr.out hlp h9 l6 H1.out g6 T2.out.r.hz T2.out.r.hq T2.out.hz T2.out.hq ha hb).mono ?_
   rintro e w5 ⟨he,hb5⟩
   have he2:e=.returned (.int .i64 V):=by rw [← HEV.out];exact he
   subst he2
   have r5:=HR.out.below hb5 hIr
   have kc:=r5.cell (i:=k) (by rw [updl_len S (by rw [HSl.out];exact Nat.le_of_lt Hkl.out),HSl.out];exact Hkl.out)
   have kf:=r5.frozen k
   have RN:=Lib.hid (show IRow (w5.setCell ⟨gI,k,none⟩ (.int .i64 V)) gI (updl S (k+1)) by
    have h:=r5.set_ k V
    rw [HVV.out,updl_set S (by rw [HSl.out];exact Hkl.out),← HVV.out] at h
    exact h)
   have HBN:=Lib.hid (show Below wa.heap.size wa (w5.setCell ⟨gI,k,none⟩ (.int .i64 V)) from (Hbw.out.trans (hb5.mono Hbw.out.size)).setCell (by rw [HgI.out];exact Nat.le_refl _) _)
   clear he hb5 r5 x0 x1 x2 x3 x4 x5 T2 HPr H1 HR Hbw e0
   go_wp2_with fail
   go_roundw
   case rel=>exact ⟨k+1,Hkl.out,by go_num,RN.out,HBN.out⟩
   case measure=>have:=Hkl.out;simp [intOf];omega
  ·have hk2:k=ll:=by omega
   have t1:¬ (k:Int)<(ll:Int):=by omega
   have FX:=Lib.hid (show I64At wr (some ⟨gI,0,none⟩) ll ll S by
    have h:=hrow
    rw [hk2,← HSl.out,updl_all] at h
    have h2:=h.at_ (cap:=S.length) (Nat.le_refl _)
    rw [HSl.out] at h2
    exact h2)
   clear hrow hlt HR hk2
   go_wp2_with fail
   go_ret
   exact ⟨⟨_,_,rfl,FX.out⟩,Hb.out.trans (Hbw.out.mono Hb.out.size)⟩
end Go.Proofs.YtbfddopopajgaaaGreat
namespace Go.Proofs.YtbfddopopajgaaaGreat
open Go Go.RowKit
structure S6 (f:List Int):Prop where
 len:f.length≤6
 t:ptrim f=f
 b:∀ j,(f.getD j 0).natAbs≤32768
section
variable {f:List Int}
theorem S6.p9 (h:S6 f):P9 f:=⟨by have:=plen_le f;have:=h.len;omega,fun j=>Nat.le_trans (h.b j) (Nat.le_trans (by rw [Nat.pow_one,BB_eq];decide) (bbk_le (show 1≤10 by decide)))⟩
theorem S6.pl (h:S6 f):plen f≤6:=by have:=plen_le f;have:=h.len;omega
theorem S6.q9 (h:S6 f):P9 (qpart f):=by
 by_cases h0:plen f=0
 ·rw [qpart_nil h0]
  exact ⟨by decide,fun j=>by simp⟩
 ·have hq:=q_facts h.p9.q h0
  refine ⟨by have:=hq.l;have:=h.pl;omega,fun j=>Nat.le_trans (hq.b 1 (fun j=>Nat.le_trans (pprim_abs f j) (Nat.le_trans (h.b j) (by rw [Nat.pow_one,BB_eq];decide))) j) (bbk_le (by decide))⟩
theorem S6.ql (h:S6 f):plen (qpart f)≤6:=by have:=h.p9.part_l;have:=h.pl;omega
theorem S6.qlen (h:S6 f):(qpart f).length≤6:=by rw [← h.p9.part_t,ptrim_length];exact h.ql
theorem S6.g6 (h:S6 f):G6 f:=⟨h.len,fun j=>Nat.le_trans (h.b j) (by rw [BB_eq];decide)⟩
end
noncomputable def tabl (f:List Int) (gs:List (List Int)):List (List Int):=(proots f).map fun r=>gs.map (sgA (qpart f) r)
noncomputable def codes (f:List Int):List (List Int):=tabl f (ders f)
noncomputable def tsgs (f g:List Int):List Int:=(proots f).map fun r=>sgA (qpart f) r g
theorem lay_take {α β:Type} {R:β→List Value→Prop} {F:α→β} {l:List α} {k:Nat} {us vs:List Value} {d:α} (h:Lay R ((l.take k).map F) us) (hk:k<l.length) (hx:R (F (l.getD k d)) vs):Lay R ((l.take (k+1)).map F) (us ++ vs):=by
 have e:l.take (k+1)=l.take k ++ [l.getD k d]:=by
  rw [List.take_succ_eq_append_getElem hk,List.getD_eq_getElem?_getD,List.getElem?_eq_getElem hk]
  rfl
 rw [e,List.map_append]
 exact h.app hx
theorem info_code:(Tryz.prog.info? 75).map (fun i=>(i.zero,i.size,i.bytes))=some (some (.slice none 0 0),1,24):=by kernel_rfl
theorem info_ints:(Tryz.prog.info? 28).map (fun i=>(i.zero,i.size,i.bytes))=some (some (.slice none 0 0),1,24):=by kernel_rfl
theorem info_in1:(Tryz.prog.info? 3).map (fun i=>(i.zero,i.size,i.bytes))=some (some (.int .i64 0),1,8):=by kernel_rfl
def InC (u:Value):Prop:=∃ x,u=.int .i64 x
theorem inC_nd (u:Value) (h:InC u):Nd u:=by obtain ⟨x,rfl⟩:=h;exact ⟨(fun _ h=>by cases h),rfl⟩
def InR (_:World) (x:Int) (vs:List Value):Prop:=vs=[.int .i64 x]
theorem inz:∀ j,j<1→InC ((Value.int .i64 0).cells[j]!):=fun j hj=>by
 match j,hj with
 | 0,_=>exact ⟨0,rfl⟩
theorem Vals.getv {w:World} {g o:Nat} {rs:List (Fq×Fq)} (h:Vals w g o rs) {k:Nat} (hk:k<rs.length) :
  ∃ n A l c B m d n' A' l' c' B' m' d',w.cell? ⟨g,o+k*6,none⟩=some (.bool n)∧w.cell? ⟨g,o+k*6+1,none⟩=some (.slice A l c)∧w.cell? ⟨g,o+k*6+2,none⟩=some (.slice B m d)∧w.cell? ⟨g,o+k*6+3,none⟩=some (.bool n')∧w.cell? ⟨g,o+k*6+4,none⟩=some (.slice A' l' c')∧w.cell? ⟨g,o+k*6+5,none⟩=some (.slice B' m' d') ∧
    IntN w n A l c (rs.getD k r00).1.z∧NatN w B m d (rs.getD k r00).1.q∧IntN w n' A' l' c' (rs.getD k r00).2.z∧NatN w B' m' d' (rs.getD k r00).2.q:=by
 have e:rs[k]?=some (rs.getD k r00):=by rw [List.getD_eq_getElem?_getD,List.getElem?_eq_getElem hk];rfl
 obtain ⟨vs,⟨n,A,l,c,B,m,d,n',A',l',c',B',m',d',hv,h1,h2,h3,h4⟩,hc⟩:=h k _ e
 subst hv
 exact ⟨n,A,l,c,B,m,d,n',A',l',c',B',m',d',hc 0 _ rfl,hc 1 _ rfl,hc 2 _ rfl,hc 3 _ rfl,hc 4 _ rfl,hc 5 _ rfl,h1,h2,h3,h4⟩
theorem SlE.ints {w:World} {A:Option Addr} {l c:Nat} {xs:List Int} (h:SlE 1 InR w A l c xs):I64At w A l c xs:=by
 refine ⟨h.length,h.cap,?_⟩
 rcases h.elems with ⟨h0,_⟩ | ⟨b,o,e,hb,hv⟩
 ·exact .inl h0
 ·refine .inr ⟨b,o,e,hb,fun j hj=>?_⟩
  have hjl:j<xs.length:=by rw [h.length];exact hj
  obtain ⟨vs,ev,hc⟩:=hv j (xs.getD j 0) (by rw [List.getD_eq_getElem?_getD,List.getElem?_eq_getElem hjl];rfl)
  rw [show vs=_ from ev] at hc
  have:=hc 0 _ rfl
  rw [Nat.mul_one,Nat.add_zero] at this
  exact this
set_option maxRecDepth 100000 in
set_option maxHeartbeats 8000000 in
theorem codes_any {w:World} {Af:Option Addr} {lf cf:Nat} {f:List Int} (hf:PolyN w Af lf cf f) (s6:S6 f) :
  Calls Tryz.prog 37 #[.slice Af lf cf] w fun e w'=>(∃ A l c,e=.returned (.slice A l c)∧SlE 1 CodR w' A l c (codes f))∧Below w.heap.size w w':=by
 obtain ⟨i0,hi,hz0,hz1,hz2⟩:=info_parts info_code
 have hlf:lf≤6:=by have:=hf.length;have:=s6.len;omega
 have h9:=s6.p9
 have hq9:=s6.q9
 have hql:=s6.ql
 have hqlen:=s6.qlen
 have HP:=Lib.hid hf
 have S6H:=Lib.hid s6
 have hlen6:=s6.len
 have HB:=Lib.hid s6.b
 clear hf s6
 go_enter Tryz.func37,Tryz.ntmps37
 go_wp2_with fail
 refine (part_q ikN _ _ _ f _ HP.out h9.cp.fit.smp (fun _=>h9.q) (by omega)).mono ?_
 rintro e w1 ⟨A1,l1,c1,rfl,h1,hb1⟩
 obtain ⟨Q,hQ⟩:∃ Q,Q=qpart f:=⟨_,rfl⟩
 rw [← hQ] at h1 hq9 hql hqlen
 have hl1:l1≤6:=by have:=h1.length;omega
 have HQ:=Lib.hid h1
 have HQe:=Lib.hid hQ
 replace HP:=Lib.hid (HP.out.below ikN hb1)
 have Hb:=Lib.hid hb1
 clear h1 hb1 hQ
 go_wp2_with fail
 refine (ders_any ikN HP.out hlen6 HB.out).mono ?_
 rintro e w2 ⟨⟨A2,l2,c2,rfl,h2⟩,hb2⟩
 have hgl:=h2.length
 have hder:(ders f).length=plen f-1:=dkl_len _ _
 have hpl:=S6H.out.pl
 have HG:=Lib.hid (show ∀ k,k<(ders f).length→G6 ((ders f).getD k []) from fun k hk=>by
  unfold ders dkl at hk ⊢
  rw [List.length_map,List.length_range] at hk
  rw [List.getD_eq_getElem?_getD,List.getElem?_map,List.getElem?_range hk]
  exact dk_g6 hlen6 HB.out (by omega))
 have hl2:l2≤1000:=by omega
 have HL:=Lib.hid h2
 replace HP:=Lib.hid (HP.out.below ikN hb2)
 replace HQ:=Lib.hid (HQ.out.below ikN hb2)
 replace Hb:=Lib.hid (Hb.out.trans (hb2.mono Hb.out.size))
 clear h2 hb2 hgl hder hpl
 go_wp2_with fail
 refine (roots_any ikN _ _ _ f _ HP.out h9.cp.fit.smp (fun _=>h9.q) (fun h=>SqF.of9 h9 h) (by omega)).mono ?_
 rintro e w3 ⟨⟨A3,l3,c3,rfl,h3⟩,hb3⟩
 have hn9:=proots_le9 h9
 obtain ⟨RS,hRS⟩:∃ R,R=proots f:=⟨_,rfl⟩
 have hfq:=proots_fqb h9
 rw [← hRS] at h3 hn9 hfq
 have HRS:=Lib.hid hRS
 have Hrl:=Lib.hid h3.length
 have HR:=Lib.hid h3
 have Hfq:=Lib.hid hfq
 replace HQ:=Lib.hid (HQ.out.below ikN hb3)
 replace HL:=Lib.hid (HL.out.belowp hb3)
 replace Hb:=Lib.hid (Hb.out.trans (hb3.mono Hb.out.size))
 have hl3:l3≤9:=by rw [← h3.length];exact hn9
 clear hb3 h3 hRS hfq HP
 obtain ⟨F,hF⟩:∃ F:Fq×Fq→List Int,F=fun r=>(ders f).map (sgA Q r):=⟨_,rfl⟩
 have HF:=Lib.hid hF
 clear hF
 obtain ⟨wo,hwo⟩:∃ wo,wo=w3:=⟨_,rfl⟩
 rw [← hwo] at HR HQ Hb HL ⊢
 clear hwo
 go_wp2_with fail
 go_loopw [5,15] (fun s s15 wr=>∃ k:Nat,k≤l3∧s15=.int .i64 (k:Int)∧(∃ us,OwnE SlC 1 75 wo.heap.size wr s us∧Lay (CodR wr) ((RS.take k).map F) us)∧Below wo.heap.size wo wr) (fun _ s15 _=>l3-(intOf s15).toNat)
 case atStart=>exact ⟨0,Nat.zero_le _,rfl,⟨[],OwnE.nil _ _ _ _ _,rfl⟩,Bel.go⟩
 case round =>
  obtain ⟨k,hk,rfl,⟨us,ho,hly⟩,hbw⟩:=hrel
  by_cases hlt:k<l3
  ·have ka:(k:Int)<(l3:Int):=by omega
   have i1:IntKind.i64.wrap ((k:Int)+1)=(k:Int)+1:=IntWalk.i64_in _ (by omega)
   obtain ⟨b,o,rfl,hb0,hv⟩:∃ b o,A3=some ⟨b,o,none⟩∧b<wr.heap.size∧Vals wr b o RS:=by
    rcases (HR.out.below hbw).elems with ⟨h,_⟩ | h
    ·omega
    ·exact h
   have hkl:k<RS.length:=by rw [Hrl.out];exact hlt
   obtain ⟨n,A,l,c,B,m,d,n',A',l',c',B',m',d',e0,e1,e2,e3,e4,e5,z1,z2,z3,z4⟩:=hv.getv hkl
   obtain ⟨fa,fb⟩:=Hfq.out _ (getD_mem hkl r00)
   obtain ⟨r,hr⟩:∃ r,r=RS.getD k r00:=⟨_,rfl⟩
   rw [← hr] at z1 z2 z3 z4 fa fb
   have HRe:=Lib.hid hr
   have HKL:=Lib.hid hkl
   have jb:=below_new wr (tbox n A l c B m d n' A' l' c' B' m' d')
   have T:=Lib.hid (TBox.make z1 z2 z3 z4)
   have O:=Lib.hid (And.intro (ho.below jb) (show Lay (CodR (wr.alloc (tbox n A l c B m d n' A' l' c' B' m' d'))) ((RS.take k).map F) us from hly.mono fun _ _ hx=>hx.below jb))
   have hul:us.length=k*1:=by rw [hly.len fun x vs hx=>hx.len,List.length_map,List.length_take];omega
   have Hbw:=Lib.hid (hbw.trans (jb.mono hbw.size))
   have HQr:=Lib.hid ((HQ.out.below ikN hbw).below ikN jb)
   have HLr:=Lib.hid ((HL.out.belowp hbw).belowp jb)
   have x0:=T.out.r.c0;have x1:=T.out.r.c1;have x2:=T.out.r.c2;have x3:=T.out.c3;have x4:=T.out.c4;have x5:=T.out.c5
   have Hlt:=Lib.hid hlt
   clear z1 z2 z3 z4 hv hr ho hly hbw jb hlt hkl hk
   go_wp2_with fail
   refine (tsigns_any ikN (r:=r) HQr.out (by omega) hq9 hql HLr.out HG.out (by omega) T.out.r.hz T.out.r.hq T.out.hz T.out.hq fa fb).mono ?_
   rintro e w5 ⟨⟨A5,c5,rfl,h5⟩,hb5⟩
   have jb:=below_new w5 (.cells #[.slice A5 l2 c5] 75)
   have b6:=hb5.trans (jb.mono hb5.size)
   have HX6:=Lib.hid (show CodR (w5.alloc (.cells #[.slice A5 l2 c5] 75)) (F r) [.slice A5 l2 c5] from ⟨_,_,_,rfl,by rw [HF.out];exact h5.below jb⟩)
   have HC6:=Lib.hid (show ∀ (j:Nat) (v:Value),[Value.slice A5 l2 c5][j]?=some v→(w5.alloc (.cells #[.slice A5 l2 c5] 75)).cell? ((⟨w5.heap.size,0,none⟩:Addr).add j)=some v from one_cell _)
   have O5:=Lib.hid (And.intro (O.out.1.below b6) (show Lay (CodR (w5.alloc (.cells #[.slice A5 l2 c5] 75))) ((RS.take k).map F) us from O.out.2.mono fun _ _ hx=>hx.below b6))
   have Hb6:=Lib.hid (Hbw.out.trans (b6.mono Hbw.out.size))
   have Hsz:=Lib.hid (show wo.heap.size≤(w5.alloc (.cells #[.slice A5 l2 c5] 75)).heap.size from Hb6.out.size)
   clear hb5 jb b6 O Hbw HQr T x0 x1 x2 x3 x4 x5 HLr h5
   go_wp2_with (at_builtin;refine wpList_app_own rfl (.tmp 19) (.tmp 24) 70 75 rfl 1 i0 (.slice none 0 0) Tryz.underlying70 hi hz0 hz1 (by rw [hz2];omega) rfl SlC slC_nd slz (by decide) wo.heap.size _ us [.slice A5 l2 c5] rfl O5.out.1 Hsz.out ⟨w5.heap.size,0,none⟩ 1 1 rfl rfl HC6.out (fun u hu=>HX6.out.sl u hu) (.inl (by decide)) (by rw [hul];simp;omega) 25 rfl ?_)
   intro v2 w9 hgr
   have hb9:=hgr.below Hsz.out
   have hn:CodR w9 (F r) [.slice A5 l2 c5]:=codr_mv hgr _ _ HX6.out
   have hly9:Lay (CodR w9) ((RS.take (k+1)).map F) (us ++ [.slice A5 l2 c5]):=by
    have h1:Lay (CodR w9) ((RS.take k).map F) us:=O5.out.2.mono fun p ys hp=>codr_mv hgr p ys hp
    exact lay_take (d:=r00) h1 HKL.out (by rw [← HRe.out];exact hn)
   have O9:=Lib.hid (And.intro hgr.1 hly9)
   have Hb9:=Lib.hid (Hb6.out.trans hb9)
   clear hgr hb9 hly9 hn O5 Hb6 Hsz HC6
   go_wp2_with fail
   go_roundw
   case rel=>exact ⟨k+1,Hlt.out,by go_num,⟨_,O9.out.1,O9.out.2⟩,Hb9.out⟩
   case measure=>have:=Hlt.out;simp [intOf];omega
  ·have hk2:k=l3:=by omega
   have t1:¬ (k:Int)<(l3:Int):=by omega
   obtain ⟨A9,l9,c9,e9,h9'⟩:=ho.sle (by decide) hly fun x vs hx=>hx.len
   subst e9
   have FX:=Lib.hid (show SlE 1 CodR wr A9 l9 c9 (codes f) by
    rw [hk2,← Hrl.out,List.take_length,HF.out] at h9'
    unfold codes tabl
    rw [← HRS.out,← HQe.out]
    exact h9')
   clear ho hly h9' hk2 hlt
   go_wp2_with fail
   go_ret
   exact ⟨⟨_,_,_,rfl,FX.out⟩,Hb.out.trans (hbw.mono Hb.out.size)⟩
set_option maxRecDepth 100000 in
set_option maxHeartbeats 8000000 in
theorem table_any {w:World} {Af:Option Addr} {lf cf:Nat} {f:List Int} {Al:Option Addr} {ll cl:Nat} {gs:List (List Int)} (hf:PolyN w Af lf cf f) (s6:S6 f) (hl:SlE 1 PolR w Al ll cl gs) (hg:∀ k,k<gs.length→G6 (gs.getD k [])) (hll:ll≤1000) :
  Calls Tryz.prog 18 #[.slice Af lf cf,.slice Al ll cl] w fun e w'=>(∃ A l c,e=.returned (.slice A l c)∧SlE 1 CodR w' A l c (tabl f gs))∧Below w.heap.size w w':=by
 obtain ⟨i0,hi,hz0,hz1,hz2⟩:=info_parts info_ints
 have hlf:lf≤6:=by have:=hf.length;have:=s6.len;omega
 have h9:=s6.p9
 have hq9:=s6.q9
 have hql:=s6.ql
 have hqlen:=s6.qlen
 have HP:=Lib.hid hf
 have S6H:=Lib.hid s6
 have HL:=Lib.hid hl
 have HG:=Lib.hid hg
 clear hl hg
 clear hf s6
 go_enter Tryz.func18,Tryz.ntmps18
 go_wp2_with fail
 refine (part_q ikN _ _ _ f _ HP.out h9.cp.fit.smp (fun _=>h9.q) (by omega)).mono ?_
 rintro e w1 ⟨A1,l1,c1,rfl,h1,hb1⟩
 obtain ⟨Q,hQ⟩:∃ Q,Q=qpart f:=⟨_,rfl⟩
 rw [← hQ] at h1 hq9 hql hqlen
 have hl1:l1≤6:=by have:=h1.length;omega
 have HQ:=Lib.hid h1
 have HQe:=Lib.hid hQ
 replace HP:=Lib.hid (HP.out.below ikN hb1)
 replace HL:=Lib.hid (HL.out.belowp hb1)
 have Hb:=Lib.hid hb1
 clear h1 hb1 hQ
 go_wp2_with fail
 refine (roots_any ikN _ _ _ f _ HP.out h9.cp.fit.smp (fun _=>h9.q) (fun h=>SqF.of9 h9 h) (by omega)).mono ?_
 rintro e w3 ⟨⟨A3,l3,c3,rfl,h3⟩,hb3⟩
 have hn9:=proots_le9 h9
 obtain ⟨RS,hRS⟩:∃ R,R=proots f:=⟨_,rfl⟩
 have hfq:=proots_fqb h9
 rw [← hRS] at h3 hn9 hfq
 have HRS:=Lib.hid hRS
 have Hrl:=Lib.hid h3.length
 have HR:=Lib.hid h3
 have Hfq:=Lib.hid hfq
 replace HQ:=Lib.hid (HQ.out.below ikN hb3)
 replace HL:=Lib.hid (HL.out.belowp hb3)
 replace Hb:=Lib.hid (Hb.out.trans (hb3.mono Hb.out.size))
 have hl3:l3≤9:=by rw [← h3.length];exact hn9
 clear hb3 h3 hRS hfq HP
 obtain ⟨F,hF⟩:∃ F:Fq×Fq→List Int,F=fun r=>gs.map (sgA Q r):=⟨_,rfl⟩
 have HF:=Lib.hid hF
 clear hF
 obtain ⟨wo,hwo⟩:∃ wo,wo=w3:=⟨_,rfl⟩
 rw [← hwo] at HR HQ Hb HL ⊢
 clear hwo
 go_wp2_with fail
 go_loopw [6,14] (fun s s15 wr=>∃ k:Nat,k≤l3∧s15=.int .i64 (k:Int)∧(∃ us,OwnE SlC 1 28 wo.heap.size wr s us∧Lay (CodR wr) ((RS.take k).map F) us)∧Below wo.heap.size wo wr) (fun _ s15 _=>l3-(intOf s15).toNat)
 case atStart=>exact ⟨0,Nat.zero_le _,rfl,⟨[],OwnE.nil _ _ _ _ _,rfl⟩,Bel.go⟩
 case round =>
  obtain ⟨k,hk,rfl,⟨us,ho,hly⟩,hbw⟩:=hrel
  by_cases hlt:k<l3
  ·have ka:(k:Int)<(l3:Int):=by omega
   have i1:IntKind.i64.wrap ((k:Int)+1)=(k:Int)+1:=IntWalk.i64_in _ (by omega)
   obtain ⟨b,o,rfl,hb0,hv⟩:∃ b o,A3=some ⟨b,o,none⟩∧b<wr.heap.size∧Vals wr b o RS:=by
    rcases (HR.out.below hbw).elems with ⟨h,_⟩ | h
    ·omega
    ·exact h
   have hkl:k<RS.length:=by rw [Hrl.out];exact hlt
   obtain ⟨n,A,l,c,B,m,d,n',A',l',c',B',m',d',e0,e1,e2,e3,e4,e5,z1,z2,z3,z4⟩:=hv.getv hkl
   obtain ⟨fa,fb⟩:=Hfq.out _ (getD_mem hkl r00)
   obtain ⟨r,hr⟩:∃ r,r=RS.getD k r00:=⟨_,rfl⟩
   rw [← hr] at z1 z2 z3 z4 fa fb
   have HRe:=Lib.hid hr
   have HKL:=Lib.hid hkl
   have jb:=below_new wr (tbox n A l c B m d n' A' l' c' B' m' d')
   have T:=Lib.hid (TBox.make z1 z2 z3 z4)
   have O:=Lib.hid (And.intro (ho.below jb) (show Lay (CodR (wr.alloc (tbox n A l c B m d n' A' l' c' B' m' d'))) ((RS.take k).map F) us from hly.mono fun _ _ hx=>hx.below jb))
   have hul:us.length=k*1:=by rw [hly.len fun x vs hx=>hx.len,List.length_map,List.length_take];omega
   have Hbw:=Lib.hid (hbw.trans (jb.mono hbw.size))
   have HQr:=Lib.hid ((HQ.out.below ikN hbw).below ikN jb)
   have HLr:=Lib.hid ((HL.out.belowp hbw).belowp jb)
   have x0:=T.out.r.c0;have x1:=T.out.r.c1;have x2:=T.out.r.c2;have x3:=T.out.c3;have x4:=T.out.c4;have x5:=T.out.c5
   have Hlt:=Lib.hid hlt
   clear z1 z2 z3 z4 hv hr ho hly hbw jb hlt hkl hk
   go_wp2_with fail
   refine (tsigns_any ikN (r:=r) HQr.out (by omega) hq9 hql HLr.out HG.out (by omega) T.out.r.hz T.out.r.hq T.out.hz T.out.hq fa fb).mono ?_
   rintro e w5 ⟨⟨A5,c5,rfl,h5⟩,hb5⟩
   have jb:=below_new w5 (.cells #[.slice A5 ll c5] 28)
   have b6:=hb5.trans (jb.mono hb5.size)
   have HX6:=Lib.hid (show CodR (w5.alloc (.cells #[.slice A5 ll c5] 28)) (F r) [.slice A5 ll c5] from ⟨_,_,_,rfl,by rw [HF.out];exact h5.below jb⟩)
   have HC6:=Lib.hid (show ∀ (j:Nat) (v:Value),[Value.slice A5 ll c5][j]?=some v→(w5.alloc (.cells #[.slice A5 ll c5] 28)).cell? ((⟨w5.heap.size,0,none⟩:Addr).add j)=some v from one_cell _)
   have O5:=Lib.hid (And.intro (O.out.1.below b6) (show Lay (CodR (w5.alloc (.cells #[.slice A5 ll c5] 28))) ((RS.take k).map F) us from O.out.2.mono fun _ _ hx=>hx.below b6))
   have Hb6:=Lib.hid (Hbw.out.trans (b6.mono Hbw.out.size))
   have Hsz:=Lib.hid (show wo.heap.size≤(w5.alloc (.cells #[.slice A5 ll c5] 28)).heap.size from Hb6.out.size)
   clear hb5 jb b6 O Hbw HQr T x0 x1 x2 x3 x4 x5 HLr h5
   go_wp2_with (at_builtin;refine wpList_app_own rfl (.tmp 18) (.tmp 23) 30 28 rfl 1 i0 (.slice none 0 0) Tryz.underlying30 hi hz0 hz1 (by rw [hz2];omega) rfl SlC slC_nd slz (by decide) wo.heap.size _ us [.slice A5 ll c5] rfl O5.out.1 Hsz.out ⟨w5.heap.size,0,none⟩ 1 1 rfl rfl HC6.out (fun u hu=>HX6.out.sl u hu) (.inl (by decide)) (by rw [hul];simp;omega) 24 rfl ?_)
   intro v2 w9 hgr
   have hb9:=hgr.below Hsz.out
   have hn:CodR w9 (F r) [.slice A5 ll c5]:=codr_mv hgr _ _ HX6.out
   have hly9:Lay (CodR w9) ((RS.take (k+1)).map F) (us ++ [.slice A5 ll c5]):=by
    have h1:Lay (CodR w9) ((RS.take k).map F) us:=O5.out.2.mono fun p ys hp=>codr_mv hgr p ys hp
    exact lay_take (d:=r00) h1 HKL.out (by rw [← HRe.out];exact hn)
   have O9:=Lib.hid (And.intro hgr.1 hly9)
   have Hb9:=Lib.hid (Hb6.out.trans hb9)
   clear hgr hb9 hly9 hn O5 Hb6 Hsz HC6
   go_wp2_with fail
   go_roundw
   case rel=>exact ⟨k+1,Hlt.out,by go_num,⟨_,O9.out.1,O9.out.2⟩,Hb9.out⟩
   case measure=>have:=Hlt.out;simp [intOf];omega
  ·have hk2:k=l3:=by omega
   have t1:¬ (k:Int)<(l3:Int):=by omega
   obtain ⟨A9,l9,c9,e9,h9'⟩:=ho.sle (by decide) hly fun x vs hx=>hx.len
   subst e9
   have FX:=Lib.hid (show SlE 1 CodR wr A9 l9 c9 (tabl f gs) by
    rw [hk2,← Hrl.out,List.take_length,HF.out] at h9'
    unfold tabl
    rw [← HRS.out,← HQe.out]
    exact h9')
   clear ho hly h9' hk2 hlt
   go_wp2_with fail
   go_ret
   exact ⟨⟨_,_,_,rfl,FX.out⟩,Hb.out.trans (hbw.mono Hb.out.size)⟩
set_option maxRecDepth 100000 in
set_option maxHeartbeats 8000000 in
theorem tsgs_any {w:World} {Af:Option Addr} {lf cf:Nat} {f:List Int} {Ag:Option Addr} {lg cg:Nat} {g:List Int} (hf:PolyN w Af lf cf f) (s6:S6 f) (hg:PolyN w Ag lg cg g) (g6:G6 g) :
  Calls Tryz.prog 17 #[.slice Af lf cf,.slice Ag lg cg] w fun e w'=>(∃ A l c,e=.returned (.slice A l c)∧I64At w' A l c (tsgs f g))∧Below w.heap.size w w':=by
 obtain ⟨i0,hi,hz0,hz1,hz2⟩:=info_parts info_in1
 have hlf:lf≤6:=by have:=hf.length;have:=s6.len;omega
 have h9:=s6.p9
 have hq9:=s6.q9
 have hql:=s6.ql
 have hqlen:=s6.qlen
 have HP:=Lib.hid hf
 have S6H:=Lib.hid s6
 have HG:=Lib.hid hg
 clear hg
 clear hf s6
 go_enter Tryz.func17,Tryz.ntmps17
 go_wp2_with fail
 refine (part_q ikN _ _ _ f _ HP.out h9.cp.fit.smp (fun _=>h9.q) (by omega)).mono ?_
 rintro e w1 ⟨A1,l1,c1,rfl,h1,hb1⟩
 obtain ⟨Q,hQ⟩:∃ Q,Q=qpart f:=⟨_,rfl⟩
 rw [← hQ] at h1 hq9 hql hqlen
 have hl1:l1≤6:=by have:=h1.length;omega
 have HQ:=Lib.hid h1
 have HQe:=Lib.hid hQ
 replace HP:=Lib.hid (HP.out.below ikN hb1)
 replace HG:=Lib.hid (HG.out.below ikN hb1)
 have Hb:=Lib.hid hb1
 clear h1 hb1 hQ
 go_wp2_with fail
 refine (roots_any ikN _ _ _ f _ HP.out h9.cp.fit.smp (fun _=>h9.q) (fun h=>SqF.of9 h9 h) (by omega)).mono ?_
 rintro e w3 ⟨⟨A3,l3,c3,rfl,h3⟩,hb3⟩
 have hn9:=proots_le9 h9
 obtain ⟨RS,hRS⟩:∃ R,R=proots f:=⟨_,rfl⟩
 have hfq:=proots_fqb h9
 rw [← hRS] at h3 hn9 hfq
 have HRS:=Lib.hid hRS
 have Hrl:=Lib.hid h3.length
 have HR:=Lib.hid h3
 have Hfq:=Lib.hid hfq
 replace HQ:=Lib.hid (HQ.out.below ikN hb3)
 replace HG:=Lib.hid (HG.out.below ikN hb3)
 replace Hb:=Lib.hid (Hb.out.trans (hb3.mono Hb.out.size))
 have hl3:l3≤9:=by rw [← h3.length];exact hn9
 clear hb3 h3 hRS hfq HP
 obtain ⟨F,hF⟩:∃ F:Fq×Fq→Int,F=fun r=>sgA Q r g:=⟨_,rfl⟩
 have HF:=Lib.hid hF
 clear hF
 obtain ⟨wo,hwo⟩:∃ wo,wo=w3:=⟨_,rfl⟩
 rw [← hwo] at HR HQ Hb HG ⊢
 clear hwo
 go_wp2_with fail
 go_loopw [6,14] (fun s s15 wr=>∃ k:Nat,k≤l3∧s15=.int .i64 (k:Int)∧(∃ us,OwnE InC 1 3 wo.heap.size wr s us∧Lay (InR wr) ((RS.take k).map F) us)∧Below wo.heap.size wo wr) (fun _ s15 _=>l3-(intOf s15).toNat)
 case atStart=>exact ⟨0,Nat.zero_le _,rfl,⟨[],OwnE.nil _ _ _ _ _,rfl⟩,Bel.go⟩
 case round =>
  obtain ⟨k,hk,rfl,⟨us,ho,hly⟩,hbw⟩:=hrel
  by_cases hlt:k<l3
  ·have ka:(k:Int)<(l3:Int):=by omega
   have i1:IntKind.i64.wrap ((k:Int)+1)=(k:Int)+1:=IntWalk.i64_in _ (by omega)
   obtain ⟨b,o,rfl,hb0,hv⟩:∃ b o,A3=some ⟨b,o,none⟩∧b<wr.heap.size∧Vals wr b o RS:=by
    rcases (HR.out.below hbw).elems with ⟨h,_⟩ | h
    ·omega
    ·exact h
   have hkl:k<RS.length:=by rw [Hrl.out];exact hlt
   obtain ⟨n,A,l,c,B,m,d,n',A',l',c',B',m',d',e0,e1,e2,e3,e4,e5,z1,z2,z3,z4⟩:=hv.getv hkl
   obtain ⟨fa,fb⟩:=Hfq.out _ (getD_mem hkl r00)
   obtain ⟨r,hr⟩:∃ r,r=RS.getD k r00:=⟨_,rfl⟩
   rw [← hr] at z1 z2 z3 z4 fa fb
   have HRe:=Lib.hid hr
   have HKL:=Lib.hid hkl
   have jb:=below_new wr (tbox n A l c B m d n' A' l' c' B' m' d')
   have T:=Lib.hid (TBox.make z1 z2 z3 z4)
   have O:=Lib.hid (And.intro (ho.below jb) (show Lay (InR (wr.alloc (tbox n A l c B m d n' A' l' c' B' m' d'))) ((RS.take k).map F) us from hly.mono fun _ _ hx=>hx))
   have hul:us.length=k*1:=by rw [hly.len fun x vs hx=>(show vs.length=1 by rw [show vs=_ from hx];rfl),List.length_map,List.length_take];omega
   have Hbw:=Lib.hid (hbw.trans (jb.mono hbw.size))
   have HQr:=Lib.hid ((HQ.out.below ikN hbw).below ikN jb)
   have HGr:=Lib.hid ((HG.out.below ikN hbw).below ikN jb)
   have x0:=T.out.r.c0;have x1:=T.out.r.c1;have x2:=T.out.r.c2;have x3:=T.out.c3;have x4:=T.out.c4;have x5:=T.out.c5
   have Hlt:=Lib.hid hlt
   clear z1 z2 z3 z4 hv hr ho hly hbw jb hlt hkl hk
   go_wp2_with fail
   refine (tsign_any ikN ikN (r:=r) HQr.out (by omega) hq9 hql HGr.out g6 T.out.r.hz T.out.r.hq T.out.hz T.out.hq fa fb).mono ?_
   rintro e w5 ⟨he,hb5⟩
   obtain ⟨V5,hV5⟩:∃ V,V=sgA Q r g:=⟨_,rfl⟩
   have he2:e=.returned (.int .i64 V5):=by rw [hV5];exact he
   subst he2
   clear he
   have jb:=below_new w5 (.cells #[.int .i64 V5] 3)
   have b6:=hb5.trans (jb.mono hb5.size)
   have HX6:=Lib.hid (show ∀ W,InR W (F r) [.int .i64 V5] from fun W=>by rw [HF.out,hV5];rfl)
   have HC6:=Lib.hid (show ∀ (j:Nat) (v:Value),[Value.int .i64 V5][j]?=some v→(w5.alloc (.cells #[.int .i64 V5] 3)).cell? ((⟨w5.heap.size,0,none⟩:Addr).add j)=some v from one_cell _)
   have O5:=Lib.hid (And.intro (O.out.1.below b6) (show Lay (InR (w5.alloc (.cells #[.int .i64 V5] 3))) ((RS.take k).map F) us from O.out.2.mono fun _ _ hx=>hx))
   have Hb6:=Lib.hid (Hbw.out.trans (b6.mono Hbw.out.size))
   have Hsz:=Lib.hid (show wo.heap.size≤(w5.alloc (.cells #[.int .i64 V5] 3)).heap.size from Hb6.out.size)
   clear hb5 jb b6 O Hbw HQr T x0 x1 x2 x3 x4 x5 HGr hV5
   go_wp2_with (at_builtin;refine wpList_app_own rfl (.tmp 18) (.tmp 23) 28 3 rfl 1 i0 (.int .i64 0) Tryz.underlying28 hi hz0 hz1 (by rw [hz2];omega) rfl InC inC_nd inz (by decide) wo.heap.size _ us [.int .i64 V5] rfl O5.out.1 Hsz.out ⟨w5.heap.size,0,none⟩ 1 1 rfl rfl HC6.out (fun u hu=>⟨V5,by simpa using hu⟩) (.inl (by decide)) (by rw [hul];simp;omega) 24 rfl ?_)
   intro v2 w9 hgr
   have hb9:=hgr.below Hsz.out
   have hn:InR w9 (F r) [.int .i64 V5]:=HX6.out _
   have hly9:Lay (InR w9) ((RS.take (k+1)).map F) (us ++ [.int .i64 V5]):=by
    have h1:Lay (InR w9) ((RS.take k).map F) us:=O5.out.2.mono fun p ys hp=>hp
    exact lay_take (d:=r00) h1 HKL.out (by rw [← HRe.out];exact hn)
   have O9:=Lib.hid (And.intro hgr.1 hly9)
   have Hb9:=Lib.hid (Hb6.out.trans hb9)
   clear hgr hb9 hly9 hn O5 Hb6 Hsz HC6
   go_wp2_with fail
   go_roundw
   case rel=>exact ⟨k+1,Hlt.out,by go_num,⟨_,O9.out.1,O9.out.2⟩,Hb9.out⟩
   case measure=>have:=Hlt.out;simp [intOf];omega
  ·have hk2:k=l3:=by omega
   have t1:¬ (k:Int)<(l3:Int):=by omega
   obtain ⟨A9,l9,c9,e9,h9'⟩:=ho.sle (by decide) hly fun x vs hx=>by rw [show vs=_ from hx];rfl
   subst e9
   have FX:=Lib.hid (show I64At wr A9 l9 c9 (tsgs f g) by
    rw [hk2,← Hrl.out,List.take_length,HF.out] at h9'
    unfold tsgs
    rw [← HRS.out,← HQe.out]
    exact h9'.ints)
   clear ho hly h9' hk2 hlt
   go_wp2_with fail
   go_ret
   exact ⟨⟨_,_,_,rfl,FX.out⟩,Hb.out.trans (hbw.mono Hb.out.size)⟩
end Go.Proofs.YtbfddopopajgaaaGreat
namespace Go.Proofs.YtbfddopopajgaaaGreat
open Go Go.RowKit
structure I8At (w:World) (A:Option Addr) (len cap:Nat) (p:List Int):Prop where
 length:p.length=len
 range:∀ c∈p,-128≤c∧c≤127
 cells:len=0∨∃ b off,A=some ⟨b,off,none⟩∧b<w.heap.size∧∀ j,j<len→w.cell? ⟨b,off+j,none⟩=some (.int .i8 (p.getD j 0))
theorem I8At.below {w w':World} {A:Option Addr} {len cap:Nat} {p:List Int} (h:I8At w A len cap p) (hb:Below w.heap.size w w'):I8At w' A len cap p:=by
 refine ⟨h.length,h.range,?_⟩
 rcases h.cells with h0 | ⟨b,off,hA,hlt,hc⟩
 ·exact .inl h0
 ·exact .inr ⟨b,off,hA,Nat.lt_of_lt_of_le hlt hb.size,fun j hj=>(hb.cell (p:=⟨b,off+j,none⟩) hlt).trans (hc j hj)⟩
end Go.Proofs.YtbfddopopajgaaaGreat
namespace Go.Proofs.YtbfddopopajgaaaGreat
open Go Go.RowKit
theorem codes_len (f:List Int):(codes f).length=(proots f).length:=by unfold codes tabl;rw [List.length_map]
theorem w2_s6:S6 w2:=⟨by decide,by decide,fun j=>by
 match j with
 | 0=>decide
 | 1=>decide
 | 2=>decide
 | j+3=>simp [w2]⟩
theorem w2_all:nall w2=2:=by decide +kernel
theorem w2_codes:(codes w2).length=2:=by
 have h:=(cmpl_roots w2_s6.p9).1
 rw [w2_all] at h
 rw [codes_len]
 omega
theorem w2_atT (w:World):I64At (w.alloc (.cells #[.int .i64 (-2),.int .i64 0,.int .i64 1] 2)) (some ⟨w.heap.size,0,none⟩) 3 3 w2:=by
 refine ⟨rfl,by omega,.inr ⟨w.heap.size,0,rfl,by simp,fun j hj=>?_⟩⟩
 match j,hj with
 | 0,_=>simp [w2]
 | 1,_=>simp [w2]
 | 2,_=>simp [w2]
set_option maxHeartbeats 1000000 in
theorem awake19_any (w:World):Calls Tryz.prog 15 #[] w fun e w'=>e=.returned (.bool true)∧Below w.heap.size w w':=by
 have jb:=below_new w (.cells #[.int .i64 (-2),.int .i64 0,.int .i64 1] 2)
 have hat:=w2_atT w
 go_enter Tryz.func15,Tryz.ntmps15
 go_wp2_with fail
 refine (pof_any _ _ _ _ _ (by first | exact hat | simpa using hat) (by intro c hc;simp [w2] at hc;rcases hc with rfl | rfl | rfl<;>(unfold I64;omega)) (by omega)).mono ?_
 rintro e w1 ⟨A1,l1,c1,rfl,h1,hb1⟩
 rw [show ptrim w2=w2 by decide] at h1
 have HP:=Lib.hid h1
 have Hb:=Lib.hid (jb.trans (hb1.mono jb.size))
 clear hb1 h1 hat jb
 go_wp2_with fail
 refine (codes_any HP.out w2_s6).mono ?_
 rintro e w2' ⟨⟨A2,l2,c2,rfl,h2⟩,hb2⟩
 have hl:l2=2:=by rw [← h2.length];exact w2_codes
 subst hl
 replace Hb:=Lib.hid (Hb.out.trans (hb2.mono Hb.out.size))
 clear hb2 h2 HP
 go_wp2
 go_ret
 exact ⟨by first | rfl | simp,Hb.out⟩
theorem I64At.get {w:World} {A:Option Addr} {l c:Nat} {p:List Int} (h:I64At w A l c p) {k:Nat} (hk:k<l):∃ b o,A=some ⟨b,o,none⟩∧b<w.heap.size∧w.cell? ⟨b,o+k,none⟩=some (.int .i64 (p.getD k 0)):=by
 rcases h.cells with h0 | ⟨b,o,e,hb,hv⟩
 ·omega
 ·exact ⟨b,o,e,hb,hv k hk⟩
theorem list_ext {p q:List Int} (hl:p.length=q.length) (h:∀ j,j<p.length→p.getD j 0=q.getD j 0):p=q:=by
 refine List.ext_getElem hl fun j h1 h2=>?_
 have:=h j h1
 rwa [List.getD_eq_getElem?_getD,List.getD_eq_getElem?_getD,List.getElem?_eq_getElem h1,List.getElem?_eq_getElem h2] at this
set_option maxRecDepth 100000 in
set_option maxHeartbeats 4000000 in
theorem same_any {w:World} {A B:Option Addr} {l c m d:Nat} {p q:List Int} (ha:I64At w A l c p) (hb:I64At w B m d q) (hl:l≤1000000) (hm:m≤1000000) :
  Calls Tryz.prog 20 #[.slice A l c,.slice B m d] w fun e w'=>e=.returned (.bool (decide (p=q)))∧Below w.heap.size w w':=by
 have HA:=Lib.hid ha
 have HB:=Lib.hid hb
 have lp:=ha.length
 have lq:=hb.length
 clear ha hb
 go_enter Tryz.func20,Tryz.ntmps20
 by_cases e0:l=m
 ·subst e0
  go_wp2_with fail
  go_loopw [5] (fun s5 wr=>∃ k:Nat,k≤l∧s5=.int .i64 (k:Int)∧Below w.heap.size w wr∧∀ j,j<k→p.getD j 0=q.getD j 0) (fun s5 _=>l-(intOf s5).toNat)
  case atStart=>exact ⟨0,Nat.zero_le _,rfl,Below.refl _ _,fun j hj=>by omega⟩
  case round =>
   obtain ⟨k,hk,rfl,hbw,hs⟩:=hrel
   have HS:=Lib.hid hs
   have HAr:=Lib.hid (HA.out.below hbw)
   have HBr:=Lib.hid (HB.out.below hbw)
   have Hbw:=Lib.hid hbw
   clear hs hbw
   by_cases hlt:k<l
   ·have ka:(k:Int)<(l:Int):=by omega
    have i1:IntKind.i64.wrap ((k:Int)+1)=(k:Int)+1:=IntWalk.i64_in _ (by omega)
    obtain ⟨b1,o1,rfl,_,x1⟩:=HAr.out.get hlt
    obtain ⟨b2,o2,rfl,_,x2⟩:=HBr.out.get hlt
    obtain ⟨u,hu⟩:∃ u,u=p.getD k 0:=⟨_,rfl⟩
    obtain ⟨v,hv⟩:∃ v,v=q.getD k 0:=⟨_,rfl⟩
    rw [← hu] at x1
    rw [← hv] at x2
    have HU:=Lib.hid (And.intro hu hv)
    have Hlt:=Lib.hid hlt
    clear hu hv
    by_cases e1:u=v
    ·have e2:(u != v)=false:=by rw [e1];simp
     have HE:=Lib.hid e1
     subst e1
     go_wp2_with fail
     go_region
     go_wp2_with fail
     go_roundw
     case rel=>exact ⟨k+1,Hlt.out,by go_num,Hbw.out.trans Bel.go,fun j hj=>by
      by_cases h:j=k
      ·rw [h,← HU.out.1,← HU.out.2]
      ·exact HS.out j (by omega)⟩
     case measure=>have:=Hlt.out;simp [intOf];omega
    ·have FX:=Lib.hid (show decide (p=q)=false from decide_eq_false fun e=>e1 (by rw [HU.out.1,HU.out.2,e]))
     have e2:(u == v)=false:=by simpa using e1
     clear hlt
     go_wp2_with fail
     go_region
     go_wp2_with fail
     go_ret
     exact ⟨by rw [FX.out];rfl,Hbw.out.trans Bel.go⟩
   ·have hk2:k=l:=by omega
    have t1:¬ (k:Int)<(l:Int):=by omega
    have FX:=Lib.hid (show decide (p=q)=true from decide_eq_true (list_ext (by omega) fun j hj=>HS.out j (by omega)))
    clear hlt hk2
    go_wp2_with fail
    go_ret
    exact ⟨by rw [FX.out];rfl,Hbw.out⟩
 ·have FX:=Lib.hid (show decide (p=q)=false from decide_eq_false fun e=>e0 (by rw [← lp,← lq,e]))
  have e1:((l:Int) == (m:Int))=false:=by rw [beq_eq_false_iff_ne];omega
  have e2:¬ (l:Int)=(m:Int):=by omega
  go_wp2_with fail
  go_ret
  exact ⟨by rw [FX.out];rfl,Below.refl _ _⟩
set_option maxRecDepth 100000 in
set_option maxHeartbeats 4000000 in
theorem wide_any {w:World} {A:Option Addr} {l c n:Nat} {p:List Int} (ha:I8At w A l c p) (hn:n≤1000) :
  Calls Tryz.prog 27 #[.slice A l c,.int .i64 (n:Int)] w fun e w'=>(∃ A' l' c',e=.returned (.slice A' l' c')∧I64At w' A' l' c' (p.take n))∧Below w.heap.size w w':=by
 obtain ⟨i0,hi,hz0,hz1,hz2⟩:=info_parts info_in1
 have HA:=Lib.hid ha
 have lp:=ha.length
 clear ha
 go_enter Tryz.func27,Tryz.ntmps27
 obtain ⟨wo,hwo⟩:∃ wo,wo=w:=⟨_,rfl⟩
 rw [← hwo] at HA ⊢
 clear hwo
 go_wp2_with fail
 go_loopw [5,6] (fun s5 s6 wr=>∃ k:Nat,k≤l∧k≤n∧s6=.int .i64 (k:Int)∧(∃ us,OwnE InC 1 3 wo.heap.size wr s5 us∧Lay (InR wr) (p.take k) us)∧Below wo.heap.size wo wr) (fun _ s6 _=>l-(intOf s6).toNat)
 case atStart=>exact ⟨0,Nat.zero_le _,Nat.zero_le _,rfl,⟨[],OwnE.nil _ _ _ _ _,rfl⟩,Bel.go⟩
 case round =>
  obtain ⟨k,hk,hkn,rfl,⟨us,ho,hly⟩,hbw⟩:=hrel
  by_cases hlt:k<l∧k<n
  ·have ka:(k:Int)<(l:Int):=by omega
   have kb:(k:Int)<(n:Int):=by omega
   have i1:IntKind.i64.wrap ((k:Int)+1)=(k:Int)+1:=IntWalk.i64_in _ (by omega)
   have hbx:=(HA.out.below hbw).cells
   obtain ⟨b,o,rfl,hb0,hv⟩:∃ b o,A=some ⟨b,o,none⟩∧b<wr.heap.size∧∀ j,j<l→wr.cell? ⟨b,o+j,none⟩=some (.int .i8 (p.getD j 0)):=by
    rcases hbx with h | ⟨b,o,e,h1,h2⟩
    ·omega
    ·exact ⟨b,o,e,h1,h2⟩
   have x0:=hv k hlt.1
   obtain ⟨V,hV⟩:∃ V,V=p.getD k 0:=⟨_,rfl⟩
   rw [← hV] at x0
   have hV8:-128≤V∧V≤127:=by
    rw [hV]
    exact HA.out.range _ (by rw [List.getD_eq_getElem?_getD,List.getElem?_eq_getElem (by omega:k<p.length)];exact List.getElem_mem _)
   have i2:IntKind.i64.wrap V=V:=IntWalk.i64_in _ (by omega)
   have hul:us.length=k:=by rw [hly.len fun x vs hx=>(show vs.length=1 by rw [show vs=_ from hx];rfl),List.length_take];omega
   have jb:=below_new wr (.cells #[.int .i64 V] 3)
   have O:=Lib.hid (And.intro (ho.below jb) (show Lay (InR (wr.alloc (.cells #[.int .i64 V] 3))) (p.take k) us from hly))
   have Hbw:=Lib.hid (hbw.trans (jb.mono hbw.size))
   have Hsz:=Lib.hid (show wo.heap.size≤(wr.alloc (.cells #[.int .i64 V] 3)).heap.size from Hbw.out.size)
   have HVe:=Lib.hid hV
   have Hlt:=Lib.hid hlt
   have HC6:=Lib.hid (show ∀ (j:Nat) (v:Value),[Value.int .i64 V][j]?=some v→(wr.alloc (.cells #[.int .i64 V] 3)).cell? ((⟨wr.heap.size,0,none⟩:Addr).add j)=some v from one_cell _)
   clear hbx hv hV ho hly hbw jb hlt
   go_wp2_with (at_builtin;refine wpList_app_own rfl (.tmp 18) (.tmp 24) 28 3 rfl 1 i0 (.int .i64 0) Tryz.underlying28 hi hz0 hz1 (by rw [hz2];omega) rfl InC inC_nd inz (by decide) wo.heap.size _ us [.int .i64 V] rfl O.out.1 Hsz.out ⟨wr.heap.size,0,none⟩ 1 1 rfl rfl HC6.out (fun u hu=>⟨V,by simpa using hu⟩) (.inl (by decide)) (by rw [hul];simp;omega) 25 rfl ?_)
   intro v2 w9 hgr
   have hb9:=hgr.below Hsz.out
   have hly9:Lay (InR w9) (p.take (k+1)) (us ++ [.int .i64 V]):=by
    have h2:=Lay.app (R:=InR w9) (xs:=p.take k) (us:=us) (x:=V) (vs:=[.int .i64 V]) O.out.2 rfl
    have e:p.take (k+1)=p.take k ++ [V]:=by
     have hkl:k<p.length:=by have:=Hlt.out.1;omega
     rw [List.take_succ_eq_append_getElem hkl,HVe.out,List.getD_eq_getElem?_getD,List.getElem?_eq_getElem hkl]
     rfl
    rw [e]
    exact h2
   have O9:=Lib.hid (And.intro hgr.1 hly9)
   have Hb9:=Lib.hid (Hbw.out.trans hb9)
   clear hgr hb9 hly9 O Hbw Hsz HC6
   go_wp2_with fail
   go_roundw
   case rel=>exact ⟨k+1,Hlt.out.1,Hlt.out.2,by go_num,⟨_,O9.out.1,O9.out.2⟩,Hb9.out⟩
   case measure=>have:=Hlt.out;simp [intOf];omega
  ·obtain ⟨A9,l9,c9,e9,h9'⟩:=ho.sle (by decide) hly fun x vs hx=>(show vs.length=1 by rw [show vs=_ from hx];rfl)
   subst e9
   have FX:=Lib.hid (show I64At wr A9 l9 c9 (p.take n) by
    have e:p.take n=p.take k:=by
     by_cases h:k=n
     ·rw [h]
     ·rw [List.take_of_length_le (by omega),List.take_of_length_le (by omega)]
    rw [e]
    exact SlE.ints h9')
   clear ho hly h9'
   by_cases h1:k<l
   ·have t0:(k:Int)<(l:Int):=by omega
    have t1:¬ (k:Int)<(n:Int):=by omega
    clear hlt
    go_wp2_with fail
    go_ret
    exact ⟨⟨_,_,_,rfl,FX.out⟩,hbw⟩
   ·have t0:¬ (k:Int)<(l:Int):=by omega
    clear hlt
    go_wp2_with fail
    go_ret
    exact ⟨⟨_,_,_,rfl,FX.out⟩,hbw⟩
end Go.Proofs.YtbfddopopajgaaaGreat
namespace Go.Proofs.YtbfddopopajgaaaGreat
open Go.RowKit
theorem rat_lec {a b:Rat} (h:a≤b):a<b∨a=b:=by
 by_cases c:a<b
 ·exact .inl c
 ·exact .inr (by grind)
section
variable {f:List Int} {xs:List Pt} {rs:List (Fq×Fq)} {i k:Nat}
theorem root_idx (hx:Lst (fun x=>sgp f x=0) xs) {y:Pt} (hy:sgp f y=0):∃ j,j<xs.length∧xs.getD j default=y:=by
 obtain ⟨j,hj,e⟩:=List.getElem_of_mem ((hx.2 y).2 hy)
 exact ⟨j,hj,by rw [List.getD_eq_getElem?_getD,List.getElem?_eq_getElem hj,e];rfl⟩
theorem idx_root (hx:Lst (fun x=>sgp f x=0) xs) (hk:k<xs.length):sgp f (xs.getD k default)=0:=(hx.2 _).1 (by
 rw [List.getD_eq_getElem?_getD,List.getElem?_eq_getElem hk]
 exact List.getElem_mem hk)
theorem below_lst {p:Pt} (hx:Lst (fun x=>sgp f x=0) xs) (lo:∀ j,j<i→xs.getD j default<p) (hi:∀ j,i≤j→j<xs.length→¬ xs.getD j default<p):Lst (fun x=>sgp f x=0∧x<p) (xs.take i):=by
 refine ⟨hx.1.take,fun y=>⟨fun hy=>?_,fun hy=>?_⟩⟩
 ·obtain ⟨j,hj,e⟩:=List.getElem_of_mem hy
  rw [List.length_take] at hj
  rw [List.getElem_take] at e
  have hj2:j<xs.length:=by omega
  refine ⟨(hx.2 y).1 (by rw [← e];exact List.getElem_mem _),?_⟩
  have:=lo j (by omega)
  rw [List.getD_eq_getElem?_getD,List.getElem?_eq_getElem hj2] at this
  rw [← e]
  exact this
 ·obtain ⟨j,hj,e⟩:=root_idx hx hy.1
  have hji:j<i:=Nat.lt_of_not_le fun hc=>hi j hc hj (by rw [e];exact hy.2)
  refine List.mem_iff_getElem.2 ⟨j,by rw [List.length_take];omega,?_⟩
  rw [List.getElem_take]
  rw [List.getD_eq_getElem?_getD,List.getElem?_eq_getElem hj] at e
  exact e
theorem below_k (h9:P9 f) (h0:plen f≠0) (hx:Lst (fun x=>sgp f x=0) xs) (hi:i≤xs.length) {g:Fq} (hq:0<g.q) (lo:∀ j,j<i→xs.getD j default<g.p) (hi2:∀ j,i≤j→j<xs.length→¬ xs.getD j default<g.p):nbelow f g.z g.q=i:=by
 rw [nbelow_len h9 h0 hq (below_lst hx lo hi2),List.length_take,Nat.min_eq_left hi]
theorem RF.lo_lt (h:RF f xs rs) {j:Nat} (hj:j<k) (hk:k<xs.length):xs.getD j default<(rs.getD k r00).1.p:=by
 have ij:=h.iso j (by omega)
 have ik:=h.iso k hk
 have ho:=h.ord j k hj hk
 have lt:=asc_get h.lst.1 hj hk
 rcases Pt.tri (xs.getD j default) (rs.getD k r00).1.p with c | c | c
 ·exact c
 ·rcases ik.2 with i2 | i2
  ·rw [c,i2.2] at lt;exact absurd lt (Pt.irr _)
  ·exact absurd (by rw [← c];exact ij.1) i2.2.1
 ·refine absurd ?_ ij.hi
  rcases rat_lec ho with c2 | c2
  ·exact Pt.lt_trans (Pt.of_lt_of.2 c2) c
  ·unfold Fq.p;rw [c2];exact c
theorem RF.below_lo (h:RF f xs rs) (h9:P9 f) (h0:plen f≠0) (hk:k<xs.length):nbelow f (rs.getD k r00).1.z (rs.getD k r00).1.q=k :=
 below_k h9 h0 h.lst (Nat.le_of_lt hk) (h.fa hk).1.p (fun j hj=>h.lo_lt hj hk) fun j hj hj2 c=>by
  have ik:=h.iso k hk
  rcases Nat.lt_or_ge k j with h1 | h1
  ·exact ik.lo (Pt.lt_trans (asc_get h.lst.1 h1 hj2) c)
  ·obtain rfl:j=k:=by omega
   exact ik.lo c
theorem asc_le (hx:Asc xs) {j:Nat} (hj:j≤k) (hk:k<xs.length):¬ xs.getD k default<xs.getD j default:=fun c=>by
 rcases Nat.lt_or_ge j k with h1 | h1
 ·exact Pt.asym c (asc_get hx h1 hk)
 ·obtain rfl:j=k:=by omega
  exact Pt.irr _ c
theorem below_gt (h9:P9 f) (h0:plen f≠0) (hx:Lst (fun x=>sgp f x=0) xs) (hk:k<xs.length) {a:Fq} (hq:0<a.q) (h:xs.getD k default<a.p):(k:Int)<nbelow f a.z a.q:=by
 obtain ⟨ys,hy⟩:=roots_lst h0 (fun x=>x<a.p)
 rw [nbelow_len h9 h0 hq hy]
 have h1:=below_lst (i:=k) (p:=xs.getD k default) hx (fun j hj=>asc_get hx.1 hj hk) (fun j hj hj2=>asc_le hx.1 hj hj2)
 have h2:=h1.add_top (idx_root hx hk)
 have:=lst_le h2 hy (fun x hxx=>⟨hxx.1,by
  rcases hxx.2 with c | c
  ·exact Pt.lt_trans c h
  ·rw [c];exact h⟩)
 rw [List.length_append,List.length_take,List.length_singleton] at this
 omega
theorem below_eq (h9:P9 f) (h0:plen f≠0) (hx:Lst (fun x=>sgp f x=0) xs) (hk:k<xs.length) {a:Fq} (hq:0<a.q) (h:xs.getD k default=a.p):nbelow f a.z a.q=k :=
 below_k h9 h0 hx (Nat.le_of_lt hk) hq (fun j hj=>by rw [← h];exact asc_get hx.1 hj hk) fun j hj hj2=>by rw [← h];exact asc_le hx.1 hj hj2
theorem below_lt (h9:P9 f) (h0:plen f≠0) (hx:Lst (fun x=>sgp f x=0) xs) (hk:k<xs.length) {a:Fq} (hq:0<a.q) (h:a.p<xs.getD k default):nbelow f a.z a.q≤k∧(sgp f a.p=0→nbelow f a.z a.q<k):=by
 refine ⟨?_,fun c=>?_⟩
 ·obtain ⟨ys,hy⟩:=roots_lst h0 (fun x=>x<a.p)
  rw [nbelow_len h9 h0 hq hy]
  have h1:=below_lst (i:=k) (p:=xs.getD k default) hx (fun j hj=>asc_get hx.1 hj hk) (fun j hj hj2=>asc_le hx.1 hj hj2)
  have:=lst_le hy h1 (fun x hxx=>⟨hxx.1,Pt.lt_trans hxx.2 h⟩)
  rw [List.length_take] at this
  omega
 ·obtain ⟨j,hj,e⟩:=root_idx hx c
  rw [below_eq h9 h0 hx hj hq e]
  refine Int.ofNat_lt.2 (Nat.lt_of_not_le fun hc=>?_)
  rw [← e] at h
  exact asc_le hx.1 hc hj h
end
end Go.Proofs.YtbfddopopajgaaaGreat
namespace Go.Proofs.YtbfddopopajgaaaGreat
open Go Go.RowKit
theorem short_s6 {w:World} {A:Option Addr} {l c:Nat} {p:List Int} (h:I16At w A l c p) {n:Nat} (hn:n≤6):S6 (ptrim (p.take n)):=by
 have h1:=plen_le (p.take n)
 rw [List.length_take] at h1
 refine ⟨by rw [ptrim_length];omega,ptrim_ptrim _,fun j=>?_⟩
 rw [ptrim_getD]
 rcases Nat.lt_or_ge j (p.take n).length with hj | hj
 ·have hmem:(p.take n).getD j 0∈p:=by
   rw [List.getD_eq_getElem?_getD,List.getElem?_eq_getElem hj]
   exact List.mem_of_mem_take (List.getElem_mem _)
  have:=h.range _ hmem
  omega
 ·rw [getD_out _ hj];omega
section
variable {f g:List Int} {xs:List Pt} {k:Nat} {x:Pt}
theorem S6.sg (h:S6 f) (h0:plen f≠0) (hg:G6 g) {r:Fq×Fq} (ha:FqB r.1) (hb:FqB r.2) (hi:IsoV f x r.1 r.2):sgA (qpart f) r g=sgp g x:=by
 have hq:=q_facts h.p9.q h0
 exact sgA_eq h.q9 h.ql hg hq.q0 (fun y=>(hq.root y).symm) ha hb hi
theorem S6.nz (hk:k<(proots f).length):plen f≠0:=fun e=>by rw [proots_nil e] at hk;cases hk
theorem S6.sgk (h:S6 f) (hx:RF f xs (proots f)) (hk:k<(proots f).length) (hg:G6 g):sgA (qpart f) ((proots f).getD k r00) g=sgp g (xs.getD k default):=by
 have hk':k<xs.length:=by rw [← hx.len];exact hk
 obtain ⟨ha,hb⟩:=hx.fa hk'
 exact h.sg (S6.nz hk) hg ha hb (hx.iso k hk')
theorem map_getD {α β:Type} (F:α→β) (l:List α) (d:α) (e:β) {k:Nat} (hk:k<l.length):(l.map F).getD k e=F (l.getD k d):=by
 rw [List.getD_eq_getElem?_getD,List.getElem?_map,List.getD_eq_getElem?_getD,List.getElem?_eq_getElem hk]
 rfl
theorem tabl_len (f:List Int) (gs:List (List Int)):(tabl f gs).length=(proots f).length:=by unfold tabl;rw [List.length_map]
theorem tabl_get (f:List Int) (gs:List (List Int)) (hk:k<(proots f).length):(tabl f gs).getD k []=gs.map (sgA (qpart f) ((proots f).getD k r00)):=by
 unfold tabl
 exact map_getD _ _ _ _ hk
theorem tsgs_len (f g:List Int):(tsgs f g).length=(proots f).length:=by unfold tsgs;rw [List.length_map]
theorem tsgs_get (f g:List Int) (hk:k<(proots f).length):(tsgs f g).getD k 0=sgA (qpart f) ((proots f).getD k r00) g:=by
 unfold tsgs
 exact map_getD _ _ _ _ hk
theorem S6.self (h:S6 f) (hk:k<(proots f).length):sgA (qpart f) ((proots f).getD k r00) f=0:=by
 obtain ⟨xs,hx⟩:=rf_ex h.p9 (S6.nz hk)
 rw [h.sgk hx hk h.g6]
 exact idx_root hx.lst (by rw [← hx.len];exact hk)
theorem proots_nall (h:S6 f):nall f=((proots f).length:Int):=(cmpl_roots h.p9).1.symm
end
theorem three_polys {w:World} {A B C:Option Addr} {l m n c d e:Nat} {f g h:List Int} {b:Nat} (hf:PolyN w A l c f) (hg:PolyN w B m d g) (hh:PolyN w C n e h) (hb:b<w.heap.size)
  (x0:w.cell? ⟨b,0,none⟩=some (.slice A l c)) (x1:w.cell? ⟨b,1,none⟩=some (.slice B m d)) (x2:w.cell? ⟨b,2,none⟩=some (.slice C n e)):SlE 1 PolR w (some ⟨b,0,none⟩) 3 3 [f,g,h]:=by
 refine ⟨rfl,Nat.le_refl _,.inr ⟨b,0,rfl,hb,fun i x hi=>?_⟩⟩
 match i,hi with
 | 0,hi =>
   cases hi
   exact ⟨_,⟨A,l,c,rfl,hf⟩,fun j v hj=>by match j,hj with | 0,hj=>cases hj;exact x0⟩
 | 1,hi =>
   cases hi
   exact ⟨_,⟨B,m,d,rfl,hg⟩,fun j v hj=>by match j,hj with | 0,hj=>cases hj;exact x1⟩
 | 2,hi =>
   cases hi
   exact ⟨_,⟨C,n,e,rfl,hh⟩,fun j v hj=>by match j,hj with | 0,hj=>cases hj;exact x2⟩
theorem three_ints {w:World} {u v x:Int} {b:Nat} (hb:b<w.heap.size) (x0:w.cell? ⟨b,0,none⟩=some (.int .i64 u)) (x1:w.cell? ⟨b,1,none⟩=some (.int .i64 v)) (x2:w.cell? ⟨b,2,none⟩=some (.int .i64 x)):I64At w (some ⟨b,0,none⟩) 3 3 [u,v,x]:=by
 refine ⟨rfl,Nat.le_refl _,.inr ⟨b,0,rfl,hb,fun j hj=>?_⟩⟩
 match j,hj with
 | 0,_=>exact x0
 | 1,_=>exact x1
 | 2,_=>exact x2
theorem no_polys (w:World):SlE 1 PolR w none 0 0 []:=⟨rfl,Nat.le_refl _,.inl ⟨rfl,rfl,rfl⟩⟩
end Go.Proofs.YtbfddopopajgaaaGreat
namespace Go.Proofs.YtbfddopopajgaaaGreat
open Go Go.RowKit
theorem nall_part {f:List Int} (h:P9 f):nall (qpart f)=nall f:=by
 by_cases h0:plen f=0
 ·rw [qpart_nil h0,show nall f=0 from pline_nil h0];exact pline_nil rfl
 ·have hq:=q_facts h.q h0
  obtain ⟨xs,hx⟩:=roots_lst h0 (fun _=>True)
  have hx1:Lst (fun x=>sgp f x=0) xs:=hx.congr fun x=>⟨fun h=>h.1,fun h=>⟨h,trivial⟩⟩
  rw [nall_count h.cp h.der h0 hx1,nall_count h.part h.pder hq.q0 (hx1.congr fun x=>(hq.root x).symm)]
set_option maxHeartbeats 400000 in
theorem all_q {I:IntPred} (hI:IK I) (A:Option Addr) (la ca:Nat) (F:List Int) (w:World) (hf:PolyP I w A la ca F) (h9:P9 F) (hla:la≤1000000) :
  Calls Tryz.prog 19 #[.slice A la ca] w fun e w'=>e=.returned (.int .i64 (nall F))∧Below w.heap.size w w':=by
 have sf:=h9.cp.fit.smp
 have c1:=h9.part
 have c2:=h9.pder
 have hn:=Lib.hid (nall_part h9)
 obtain ⟨V,hV⟩:∃ V,V=nall F:=⟨_,rfl⟩
 rw [← hV] at hn ⊢
 clear hV
 go_enter Tryz.func19,Tryz.ntmps19
 go_wp2_with fail
 refine (part_q hI _ _ _ _ _ hf sf (fun _=>h9.q) hla).mono ?_
 rintro e w1 ⟨A1,l1,c1',rfl,h1,hb1⟩
 have hl:=h1.length
 have ht:=h9.part_t
 have hlp:=c1.len
 have hl1:l1≤10:=by rw [← hl,← ht,ptrim_length];exact hlp
 have Hb1:=Lib.hid hb1
 obtain ⟨Q,hQ⟩:∃ Q,Q=qpart F:=⟨_,rfl⟩
 rw [← hQ] at h1 c1 c2 hn
 obtain ⟨k1,k2,k3,k4⟩:=chain_all c1 c2
 clear hf hb1 hl ht hlp hQ
 go_wp2_with fail
 refine (sturmof_any _ _ _ _ _ h1 c1.fit.smp c2.fit.smp (by omega) 12 k1 (by omega)).mono ?_
 rintro e w2' ⟨A2,l2,c2',rfl,h2,hb2⟩
 have Hb2:=Lib.hid (Hb1.out.trans (hb2.mono Hb1.out.size))
 clear h1 hb2 Hb1
 go_wp2_with fail
 refine (lost_q _ _ _ _ _ _ _ h2 k2 (by omega)).mono ?_
 rintro e w3 ⟨he,hb3⟩
 have he2:e=.returned (.int .i64 V):=by rw [he,← hn.out];rfl
 subst he2
 have Hb3:=Lib.hid (Hb2.out.trans (hb3.mono Hb2.out.size))
 clear h2 hb3 Hb2 he
 go_wp2
 go_ret
 exact ⟨rfl,Hb3.out⟩
end Go.Proofs.YtbfddopopajgaaaGreat
namespace Go.Proofs.YtbfddopopajgaaaGreat
open Go Go.RowKit
set_option maxRecDepth 100000 in
set_option maxHeartbeats 8000000 in
theorem law_tables (A0:Option Addr) (l0 c0:Nat) (p0:List Int) (A1:Option Addr) (l1 c1:Nat) (p1:List Int) (A2:Option Addr) (l2 c2:Nat) (p2:List Int) (w:World) (h0:I16At w A0 l0 c0 p0) (h1:I16At w A1 l1 c1 p1) (h2:I16At w A2 l2 c2 p2) (m0:l0≤9223372036854775807) (m1:l1≤9223372036854775807) (m2:l2≤9223372036854775807) :
  Calls Tryz.prog 3 #[.agg #[.slice A0 l0 c0,.slice A1 l1 c1,.slice A2 l2 c2]] w fun e w'=>e=.returned (.bool true)∧Below w.heap.size w w':=by
 have jb:=below_new w (.cells #[.slice A0 l0 c0,.slice A1 l1 c1,.slice A2 l2 c2] 23)
 have sF:=short_s6 h0 (show 5≤6 by omega)
 have sG:=short_s6 h1 (show 5≤6 by omega)
 have sH:=short_s6 h2 (show 5≤6 by omega)
 obtain ⟨F,hF⟩:∃ F,F=ptrim (p0.take 5):=⟨_,rfl⟩
 obtain ⟨G,hG⟩:∃ G,G=ptrim (p1.take 5):=⟨_,rfl⟩
 obtain ⟨H,hH⟩:∃ H,H=ptrim (p2.take 5):=⟨_,rfl⟩
 rw [← hF] at sF
 rw [← hG] at sG
 rw [← hH] at sH
 have HE:=Lib.hid (And.intro hF.symm (And.intro hG.symm hH.symm))
 have HI:=Lib.hid (And.intro (h0.below jb) (And.intro (h1.below jb) (h2.below jb)))
 have hx:=And.intro (show (w.alloc (.cells #[.slice A0 l0 c0,.slice A1 l1 c1,.slice A2 l2 c2] 23)).cell? ⟨w.heap.size,0,none⟩=some (.slice A0 l0 c0) by go_simp) (And.intro (show (w.alloc (.cells #[.slice A0 l0 c0,.slice A1 l1 c1,.slice A2 l2 c2] 23)).cell? ⟨w.heap.size,1,none⟩=some (.slice A1 l1 c1) by go_simp) (show (w.alloc (.cells #[.slice A0 l0 c0,.slice A1 l1 c1,.slice A2 l2 c2] 23)).cell? ⟨w.heap.size,2,none⟩=some (.slice A2 l2 c2) by go_simp))
 have lt:=show w.heap.size<(w.alloc (.cells #[.slice A0 l0 c0,.slice A1 l1 c1,.slice A2 l2 c2] 23)).heap.size by simp
 have Hx:=Lib.hid hx
 have Hb:=Lib.hid jb
 have SF:=Lib.hid sF
 have SG:=Lib.hid sG
 have SH:=Lib.hid sH
 have na:=Lib.hid (proots_nall sF)
 have n6:=proots_le9 sF.p9
 obtain ⟨n,hn⟩:∃ n,n=(proots F).length:=⟨_,rfl⟩
 rw [← hn] at n6 na
 have HN:=Lib.hid hn
 clear hF hG hH h0 h1 h2 hx jb sF sG sH hn
 obtain ⟨g1,hg1⟩:∃ g,g=w.heap.size:=⟨_,rfl⟩
 obtain ⟨wb,hwb⟩:∃ wb,wb=w.alloc (.cells #[.slice A0 l0 c0,.slice A1 l1 c1,.slice A2 l2 c2] 23):=⟨_,rfl⟩
 go_enter Tryz.func3,Tryz.ntmps3
 go_wp2_with fail
 rw [← hwb,← hg1] at Hx lt
 rw [← hwb] at HI Hb ⊢
 rw [← hg1]
 clear hwb hg1
 refine (awake19_any _).mono ?_
 rintro e w1 ⟨rfl,hb1⟩
 replace HI:=Lib.hid (And.intro (HI.out.1.below hb1) (And.intro (HI.out.2.1.below hb1) (HI.out.2.2.below hb1)))
 replace Hx:=Lib.hid (And.intro ((hb1.cell (p:=⟨g1,0,none⟩) lt).trans Hx.out.1) (And.intro ((hb1.cell (p:=⟨g1,1,none⟩) lt).trans Hx.out.2.1) ((hb1.cell (p:=⟨g1,2,none⟩) lt).trans Hx.out.2.2)))
 replace lt:=Nat.lt_of_lt_of_le lt hb1.size
 replace Hb:=Lib.hid (Hb.out.trans (hb1.mono Hb.out.size))
 clear hb1
 have x0:=Hx.out.1;have x1:=Hx.out.2.1;have x2:=Hx.out.2.2
 go_wp2_with fail
 refine wp_region_held_drew (S:=fun w'=>w'.cell? ⟨g1,0,none⟩=some (.slice A0 l0 c0)∧w'.cell? ⟨g1,1,none⟩=some (.slice A1 l1 c1)∧w'.cell? ⟨g1,2,none⟩=some (.slice A2 l2 c2)) (by kernel_rfl) (by (try dsimp only);go_keep) (fun hHeld=>?_)
 have G0:=Lib.hid (Below.refl w1.heap.size w1)
 (refine tk (i:=0) (v:=?_) rfl rfl (Or.inl ⟨by rfl,?_⟩) ?_;rotate_left;(focus (intro w hSw;(try dsimp only at hSw);go_simp;(try with_reducible rfl)));(simp only [put_lit,List.set]))
 (refine tk (i:=1) (v:=?_) rfl rfl (Or.inl ⟨by rfl,?_⟩) ?_;rotate_left;(focus (intro w hSw;(try dsimp only at hSw);go_simp;(try with_reducible rfl)));(simp only [put_lit,List.set]))
 (refine tk (i:=3) (v:=?_) rfl rfl (Or.inl ⟨by rfl,?_⟩) ?_;rotate_left;(focus (intro w hSw;(try dsimp only at hSw);go_simp;(try with_reducible rfl)));(simp only [put_lit,List.set]))
 (refine tk (i:=4) (v:=?_) rfl rfl (Or.inl ⟨by rfl,?_⟩) ?_;rotate_left;(focus (intro w hSw;(try dsimp only at hSw);go_simp;(try with_reducible rfl)));(simp only [put_lit,List.set]))
 (refine tk (i:=6) (v:=?_) rfl rfl (Or.inl ⟨by rfl,?_⟩) ?_;rotate_left;(focus (intro w hSw;(try dsimp only at hSw);go_simp;(try with_reducible rfl)));(simp only [put_lit,List.set]))
 (refine tk (i:=7) (v:=?_) rfl rfl (Or.inl ⟨by rfl,?_⟩) ?_;rotate_left;(focus (intro w hSw;(try dsimp only at hSw);go_simp;(try with_reducible rfl)));(simp only [put_lit,List.set]))
 (refine wpAnyH_ready (rs:=[2]) (by kernel_rfl) (by simp) ?_;refine AllReadyH.cons rfl (fun K hK=>?_) AllReadyH.nil;go_simp)
 refine (short_any _ _ _ 5 _ _ (HI.out.1.below Bel.go) (by omega) m0).mono ?_
 rintro e w2 ⟨Af,lf,cf,rfl,h2f,hb2⟩
 rw [HE.out.1] at h2f
 have G2:=Lib.hid ((Below.trans Bel.go (hb2.mono (by simp<;>omega))):Below w1.heap.size w1 w2)
 have HP:=Lib.hid h2f
 clear h2f
 obtain ⟨hcx,hfx⟩:=bcellS hb2;refine hK.out _ _ ?_ (fun _=>?_);(focus (((try dsimp only);repeat' apply And.intro)<;>(rw [hcx _ (by go_simp)];go_simp)));clear hHeld hK K hcx hfx;rename_i hHeld;clear hb2
 (refine wpAnyH_ready (rs:=[5]) (by kernel_rfl) (by simp) ?_;refine AllReadyH.cons rfl (fun K hK=>?_) AllReadyH.nil;go_simp)
 refine (short_any _ _ _ 5 _ _ ((HI.out.2.1.below G2.out).below Bel.go) (by omega) m1).mono ?_
 rintro e w3 ⟨Ag,lg,cg,rfl,h3f,hb3⟩
 rw [HE.out.2.1] at h3f
 have G3':=Lib.hid ((Below.trans Bel.go (hb3.mono (by simp<;>omega))):Below w2.heap.size w2 w3)
 replace HP:=Lib.hid (HP.out.below ikN G3'.out)
 have G3:=Lib.hid (G2.out.trans (G3'.out.mono G2.out.size))
 have HQ:=Lib.hid h3f
 clear h3f G3' G2
 obtain ⟨hcx,hfx⟩:=bcellS hb3;refine hK.out _ _ ?_ (fun _=>?_);(focus (((try dsimp only);repeat' apply And.intro)<;>(rw [hcx _ (by go_simp)];go_simp)));clear hHeld hK K hcx hfx;rename_i hHeld;clear hb3
 (refine wpAnyH_ready (rs:=[8]) (by kernel_rfl) (by simp) ?_;refine AllReadyH.cons rfl (fun K hK=>?_) AllReadyH.nil;go_simp)
 refine (short_any _ _ _ 5 _ _ ((HI.out.2.2.below G3.out).below Bel.go) (by omega) m2).mono ?_
 rintro e w4 ⟨Ah,lh,ch,rfl,h4f,hb4⟩
 rw [HE.out.2.2] at h4f
 have G4':=Lib.hid ((Below.trans Bel.go (hb4.mono (by simp<;>omega))):Below w3.heap.size w3 w4)
 replace HP:=Lib.hid (HP.out.below ikN G4'.out)
 replace HQ:=Lib.hid (HQ.out.below ikN G4'.out)
 have G4:=Lib.hid (G3.out.trans (G4'.out.mono G3.out.size))
 have HR:=Lib.hid h4f
 clear h4f G4' G3
 obtain ⟨hcx,hfx⟩:=bcellS hb4;refine hK.out _ _ ?_ (fun _=>?_);(focus (((try dsimp only);repeat' apply And.intro)<;>(rw [hcx _ (by go_simp)];go_simp)));clear hHeld hK K hcx hfx;rename_i hHeld;clear hb4
 (refine tk (i:=9) (v:=?_) rfl rfl (Or.inl ⟨by rfl,?_⟩) ?_;rotate_left;(focus (intro w hSw;(try dsimp only at hSw);go_simp;(try with_reducible rfl)));(simp only [put_lit,List.set]))
 (refine tk (i:=10) (v:=?_) rfl rfl (Or.inl ⟨by rfl,?_⟩) ?_;rotate_left;(focus (intro w hSw;(try dsimp only at hSw);go_simp;(try with_reducible rfl)));(simp only [put_lit,List.set]))
 (refine tk (i:=11) (v:=?_) rfl rfl (Or.inl ⟨by rfl,?_⟩) ?_;rotate_left;(focus (intro w hSw;(try dsimp only at hSw);go_simp;(try with_reducible rfl)));(simp only [put_lit,List.set]))
 refine wpAnyH_done (by kernel_rfl) ?_ _
 replace Hb:=Lib.hid (Hb.out.trans (G4.out.mono Hb.out.size))
 have hlf:lf≤6:=by have:=HP.out.length;have:=SF.out.len;omega
 clear hHeld x0 x1 x2 Hx lt G4 G0 HI HE
 go_wp2_with fail
 refine (tsgs_any HP.out SF.out HQ.out SG.out.g6).mono ?_
 rintro e w5 ⟨⟨A5,l5,c5,rfl,h5⟩,hb5⟩
 have h5l:=h5.length
 rw [tsgs_len,← HN.out] at h5l
 subst h5l
 have T5:=Lib.hid h5
 replace HP:=Lib.hid (HP.out.below ikN hb5)
 replace HQ:=Lib.hid (HQ.out.below ikN hb5)
 replace HR:=Lib.hid (HR.out.below ikN hb5)
 replace Hb:=Lib.hid (Hb.out.trans (hb5.mono Hb.out.size))
 clear h5 hb5
 go_wp2_with fail
 refine (tsgs_any HP.out SF.out HR.out SH.out.g6).mono ?_
 rintro e w6 ⟨⟨A6,l6,c6,rfl,h6⟩,hb6⟩
 have h6l:=h6.length
 rw [tsgs_len,← HN.out] at h6l
 subst h6l
 have T6:=Lib.hid h6
 have jb:=below_new w6 (.cells #[.slice Ag lg cg,.slice Af lf cf,.slice Ah lh ch] 26)
 have b6:=hb6.trans (jb.mono hb6.size)
 have h7:=three_polys (b:=w6.heap.size) (HQ.out.below ikN b6) (HP.out.below ikN b6) (HR.out.below ikN b6) (by simp) (by go_simp) (by go_simp) (by go_simp)
 have HL:=Lib.hid h7
 replace HP:=Lib.hid (HP.out.below ikN b6)
 replace T5:=Lib.hid (T5.out.below b6)
 replace T6:=Lib.hid (T6.out.below jb)
 replace Hb:=Lib.hid (Hb.out.trans (b6.mono Hb.out.size))
 clear h6 hb6 jb b6 h7 HQ HR
 go_wp2_with fail
 refine (table_any HP.out SF.out HL.out (fun k hk=>by
  match k,hk with
  | 0,_=>exact SG.out.g6
  | 1,_=>exact SF.out.g6
  | 2,_=>exact SH.out.g6) (by omega)).mono ?_
 rintro e w7 ⟨⟨A7,l7,c7,rfl,h7⟩,hb7⟩
 have h7l:=h7.length
 rw [tabl_len,← HN.out] at h7l
 subst h7l
 have T7:=Lib.hid h7
 replace HP:=Lib.hid (HP.out.below ikN hb7)
 replace T5:=Lib.hid (T5.out.below hb7)
 replace T6:=Lib.hid (T6.out.below hb7)
 replace Hb:=Lib.hid (Hb.out.trans (hb7.mono Hb.out.size))
 clear h7 hb7 HL
 go_wp2_with fail
 refine (table_any HP.out SF.out (no_polys _) (fun k hk=>by cases hk) (by omega)).mono ?_
 rintro e w8 ⟨⟨A8,l8,c8,rfl,h8⟩,hb8⟩
 have h8l:=h8.length
 rw [tabl_len,← HN.out] at h8l
 subst h8l
 have T8:=Lib.hid h8
 replace HP:=Lib.hid (HP.out.below ikN hb8)
 replace T5:=Lib.hid (T5.out.below hb8)
 replace T6:=Lib.hid (T6.out.below hb8)
 replace T7:=Lib.hid (T7.out.belowc hb8)
 replace Hb:=Lib.hid (Hb.out.trans (hb8.mono Hb.out.size))
 clear h8 hb8
 go_wp2_with fail
 refine (all_q ikN _ _ _ F _ HP.out SF.out.p9 (by omega)).mono ?_
 rintro e w9 ⟨he,hb9⟩
 rw [na.out] at he
 subst he
 replace T5:=Lib.hid (T5.out.below hb9)
 replace T6:=Lib.hid (T6.out.below hb9)
 replace T7:=Lib.hid (T7.out.belowc hb9)
 replace T8:=Lib.hid (T8.out.belowc hb9)
 replace Hb:=Lib.hid (Hb.out.trans (hb9.mono Hb.out.size))
 clear hb9 HP na
 obtain ⟨wo,hwo⟩:∃ wo,wo=w9:=⟨_,rfl⟩
 rw [← hwo] at T5 T6 T7 T8 Hb ⊢
 clear hwo
 go_wp2_with fail
 go_loopw [10] (fun s10 wr=>∃ k:Nat,k≤n∧s10=.int .i64 (k:Int)∧Below wo.heap.size wo wr) (fun s10 _=>n-(intOf s10).toNat)
 case atStart=>exact ⟨0,Nat.zero_le _,rfl,Bel.go⟩
 case round =>
  obtain ⟨k,hk,rfl,hbw⟩:=hrel
  have Hbw:=Lib.hid hbw
  by_cases hlt:k<n
  ·have ka:(k:Int)<(n:Int):=by omega
   have i1:IntKind.i64.wrap ((k:Int)+1)=(k:Int)+1:=IntWalk.i64_in _ (by omega)
   obtain ⟨b5,o5,rfl,k5,x5⟩:=(T5.out.below hbw).get hlt
   obtain ⟨b6,o6,rfl,k6,x6⟩:=(T6.out.below hbw).get hlt
   obtain ⟨b7,o7,A7,l7,c7,rfl,k7,x7,r7⟩:=(T7.out.belowc hbw).getc hlt
   obtain ⟨b8,o8,A8,l8,c8,rfl,k8,x8,r8⟩:=(T8.out.belowc hbw).getc hlt
   have hkp:k<(proots F).length:=by rw [← HN.out];exact hlt
   have e7:=r7.length
   have e8:=r8.length
   rw [tabl_get _ _ hkp] at e8
   have e8':l8=0:=e8.symm
   subst e8'
   rw [tsgs_get _ _ hkp] at x5 x6
   obtain ⟨u,hu⟩:∃ u,u=sgA (qpart F) ((proots F).getD k r00) G:=⟨_,rfl⟩
   obtain ⟨v,hv⟩:∃ v,v=sgA (qpart F) ((proots F).getD k r00) H:=⟨_,rfl⟩
   have hrow:(tabl F [G,F,H]).getD k []=[u,0,v]:=by
    rw [tabl_get _ _ hkp,hu,hv]
    show [_,sgA (qpart F) ((proots F).getD k r00) F,_]=_
    rw [SF.out.self hkp]
   rw [hrow] at r7 e7
   rw [← hu] at x5
   rw [← hv] at x6
   have e7':l7=3:=e7.symm
   subst e7'
   have R7:=Lib.hid r7
   have Hlt:=Lib.hid hlt
   clear hu hv hrow e7 e8 r7 r8 hkp hbw hlt
   go_wp2_with fail
   refine wp_region_held_drew (S:=fun w'=>w'.cell? ⟨b5,o5+k,none⟩=some (.int .i64 u)∧w'.cell? ⟨b6,o6+k,none⟩=some (.int .i64 v)∧w'.cell? ⟨b7,o7+k,none⟩=some (.slice A7 3 c7)∧w'.cell? ⟨b8,o8+k,none⟩=some (.slice A8 0 c8)) (by kernel_rfl) (by (try dsimp only);go_keep) (fun hHeld=>?_)
   (refine tk (i:=0) (v:=?_) rfl rfl (Or.inl ⟨by rfl,?_⟩) ?_;rotate_left;(focus (intro w hSw;(try dsimp only at hSw);go_simp;(try with_reducible rfl)));(simp only [put_lit,List.set]))
   (refine tk (i:=1) (v:=?_) rfl rfl (Or.inl ⟨by rfl,?_⟩) ?_;rotate_left;(focus (intro w hSw;(try dsimp only at hSw);go_simp;(try with_reducible rfl)));(simp only [put_lit,List.set]))
   (refine tk (i:=2) (v:=?_) rfl rfl (Or.inl ⟨by rfl,?_⟩) ?_;rotate_left;(focus (intro w hSw;(try dsimp only at hSw);go_simp;(try with_reducible rfl)));(simp only [put_lit,List.set]))
   (refine tk (i:=3) (v:=?_) rfl rfl (Or.inl ⟨by rfl,?_⟩) ?_;rotate_left;(focus (intro w hSw;(try dsimp only at hSw);go_simp;(try with_reducible rfl)));(simp only [put_lit,List.set]))
   (refine tk (i:=4) (v:=?_) rfl rfl (Or.inl ⟨by rfl,?_⟩) ?_;rotate_left;(focus (intro w hSw;(try dsimp only at hSw);go_simp;(try with_reducible rfl)));(simp only [put_lit,List.set]))
   (refine tk (i:=5) (v:=?_) rfl rfl (Or.inl ⟨by rfl,?_⟩) ?_;rotate_left;(focus (intro w hSw;(try dsimp only at hSw);go_simp;(try with_reducible rfl)));(simp only [put_lit,List.set]))
   (refine tk (i:=6) (v:=?_) rfl rfl (Or.inl ⟨by rfl,?_⟩) ?_;rotate_left;(focus (intro w hSw;(try dsimp only at hSw);go_simp;(try with_reducible rfl)));(simp only [put_lit,List.set]))
   (refine tk (i:=7) (v:=?_) rfl rfl (Or.inl ⟨by rfl,?_⟩) ?_;rotate_left;(focus (intro w hSw;(try dsimp only at hSw);go_simp;(try with_reducible rfl)));(simp only [put_lit,List.set]))
   (refine tk (i:=8) (v:=?_) rfl rfl (Or.inl ⟨by rfl,?_⟩) ?_;rotate_left;(focus (intro w hSw;(try dsimp only at hSw);go_simp;(try with_reducible rfl)));(simp only [put_lit,List.set]))
   (refine tk (i:=9) (v:=?_) rfl rfl (Or.inl ⟨by rfl,?_⟩) ?_;rotate_left;(focus (intro w hSw;(try dsimp only at hSw);go_simp;(try with_reducible rfl)));(simp only [put_lit,List.set]))
   (refine tk (i:=10) (v:=?_) rfl rfl (Or.inl ⟨by rfl,?_⟩) ?_;rotate_left;(focus (intro w hSw;(try dsimp only at hSw);go_simp;(try with_reducible rfl)));(simp only [put_lit,List.set]))
   (refine tk (i:=11) (v:=?_) rfl rfl (Or.inl ⟨by rfl,?_⟩) ?_;rotate_left;(focus (intro w hSw;(try dsimp only at hSw);go_simp;(try with_reducible rfl)));(simp only [put_lit,List.set]))
   (refine wpAnyH_ready (rs:=[12]) (by kernel_rfl) (by simp) ?_;refine AllReadyH.cons rfl (fun K hK=>?_) AllReadyH.nil;go_simp)
   refine hK.out _ _ ?_ (fun _=>?_)
   ·(try dsimp only);go_keep
   clear hHeld hK K;rename_i hHeld
   (refine wpAnyH_ready (rs:=[13]) (by kernel_rfl) (by simp) ?_;refine AllReadyH.cons rfl (fun K hK=>?_) AllReadyH.nil;go_simp)
   refine (same_any (R7.out.below Bel.go) (three_ints (u:=u) (v:=0) (x:=v) (by simp) (by go_simp) (by go_simp) (by go_simp)) (by omega) (by omega)).mono ?_
   rintro e w13 ⟨he,hb13⟩
   rw [decide_eq_true (show ([u,0,v]:List Int)=[u,0,v] from rfl)] at he
   subst he
   have G13:=Lib.hid ((Below.trans Bel.go (hb13.mono (by simp<;>omega))):Below wr.heap.size wr w13)
   obtain ⟨hcx,hfx⟩:=bcellS hb13;refine hK.out _ _ ?_ (fun _=>?_);(focus (((try dsimp only);repeat' apply And.intro)<;>(rw [hcx _ (by go_simp)];go_simp)));clear hHeld hK K hcx hfx;rename_i hHeld;clear hb13
   (refine tk (i:=14) (v:=?_) rfl rfl (Or.inl ⟨by rfl,?_⟩) ?_;rotate_left;(focus (intro w hSw;(try dsimp only at hSw);go_simp;(try with_reducible rfl)));(simp only [put_lit,List.set]))
   (refine tk (i:=15) (v:=?_) rfl rfl (Or.inl ⟨by rfl,?_⟩) ?_;rotate_left;(focus (intro w hSw;(try dsimp only at hSw);go_simp;(try with_reducible rfl)));(simp only [put_lit,List.set]))
   (refine tk (i:=16) (v:=?_) rfl rfl (Or.inl ⟨by rfl,?_⟩) ?_;rotate_left;(focus (intro w hSw;(try dsimp only at hSw);go_simp;(try with_reducible rfl)));(simp only [put_lit,List.set]))
   (refine tk (i:=17) (v:=?_) rfl rfl (Or.inl ⟨by rfl,?_⟩) ?_;rotate_left;(focus (intro w hSw;(try dsimp only at hSw);go_simp;(try with_reducible rfl)));(simp only [put_lit,List.set]))
   (refine tk (i:=18) (v:=?_) rfl rfl (Or.inl ⟨by rfl,?_⟩) ?_;rotate_left;(focus (intro w hSw;(try dsimp only at hSw);go_simp;(try with_reducible rfl)));(simp only [put_lit,List.set]))
   (refine tk (i:=19) (v:=?_) rfl rfl (Or.inl ⟨by rfl,?_⟩) ?_;rotate_left;(focus (intro w hSw;(try dsimp only at hSw);go_simp;(try with_reducible rfl)));(simp only [put_lit,List.set]))
   (refine tk (i:=20) (v:=?_) rfl rfl (Or.inl ⟨by rfl,?_⟩) ?_;rotate_left;(focus (intro w hSw;(try dsimp only at hSw);go_simp;(try with_reducible rfl)));(simp only [put_lit,List.set]))
   (refine tk (i:=21) (v:=?_) rfl rfl (Or.inl ⟨by rfl,?_⟩) ?_;rotate_left;(focus (intro w hSw;(try dsimp only at hSw);go_simp;(try with_reducible rfl)));(simp only [put_lit,List.set]))
   (refine tk (i:=22) (v:=?_) rfl rfl (Or.inl ⟨by rfl,?_⟩) ?_;rotate_left;(focus (intro w hSw;(try dsimp only at hSw);go_simp;(try with_reducible rfl)));(simp only [put_lit,List.set]))
   refine wpAnyH_done (by kernel_rfl) ?_ _
   replace Hbw:=Lib.hid (Hbw.out.trans (G13.out.mono Hbw.out.size))
   clear hHeld x5 x6 x7 x8 G13 R7 T5 T6 T7 T8
   go_wp2_with fail
   go_roundw
   case rel=>exact ⟨k+1,Hlt.out,by go_num,Hbw.out.trans Bel.go⟩
   case measure=>have:=Hlt.out;simp [intOf];omega
  ·have hk2:k=n:=by omega
   have t1:¬ (k:Int)<(n:Int):=by omega
   clear hlt
   go_wp2_with fail
   go_ret
   exact ⟨rfl,Hb.out.trans (Hbw.out.mono Hb.out.size)⟩
end Go.Proofs.YtbfddopopajgaaaGreat
namespace Go.Proofs.YtbfddopopajgaaaGreat
open Go.ChangeShapes Go.WideShapes Go.ChangeAt Go.RowKit
set_option maxRecDepth 100000 in
theorem tables_lifted (os:Os) (started:os.Started) (H:Type) (enc:TypeId×Value→H) :
  ReturnsInHanded {} Tryz.checked os 3 .any (Rows.thomTablesSpec.pre6 enc Tryz.prog Tryz.f3 Rows.thomTablesRow.domain false) (Rows.thomTablesSpec.post enc Tryz.prog Tryz.f3 false true false false):=by
 refine returnsInHanded_of_change (C:=Tryz.checked) Tryz.own started (by kernel_rfl) Tryz.func3
  (ChangeSpec.witness6 (enc:=enc) (C:=Tryz.checked) false ⟨#[],#[.agg #[.slice none 0 0,.slice none 0 0,.slice none 0 0]],[]⟩ 8 (by kernel_rfl) (by kernel_rfl) (by kernel_rfl) (by kernel_rfl)) ?_
 intro W base args ds gs before hval0 hW hcnd _
 exact lifted_arr16 _ Tryz.f3 Tryz.params3 rfl enc _ rfl (fun _=>rfl) (fun A0 l0 c0 p0 A1 l1 c1 p1 A2 l2 c2 p2 w h0 h1 h2 m0 m1 m2=>law_tables A0 l0 c0 p0 A1 l1 c1 p1 A2 l2 c2 p2 w h0 h1 h2 m0 m1 m2) W args ds gs before hval0 hW
theorem thomTables_holds:Rows.ThomTablesSaid :=
 OpenClaim.holds_of_wide 3 Tryz.f3 rfl rfl rfl rfl rfl rfl rfl ⟨rfl,rfl,rfl,rfl,rfl⟩ rfl rfl rfl rfl rfl (by kernel_rfl) Tryz.func3 (by kernel_rfl)
  (of_decide_eq_true (by kernel_rfl)) (by unfold Func.isWrapper;first | (rw [if_pos (by decide +kernel)];kernel_rfl) | (rw [if_neg (by decide +kernel)];exact ⟨rfl,rfl⟩))
  (fun os started H enc _=>tables_lifted os started H enc)
#print axioms thomTables_holds
end Go.Proofs.YtbfddopopajgaaaGreat
