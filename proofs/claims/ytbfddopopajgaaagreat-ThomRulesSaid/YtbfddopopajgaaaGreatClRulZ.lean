/- For any two slices of int8s the law ThomRules returns true and its arguments read as before: thom.Rule orders codes as the chapter says. No condition. -/
import Derived.Test.YtbfddopopajgaaaGreatRatD
import Derived.Test.YtbfddopopajgaaaGreatRowP
import Derived.Test.YtbfddopopajgaaaGreatHfp
import Derived.Test.YtbfddopopajgaaaGreatSgw
import Derived.Test.YtbfddopopajgaaaGreatApg
namespace Go.Proofs.YtbfddopopajgaaaGreat
open Go Go.RowKit
structure I8At (w:World) (A:Option Addr) (len cap:Nat) (p:List Int):Prop where
 length:p.length=len
 range:∀ c∈p,-128≤c∧c≤127
 cells:len=0∨∃ b off,A=some ⟨b,off,none⟩∧b<w.heap.size∧∀ j,j<len→w.cell? ⟨b,off+j,none⟩=some (.int .i8 (p.getD j 0))
theorem I8At.below {w w':World} {A:Option Addr} {len cap:Nat} {p:List Int} (h:I8At w A len cap p) (hb:Below w.heap.size w w'):I8At w' A len cap p:=by
 refine ⟨h.length,h.range,?_⟩
 rcases h.cells with h0 | ⟨b,off,hA,hlt,hc⟩
 ·exact .inl h0
 ·exact .inr ⟨b,off,hA,Nat.lt_of_lt_of_le hlt hb.size,fun j hj=>(hb.cell (p:=⟨b,off+j,none⟩) hlt).trans (hc j hj)⟩
end Go.Proofs.YtbfddopopajgaaaGreat
namespace Go.Proofs.YtbfddopopajgaaaGreat
open Go.ChangeShapes Go.WideShapes Go.ChangeAt Go.RowKit
theorem Tryz.cellsI8:Tryz.prog.cellsOf 35=1:=by kernel_rfl
theorem open_i8 {H:Type} {enc:TypeId×Value→H} {W:World} {A:Option Addr} {len cap:Nat} {d:DataW H} {p:List MemPlace}
 (h:DataW.Trod enc Tryz.prog W 0 (fun _=>true) true 53 (.slice A len cap) d p) (hlt:∀ x∈p,x.block<W.heap.size) :
 len≤9223372036854775807∧∃ zs,I8At W A len cap zs:=by
 obtain ⟨fuel,hf⟩:=h
 rcases open_ints Tryz.underlying53 Tryz.underlying35 Tryz.cellsI8 hf with ⟨hcs,hx⟩ | ⟨a,len',cap',zs,hcs,_,hl,hm,hz,hx,hcell,hwz⟩
 ·simp [Value.cells] at hcs
  obtain ⟨rfl,rfl,rfl⟩:=hcs
  exact ⟨by omega,[],rfl,(fun c hc=>by cases hc),.inl rfl⟩
 ·simp [Value.cells] at hcs
  obtain ⟨rfl,rfl,rfl⟩:=hcs
  simp only [Prod.mk.injEq] at hx
  obtain ⟨rfl,rfl⟩:=hx
  simp only [if_true] at hz
  refine ⟨by unfold maxLen at hm;omega,zs.take len,by rw [List.length_take];omega,fun c hc=>i8_wf (hwz c (List.mem_of_mem_take hc)),?_⟩
  by_cases hl0:len=0
  ·exact .inl hl0
  ·obtain ⟨b,off,spot⟩:=a
   have hspot:spot=none:=by simpa [Addr.add] using World.cell?_spot (hcell 0 (by omega))
   subst hspot
   have hbW:b<W.heap.size:=hlt (.cell b off) (MemPlace.mem_row.2 ⟨0,by omega,by simp⟩)
   refine .inr ⟨b,off,rfl,hbW,fun j hj=>?_⟩
   have:=hcell j (by omega)
   rw [show (⟨b,off,none⟩:Addr).add j=⟨b,off+j,none⟩ by simp [Addr.add]] at this
   rw [this]
   simp [List.getD_eq_getElem?_getD,hj]
set_option maxRecDepth 100000 in
theorem lifted_two8 (f:Nat) (fn:Func) (hp:fn.params=#[53,53]) (hr:fn.resultTypes=#[4]) {H:Type} (enc:TypeId×Value→H) (spec:ChangeSpec) (hsv:spec.vars=[]) (hsf:∀ d d',spec.fn H [d,d']={ results:=[.lit (.bool true)],args:=[d,d'] })
 (walk:∀ A la ca p B lb cb q w,I8At w A la ca p→I8At w B lb cb q→la≤9223372036854775807→lb≤9223372036854775807→Calls Tryz.prog f #[.slice A la ca,.slice B lb cb] w fun e w'=>e=.returned (.bool true)∧Below w.heap.size w w')
 (W:World) (args:Array Value) (ds gs:List (DataW H)) (before:List MemPlace)
 (hval:∀ (j:Nat) t v,fn.params[j]?=some t→args[j]?=some v→Value.okWide Tryz.prog W .any 0 t v)
 (hW:DataW.Whole enc Tryz.prog fn.params.toList spec.vars false W args.toList ds gs before) :
 Calls Tryz.prog f args W fun e W'=>∃ v,e=Ending.returned v∧spec.post enc Tryz.prog fn false true false false W args v W':=by
 have hW':=hW
 obtain ⟨p,q,hA0,hV,rfl,_,_⟩:=hW
 have hA:DataW.TrodAll enc Tryz.prog W 0 (fun _=>true) true fn.params.toList args.toList ds p:=hA0
 rw [hp] at hA hval
 obtain ⟨v0,v1,d0,d1,p0,p1,rfl,rfl,rfl,h0,h1⟩:=trodAll_two hA
 rw [hsv] at hV
 obtain ⟨rfl,rfl⟩:=trodVars_none hV
 obtain ⟨a0,la,ca,rfl⟩:=okWide_slice Tryz.underlying53 (hval 0 53 v0 rfl rfl)
 obtain ⟨a1,lb,cb,rfl⟩:=okWide_slice Tryz.underlying53 (hval 1 53 v1 rfl rfl)
 simp only [List.append_nil] at hW'
 have hlt:∀ x∈p0 ++ p1,x.block<W.heap.size:=fun x hx=>by simpa using hW'.lt x hx
 have hlt0:∀ x∈p0,x.block<W.heap.size:=fun x hx=>hlt x (List.mem_append.2 (.inl hx))
 have hlt1:∀ x∈p1,x.block<W.heap.size:=fun x hx=>hlt x (List.mem_append.2 (.inr hx))
 obtain ⟨hla,zs,hz⟩:=open_i8 h0 hlt0
 obtain ⟨hlb,ys,hy⟩:=open_i8 h1 hlt1
 refine (walk a0 la ca zs a1 lb cb ys W hz hy hla hlb).mono fun e W' ⟨he,hb⟩=>?_
 subst he
 refine ⟨_,rfl,post_below (pa:=p0 ++ p1) (pv:=[]) hW' (fun _ _ _=>?_) (fun sp hs=>?_) (fun _ _=>?_) (by simp) hb ?_⟩
 ·rw [List.append_nil,hsf,hr]
  exact trodAll_mk1 (shut_bool Tryz.underlying4 _)
 ·rw [List.append_nil,hsf,hp]
  exact trodAll_mk2 (Go.WideElems.Trod_stays Tryz.laidOut (by kernel_rfl) (of_decide_eq_true (by kernel_rfl)) h0 (fun x hx=>hb.same (hlt0 x hx)) (fun x hx=>hs x (List.mem_append.2 (.inl hx)))) (Go.WideElems.Trod_stays Tryz.laidOut (by kernel_rfl) (of_decide_eq_true (by kernel_rfl)) h1 (fun x hx=>hb.same (hlt1 x hx)) (fun x hx=>hs x (List.mem_append.2 (.inr hx))))
 ·rw [hsv,List.append_nil,hsf]
  rfl
 ·exact ok_one hr rfl (okWide_bool_mk Tryz.underlying4 _)
end Go.Proofs.YtbfddopopajgaaaGreat
namespace Go.Proofs.YtbfddopopajgaaaGreat
open Go Go.RowKit
noncomputable def sgA (Q:List Int) (r:Fq×Fq) (g:List Int):Int:=if fcmp r.1 r.2=0 then r.1.sgn g else nquery Q g r.1.z r.1.q r.2.z r.2.q
set_option maxRecDepth 100000 in
set_option maxHeartbeats 4000000 in
theorem tsign_any {I J:IntPred} (hI:IK I) (hJ:IK J) {w:World} {Ap:Option Addr} {lp cp:Nat} {Q:List Int} {Ag:Option Addr} {lg cg:Nat} {g:List Int} {r:Fq×Fq} {n:Bool} {A:Option Addr} {l c:Nat} {B:Option Addr} {m d:Nat} {n':Bool} {A':Option Addr} {l' c':Nat} {B':Option Addr} {m' d':Nat}
 (hp:PolyP I w Ap lp cp Q) (hlp:lp≤1000000) (h9:P9 Q) (l6:plen Q≤6) (hg:PolyP J w Ag lg cg g) (g6:G6 g) (hz:IntN w n A l c r.1.z) (hq:NatN w B m d r.1.q) (hz':IntN w n' A' l' c' r.2.z) (hq':NatN w B' m' d' r.2.q) (ha:FqB r.1) (hb:FqB r.2) :
 Calls Tryz.prog 53 #[.slice Ap lp cp,.agg #[.bool n,.slice A l c,.slice B m d,.bool n',.slice A' l' c',.slice B' m' d'],.slice Ag lg cg] w fun e w'=>e=.returned (.int .i64 (sgA Q r g))∧Below w.heap.size w w':=by
 have o1:=below_new w (tbox n A l c B m d n' A' l' c' B' m' d')
 have T:=Lib.hid (TBox.make hz hq hz' hq')
 have HP:=Lib.hid (hp.below hI o1)
 have HG:=Lib.hid (hg.below hJ o1)
 have Hb:=Lib.hid o1
 have hlg:lg≤6:=by have:=hg.length;have:=g6.len;omega
 have p1:=ha.p
 have p2:=hb.p
 have cg:CP g:=⟨by have:=g6.plen;omega,fun j=>Nat.le_trans (g6.b j) (by have:=bbk_le (show 1≤32 by decide);rw [Nat.pow_one] at this;exact this)⟩
 have pg:=cg.at (z:=r.1.z) (q:=r.1.q) (by have:=g6.len;omega) ha.z ha.q
 obtain ⟨V,hV⟩:∃ V,V=sgA Q r g:=⟨_,rfl⟩
 rw [← hV]
 unfold sgA at hV
 obtain ⟨S,hS⟩:∃ S,S=r.1.sgn g:=⟨_,rfl⟩
 obtain ⟨U,hU⟩:∃ U,U=nquery Q g r.1.z r.1.q r.2.z r.2.q:=⟨_,rfl⟩
 rw [← hS,← hU] at hV
 have HV:=Lib.hid hV
 have HS:=Lib.hid hS
 have HU:=Lib.hid hU
 clear hz hq hz' hq' o1 hp hg hV hS hU cg
 go_enter Tryz.func53,Tryz.ntmps53
 have x0:=T.out.r.c0;have x1:=T.out.r.c1;have x2:=T.out.r.c2;have x3:=T.out.c3;have x4:=T.out.c4;have x5:=T.out.c5
 go_wp2_with fail
 refine (rcmp_any _ _ _ _ _ _ _ _ _ _ _ _ _ _ _ _ _ _ _ T.out.r.hz.at_ T.out.r.hq.at_ T.out.hz.at_ T.out.hq.at_ (by omega) (by omega) ha.fz ha.fq hb.fz hb.fq).mono ?_
 rintro e w1 ⟨rfl,hb1⟩
 obtain ⟨C,hC⟩:∃ C,C=fcmp r.1 r.2:=⟨_,rfl⟩
 rw [show cmpz (r.1.z*(r.2.q:Int)) (r.2.z*(r.1.q:Int))=C from hC.symm]
 have hV:=HV.out
 rw [← hC] at hV
 replace HV:=Lib.hid hV
 replace T:=Lib.hid (T.out.move hb1)
 replace HP:=Lib.hid (HP.out.below hI hb1)
 replace HG:=Lib.hid (HG.out.below hJ hb1)
 replace Hb:=Lib.hid (Hb.out.trans (hb1.mono Hb.out.size))
 clear hb1 hC hV x0 x1 x2 x3 x4 x5
 have x0:=T.out.r.c0;have x1:=T.out.r.c1;have x2:=T.out.r.c2;have x3:=T.out.c3;have x4:=T.out.c4;have x5:=T.out.c5
 by_cases c0:C=0
 ·have b1:(C == 0)=true:=by rw [c0];rfl
  have EV:=Lib.hid (show V=S by rw [HV.out,if_pos c0])
  clear c0
  go_wp2_with fail
  refine (signat_any hJ _ _ _ g _ _ _ _ _ _ _ _ _ _ HG.out pg.fit (by omega) T.out.r.hz T.out.r.hq ha.at.u ha.at.v ha.at.pos pg.ok ha.at.fz ha.at.fq).mono ?_
  rintro e w4 ⟨he,hb4⟩
  have he2:e=.returned (.int .i64 S):=by rw [HS.out];exact he
  subst he2
  replace Hb:=Lib.hid (Hb.out.trans (hb4.mono Hb.out.size))
  clear he hb4 T HP HG x0 x1 x2 x3 x4 x5
  go_wp2
  go_ret
  exact ⟨by first | (rw [EV.out];done) | (rw [EV.out];rfl),Hb.out⟩
 ·have b1:(C == 0)=false:=by rw [beq_eq_false_iff_ne];exact c0
  have EV:=Lib.hid (show V=U by rw [HV.out,if_neg c0])
  clear c0
  go_wp2_with fail
  refine (query_any hI hJ _ _ _ Q _ _ _ g _ _ _ _ _ _ _ _ _ _ _ _ _ _ _ _ _ _ _ HP.out HG.out hlp h9 l6 g6 T.out.r.hz T.out.r.hq T.out.hz T.out.hq ha.at hb.at ha.z ha.q hb.z hb.q).mono ?_
  rintro e w4 ⟨he,hb4⟩
  have he2:e=.returned (.int .i64 U):=by rw [HU.out];exact he
  subst he2
  replace Hb:=Lib.hid (Hb.out.trans (hb4.mono Hb.out.size))
  clear he hb4 T HP HG x0 x1 x2 x3 x4 x5
  go_wp2
  go_ret
  exact ⟨by first | (rw [EV.out];done) | (rw [EV.out];rfl),Hb.out⟩
def SlC (u:Value):Prop:=∃ A l c,u=.slice A l c
theorem slC_nd (u:Value) (h:SlC u):Nd u:=by obtain ⟨A,l,c,rfl⟩:=h;exact nd_slice _ _ _
def PolR (w:World) (p:List Int) (vs:List Value):Prop:=∃ A l c,vs=[.slice A l c]∧PolyN w A l c p
def CodR (w:World) (xs:List Int) (vs:List Value):Prop:=∃ A l c,vs=[.slice A l c]∧I64At w A l c xs
section
variable {w w':World} {p xs:List Int} {vs:List Value} {g:Nat}
theorem PolR.below (h:PolR w p vs) (hb:Below w.heap.size w w'):PolR w' p vs:=by
 obtain ⟨A,l,c,e,h1⟩:=h
 exact ⟨A,l,c,e,h1.below ikN hb⟩
theorem PolR.len (h:PolR w p vs):vs.length=1:=by obtain ⟨A,l,c,e,h1⟩:=h;rw [e];rfl
theorem PolR.sl (h:PolR w p vs):∀ v∈vs,SlC v:=by
 obtain ⟨A,l,c,e,h1⟩:=h
 intro v hv
 rw [e,List.mem_singleton] at hv
 exact ⟨A,l,c,hv⟩
theorem PolR.frs (h:PolR w p vs) (hf:FrS g g w w') (hc:∀ o u,w.cell? ⟨g,o,none⟩=some u→SlC u):PolR w' p vs:=by
 obtain ⟨A,l,c,e,h1⟩:=h
 have hnd:NdB w g:=fun o u hu=>(slC_nd u (hc o u hu)).1
 refine ⟨A,l,c,e,PolyG.frs (g:=g) (g':=g) ⟨h1,?_⟩ hf hnd hnd⟩
 rcases h1.elems with h0 | ⟨b,o,hA,hlt,he⟩
 ·exact .inl h0
 ·rcases Nat.eq_zero_or_pos l with h0 | h0
  ·exact .inl h0
  ·have hne:b≠g:=fun e=>by
    subst e
    obtain ⟨neg,_,_,_,f1,_,_⟩:=he 0 h0
    obtain ⟨_,_,_,e2⟩:=hc _ _ f1
    cases e2
   exact .inr ⟨b,o,hA,hne,hne⟩
theorem CodR.below (h:CodR w xs vs) (hb:Below w.heap.size w w'):CodR w' xs vs:=by
 obtain ⟨A,l,c,e,h1⟩:=h
 exact ⟨A,l,c,e,h1.below hb⟩
theorem CodR.len (h:CodR w xs vs):vs.length=1:=by obtain ⟨A,l,c,e,h1⟩:=h;rw [e];rfl
theorem CodR.sl (h:CodR w xs vs):∀ v∈vs,SlC v:=by
 obtain ⟨A,l,c,e,h1⟩:=h
 intro v hv
 rw [e,List.mem_singleton] at hv
 exact ⟨A,l,c,hv⟩
theorem CodR.frs (h:CodR w xs vs) (hf:FrS g g w w') (hc:∀ o u,w.cell? ⟨g,o,none⟩=some u→SlC u):CodR w' xs vs:=by
 obtain ⟨A,l,c,e,h1⟩:=h
 refine ⟨A,l,c,e,h1.length,h1.cap,?_⟩
 rcases h1.cells with h0 | ⟨b,o,hA,hlt,he⟩
 ·exact .inl h0
 ·rcases Nat.eq_zero_or_pos l with h0 | h0
  ·exact .inl h0
  ·have hne:b≠g:=fun e=>by
    subst e
    obtain ⟨_,_,_,e2⟩:=hc _ _ (he 0 h0)
    cases e2
   exact .inr ⟨b,o,hA,Nat.lt_of_lt_of_le hlt hf.size,fun j hj=>(hf.cell hlt hne hne _).trans (he j hj)⟩
end
theorem wpList_app_own {w:World} {ops:Array Oper} {rest:List Oper} {o:Oper} {a:Act} {Q:Exit→Act→World→Prop} (hgd:o.guard=none) (s x:Operand) (t e:TypeId)
 (ho:o.op=.call { callee:=.builtin .append,args:=#[s,x],argTypes:=#[t,t] }) (E:Nat) (i0:TypeInfo) (z:Value) (ht:Tryz.prog.underlying t=some (.slice e)) (hi:Tryz.prog.info? e=some i0) (hz0:i0.zero=some z) (hz1:i0.size=E) (hz2:i0.bytes≤200) (hzs:z.cells.size=E) (C:Value→Prop) (hC:∀ u,C u→Nd u) (hzn:∀ j,j<E→C (z.cells[j]!)) (hE:0<E)
 (base:Nat) (v:Value) (us vs:List Value) (hs:a.eval s=v) (hown:OwnE C E e base w v us) (hB:base≤w.heap.size)
 (ax:Addr) (m c:Nat) (hx:a.eval x=.slice (some ax) m c) (hvl:vs.length=m*E) (hxc:∀ (j:Nat) (u:Value),vs[j]?=some u→w.cell? (ax.add j)=some u) (hvn:∀ u∈vs,C u) (hm:0<m∨v≠.slice none 0 0) (hn:us.length+vs.length≤100000000)
 (dd:Nat) (hdd:o.dst=some dd) (h:∀ v' w',GrE C E e base w v us vs v' w'→wpList Tryz.prog ops Q rest (a.put (some dd) v') w') :
 wpList Tryz.prog ops Q (o :: rest) a w :=
 wpList_plain hgd fun _ hK'=>oper_append_own s x t e ho E i0 z ht hi hz0 hz1 hz2 hzs C hC hzn hE base v us vs hs hown hB ax m c hx hvl hxc hvn hm hn dd hdd fun v' w' hg=>hK' _ _ (h v' w' hg)
theorem one_cell {w:World} {u:Value} (t:TypeId):∀ (j:Nat) (v:Value),[u][j]?=some v→(w.alloc (.cells #[u] t)).cell? ((⟨w.heap.size,0,none⟩:Addr).add j)=some v:=fun j v hv=>by
 match j,hv with
 | 0,hv=>simp at hv;subst hv;simp [Addr.add]
end Go.Proofs.YtbfddopopajgaaaGreat
namespace Go.Proofs.YtbfddopopajgaaaGreat
open Go Go.RowKit
section
variable {α:Type} {C:Value→Prop} {E t base:Nat} {R:World→α→List Value→Prop} {w w':World} {v v':Value} {us vs:List Value}
theorem GrE.mv (h:GrE C E t base w v us vs v' w') (hb:∀ x vs,Below w.heap.size w w'→R w x vs→R w' x vs) (hf:∀ g x vs,FrS g g w w'→(∀ o u,w.cell? ⟨g,o,none⟩=some u→C u)→R w x vs→R w' x vs) (x:α) (ys:List Value) (hx:R w x ys):R w' x ys:=by
 rcases h.2 with ⟨g,n,n',cap,_,_,_,_,k,f⟩ | ⟨k,_⟩
 ·exact hf g x ys f k hx
 ·exact hb x ys k hx
end
theorem polr_mv {B:Nat} {t:TypeId} {w w':World} {v v':Value} {us vs:List Value} (h:GrE SlC 1 t B w v us vs v' w') (p:List Int) (ys:List Value):PolR w p ys→PolR w' p ys:=h.mv (fun _ _ hb hx=>hx.below hb) (fun _ _ _ hf hc hx=>hx.frs hf hc) p ys
theorem codr_mv {B:Nat} {t:TypeId} {w w':World} {v v':Value} {us vs:List Value} (h:GrE SlC 1 t B w v us vs v' w') (p:List Int) (ys:List Value):CodR w p ys→CodR w' p ys:=h.mv (fun _ _ hb hx=>hx.below hb) (fun _ _ _ hf hc hx=>hx.frs hf hc) p ys
theorem slz:∀ j,j<1→SlC ((Value.slice none 0 0).cells[j]!):=fun j hj=>by
 match j,hj with
 | 0,_=>exact ⟨none,0,0,rfl⟩
theorem dk_out:∀ (m:Nat) (g:List Int),dk (m+1) g=pder (dk m g)
 | 0,_=>rfl
 | m+1,g=>dk_out m (pder g)
theorem pder_plen1 (p:List Int):plen (pder p)=plen p-1:=by
 rcases Nat.lt_or_ge (plen p) 2 with h | h
 ·have h1:=plen_le (pder p)
  rw [pder_length] at h1
  omega
 ·exact pder_plen h
theorem dk_plen:∀ (m:Nat) (g:List Int),plen (dk m g)=plen g-m
 | 0,_=>rfl
 | m+1,g=>by rw [dk_out,pder_plen1,dk_plen m g];omega
theorem dk_length (m:Nat) (g:List Int):(dk (m+1) g).length=plen g-(m+1):=by rw [dk_out,pder_length,dk_plen];omega
theorem dk_len6 {f:List Int} (hl:f.length≤6) (m:Nat):(dk m f).length≤6-m:=by
 have:=plen_le f
 match m with
 | 0=>exact hl
 | m+1=>rw [dk_length];omega
def dkl (f:List Int) (k:Nat):List (List Int):=(List.range k).map fun i=>dk (i+1) f
theorem dkl_succ (f:List Int) (k:Nat):dkl f (k+1)=dkl f k ++ [dk (k+1) f]:=by
 unfold dkl
 rw [List.range_succ,List.map_append]
 rfl
theorem dkl_len (f:List Int) (k:Nat):(dkl f k).length=k:=by unfold dkl;simp
def ders (f:List Int):List (List Int):=dkl f (plen f-1)
theorem dk_bd {M:Nat} {f:List Int} (hl:f.length≤6) (hM:∀ j,(f.getD j 0).natAbs≤M):∀ m j,((dk m f).getD j 0).natAbs≤M*5^m
 | 0,j=>by rw [Nat.pow_zero,Nat.mul_one];exact hM j
 | m+1,j=>by
   have ih:=dk_bd hl hM m (j+1)
   have hlen:=dk_len6 hl m
   rw [dk_out,pder_getD,Int.natAbs_mul]
   rcases Nat.lt_or_ge (j+1) (dk m f).length with h | h
   ·have h5:((j:Int)+1).natAbs≤5:=by omega
    rw [Nat.pow_succ,← Nat.mul_assoc]
    exact Nat.mul_le_mul ih h5
   ·rw [getD_out _ h];simp
theorem dk_g6 {f:List Int} (hl:f.length≤6) (hM:∀ j,(f.getD j 0).natAbs≤32768) {m:Nat} (hm:m≤6):G6 (dk m f):=by
 refine ⟨by have:=dk_len6 hl m;omega,fun j=>Nat.le_trans (dk_bd hl hM m j) ?_⟩
 have:5^m≤5^6:=Nat.pow_le_pow_right (by decide) hm
 have h2:=Nat.mul_le_mul_left 32768 this
 refine Nat.le_trans h2 ?_
 rw [BB_eq]
 decide
def lenv:Value→Nat
 | .slice _ l _=>l
 | _=>0
set_option maxRecDepth 100000 in
set_option maxHeartbeats 4000000 in
theorem ders_any {I:IntPred} (hI:IK I) {w:World} {Af:Option Addr} {lf cf:Nat} {f:List Int} (hf:PolyP I w Af lf cf f) (hl:f.length≤6) (hM:∀ j,(f.getD j 0).natAbs≤32768) :
 Calls Tryz.prog 81 #[.slice Af lf cf] w fun e w'=>(∃ A l c,e=.returned (.slice A l c)∧SlE 1 PolR w' A l c (ders f))∧Below w.heap.size w w':=by
 obtain ⟨i0,hi,hz0,hz1,hz2⟩:=info_parts info_poly
 have hlf:lf≤6:=by have:=hf.length;omega
 have g0:=dk_g6 hl hM (m:=0) (by omega)
 have HM:=Lib.hid hM
 have HF:=Lib.hid hf
 clear hf hM
 go_enter Tryz.func81,Tryz.ntmps81
 go_wp2_with fail
 refine (derivative_any hI _ _ _ f _ HF.out (show SmP f from g0.fit.smp) (by omega)).mono ?_
 rintro e w1 ⟨A1,l1,c1,rfl,h1,hb1⟩
 have H1:=Lib.hid h1
 have Hb1:=Lib.hid hb1
 clear h1 hb1 HF g0
 go_wp2_with fail
 go_loopw [3,4] (fun s3 s4 wr=>∃ k A l c,k≤plen f-1∧s4=.slice A l c∧PolyN wr A l c (dk (k+1) f)∧(∃ us,OwnE SlC 1 26 w.heap.size wr s3 us∧Lay (PolR wr) (dkl f k) us)∧Below w.heap.size w wr) (fun _ s4 _=>lenv s4)
 case atStart=>exact ⟨0,A1,l1,c1,Nat.zero_le _,rfl,H1.out,⟨[],OwnE.nil _ _ _ _ _,rfl⟩,Hb1.out⟩
 case round =>
  clear H1 Hb1
  obtain ⟨k,A,l,c,hk,rfl,hp,⟨us,ho,hly⟩,hbw⟩:=hrel
  have hlen:=hp.length
  rw [dk_length] at hlen
  have hpf:=plen_le f
  have hl6:l≤6:=by omega
  have g6:=dk_g6 hl HM.out (m:=k+1) (by omega)
  obtain ⟨P,hP⟩:∃ P,P=dk (k+1) f:=⟨_,rfl⟩
  rw [← hP] at hp g6
  have HPe:=Lib.hid hP
  have Hbw:=Lib.hid hbw
  have HP:=Lib.hid hp
  by_cases hl0:0<l
  ·have b1:decide (0<(l:Int))=true:=decide_eq_true (by omega)
   have b2:decide (0<l)=true:=decide_eq_true hl0
   have jb:=below_new wr (.cells #[.slice A l c] 26)
   have ho2:=ho.below jb
   have hly2:Lay (PolR (wr.alloc (.cells #[.slice A l c] 26))) (dkl f k) us:=hly.mono fun _ _ hx=>hx.below jb
   have hul:us.length=k*1:=by rw [hly.len fun x vs hx=>hx.len,dkl_len]
   have hx2:PolR (wr.alloc (.cells #[.slice A l c] 26)) P [.slice A l c]:=⟨A,l,c,rfl,hp.below ikN jb⟩
   have hsz:w.heap.size≤(wr.alloc (.cells #[.slice A l c] 26)).heap.size:=by have:=hbw.size;simp;omega
   have O:=Lib.hid (And.intro ho2 (And.intro hly2 hx2))
   have Hsz:=Lib.hid hsz
   have HB2:=Lib.hid (hbw.trans (jb.mono hbw.size))
   have Hlen:=Lib.hid hlen
   clear ho ho2 hly hly2 hx2 hsz jb hp hP hbw hlen
   go_wp2_with (at_builtin;refine wpList_app_own rfl (.tmp 12) (.tmp 14) 98 26 rfl 1 i0 (.slice none 0 0) Tryz.underlying98 hi hz0 hz1 (by rw [hz2];omega) rfl SlC slC_nd slz (by decide) w.heap.size _ us [.slice A l c] rfl O.out.1 Hsz.out ⟨wr.heap.size,0,none⟩ 1 1 rfl rfl (one_cell _) O.out.2.2.sl (.inl (by decide)) (by rw [hul];simp;omega) 15 rfl ?_)
   intro v2 w9 hgr
   have hb9:=hgr.below Hsz.out
   have hn:=polr_mv hgr _ _ O.out.2.2
   have hly9:Lay (PolR w9) (dkl f (k+1)) (us ++ [.slice A l c]):=by
    rw [dkl_succ,← HPe.out]
    exact hgr.lay O.out.2.1 (show Lay (PolR (wr.alloc (.cells #[.slice A l c] 26))) [P] [.slice A l c] from ⟨_,[],O.out.2.2,by simp,rfl⟩) (fun _ _ hb hx=>hx.below hb) (fun _ _ _ hf hc hx=>hx.frs hf hc)
   obtain ⟨_,_,_,e9,hn9⟩:=hn
   cases e9
   have O9:=Lib.hid (And.intro hgr.1 hly9)
   have HN:=Lib.hid hn9
   have Hb9:=Lib.hid (HB2.out.trans hb9)
   clear hgr hb9 hly9 hn9 O HB2 Hsz
   go_wp2_with fail
   refine (derivative_any ikN _ _ _ P _ HN.out g6.fit.smp (by omega)).mono ?_
   rintro e w10 ⟨A10,l10,c10,rfl,h10,hb10⟩
   have HN2:=Lib.hid h10
   have O10:=Lib.hid (And.intro (O9.out.1.below hb10) (O9.out.2.mono fun _ _ hx=>PolR.below hx hb10))
   have Hb10:=Lib.hid (Hb9.out.trans (hb10.mono Hb9.out.size))
   have hl10:l10<l:=by
    have h1:=h10.length
    rw [pder_length,HPe.out,dk_plen] at h1
    have:=Hlen.out
    omega
   clear h10 hb10 O9 HN Hb9
   go_wp2_with fail
   go_roundw
   case rel=>exact ⟨k+1,A10,l10,c10,by have:=Hlen.out;omega,rfl,by rw [dk_out,← HPe.out];exact HN2.out,⟨_,O10.out.1,O10.out.2⟩,Hb10.out⟩
   case measure=>exact hl10
  ·have b1:decide (0<(l:Int))=false:=decide_eq_false (by omega)
   have b2:decide (0<l)=false:=decide_eq_false hl0
   have hk2:k=plen f-1:=by omega
   obtain ⟨A9,l9,c9,e9,h9⟩:=ho.sle (by decide) hly fun x vs hx=>hx.len
   subst e9
   have FX:=Lib.hid (show SlE 1 PolR wr A9 l9 c9 (ders f) by unfold ders;rw [← hk2];exact h9)
   clear ho hly hp hP hlen h9 hk2 HPe HP
   go_wp2_with fail
   go_ret
   exact ⟨⟨_,_,_,rfl,FX.out⟩,Hbw.out⟩
end Go.Proofs.YtbfddopopajgaaaGreat
namespace Go.Proofs.YtbfddopopajgaaaGreat
open Go Go.RowKit
theorem SlE.getp {w:World} {A:Option Addr} {l c:Nat} {gs:List (List Int)} (h:SlE 1 PolR w A l c gs) {k:Nat} (hk:k<l) :
 ∃ b o A1 l1 c1,A=some ⟨b,o,none⟩∧b<w.heap.size∧w.cell? ⟨b,o+k,none⟩=some (.slice A1 l1 c1)∧PolyN w A1 l1 c1 (gs.getD k []):=by
 rcases h.elems with ⟨h0,_⟩ | ⟨b,o,e,hb,hv⟩
 ·omega
 ·have hkl:k<gs.length:=by rw [h.length];exact hk
  have eg:gs[k]?=some (gs.getD k []):=by rw [List.getD_eq_getElem?_getD,List.getElem?_eq_getElem hkl];rfl
  obtain ⟨vs,⟨A1,l1,c1,ev,h1⟩,hc⟩:=hv k _ eg
  subst ev
  have:=hc 0 _ rfl
  rw [Nat.mul_one,Nat.add_zero] at this
  exact ⟨b,o,A1,l1,c1,e,hb,this,h1⟩
theorem SlE.belowp {w w':World} {A:Option Addr} {l c:Nat} {gs:List (List Int)} (h:SlE 1 PolR w A l c gs) (hb:Below w.heap.size w w'):SlE 1 PolR w' A l c gs:=h.below hb fun _ _ hx=>hx.below hb
def updl (S:List Int) (k:Nat):List Int:=S.take k ++ List.replicate (S.length-k) 0
theorem updl_len (S:List Int) {k:Nat} (h:k≤S.length):(updl S k).length=S.length:=by
 unfold updl
 rw [List.length_append,List.length_take,List.length_replicate]
 omega
theorem updl_zero (S:List Int):updl S 0=List.replicate S.length 0:=rfl
theorem updl_all (S:List Int):updl S S.length=S:=by
 unfold updl
 rw [List.take_length,Nat.sub_self]
 simp
theorem updl_set (S:List Int) {k:Nat} (h:k<S.length):(updl S k).set k (S.getD k 0)=updl S (k+1):=by
 unfold updl
 have hl:(S.take k).length=k:=by rw [List.length_take];omega
 obtain ⟨m,hm⟩:∃ m,S.length-k=m+1:=⟨S.length-k-1,by omega⟩
 rw [List.set_append_right _ _ (by omega),hl,Nat.sub_self,hm,show S.length-(k+1)=m by omega,List.replicate_succ,List.set_cons_zero,List.getD_eq_getElem?_getD,List.getElem?_eq_getElem h]
 show S.take k ++ S[k] :: List.replicate m 0=_
 rw [List.take_succ_eq_append_getElem h,List.append_assoc]
 rfl
set_option maxRecDepth 100000 in
set_option maxHeartbeats 4000000 in
theorem tsigns_any {I:IntPred} (hI:IK I) {w:World} {Ap:Option Addr} {lp cp:Nat} {Q:List Int} {Al:Option Addr} {ll cl:Nat} {gs:List (List Int)} {r:Fq×Fq} {n:Bool} {A:Option Addr} {l c:Nat} {B:Option Addr} {m d:Nat} {n':Bool} {A':Option Addr} {l' c':Nat} {B':Option Addr} {m' d':Nat}
 (hp:PolyP I w Ap lp cp Q) (hlp:lp≤1000000) (h9:P9 Q) (l6:plen Q≤6) (hl:SlE 1 PolR w Al ll cl gs) (hg:∀ k,k<gs.length→G6 (gs.getD k [])) (hll:ll≤1000) (hz:IntN w n A l c r.1.z) (hq:NatN w B m d r.1.q) (hz':IntN w n' A' l' c' r.2.z) (hq':NatN w B' m' d' r.2.q) (ha:FqB r.1) (hb:FqB r.2) :
 Calls Tryz.prog 54 #[.slice Ap lp cp,.agg #[.bool n,.slice A l c,.slice B m d,.bool n',.slice A' l' c',.slice B' m' d'],.slice Al ll cl] w fun e w'=>(∃ A c,e=.returned (.slice A ll c)∧I64At w' A ll c (gs.map (sgA Q r)))∧Below w.heap.size w w':=by
 have o1:=below_new w (tbox n A l c B m d n' A' l' c' B' m' d')
 have T:=Lib.hid (TBox.make hz hq hz' hq')
 have HP:=Lib.hid (hp.below hI o1)
 have HL:=Lib.hid (hl.belowp o1)
 have Hb:=Lib.hid o1
 have hgl:=hl.length
 obtain ⟨S,hS⟩:∃ S,S=gs.map (sgA Q r):=⟨_,rfl⟩
 have hSl:S.length=ll:=by rw [hS,List.length_map];exact hgl
 have hSg:∀ k,k<ll→S.getD k 0=sgA Q r (gs.getD k []):=fun k hk=>by
  rw [hS,List.getD_eq_getElem?_getD,List.getElem?_map,List.getElem?_eq_getElem (by omega),List.getD_eq_getElem?_getD,List.getElem?_eq_getElem (by omega)]
  rfl
 rw [← hS]
 have HSl:=Lib.hid hSl
 have HSg:=Lib.hid hSg
 have HGL:=Lib.hid hgl
 have HG:=Lib.hid hg
 clear hz hq hz' hq' o1 hp hl hS hSl hSg hgl hg
 go_enter Tryz.func54,Tryz.ntmps54
 obtain ⟨wa,hwa⟩:∃ wa,wa=w.alloc (tbox n A l c B m d n' A' l' c' B' m' d'):=⟨_,rfl⟩
 have hsa:wa.heap.size=w.heap.size+1:=by rw [hwa];simp
 rw [← hwa] at T HP HL Hb
 go_wp2_with (at_make;refine wpList_make_int _ rfl (.tmp 11) (.tmp 11) rfl ll rfl rfl (by omega) ?_)
 (try rw [← hwa])
 clear hwa
 intro w1 hz1 hb1 hs1
 rw [← hsa] at hz1 hs1 ⊢
 (try rw [← hsa] at hb1)
 have HZ:=Lib.hid (show IRow w1 wa.heap.size (updl S 0) by rw [updl_zero,HSl.out];exact hz1)
 obtain ⟨gI,hgI⟩:∃ g,g=wa.heap.size:=⟨_,rfl⟩
 obtain ⟨gT,hgT⟩:∃ g,g=w.heap.size:=⟨_,rfl⟩
 have HB1:=Lib.hid hb1
 rw [← hgI] at HZ ⊢
 rw [← hgT] at T
 have hTI:gT<gI:=by omega
 have HgI:=Lib.hid hgI
 have HgT:=Lib.hid hgT
 clear hz1 hb1 hs1 hgI hgT hsa
 go_wp2_with fail
 rw [← HgT.out]
 go_loopw [15] (fun s15 wr=>∃ k:Nat,k≤ll∧s15=.int .i64 (k:Int)∧IRow wr gI (updl S k)∧Below wa.heap.size wa wr) (fun s15 _=>ll-(intOf s15).toNat)
 case atStart=>exact ⟨0,Nat.zero_le _,rfl,HZ.out,HB1.out⟩
 case round =>
  clear HZ HB1
  obtain ⟨k,hk,rfl,hrow,hbw⟩:=hrel
  have HR:=Lib.hid hrow
  have Hbw:=Lib.hid hbw
  have hIr:gI<wr.heap.size:=hrow.lt
  by_cases hlt:k<ll
  ·have ka:(k:Int)<(ll:Int):=by omega
   have i1:IntKind.i64.wrap ((k:Int)+1)=(k:Int)+1:=IntWalk.i64_in _ (by omega)
   obtain ⟨b,o,A1,l1,c1,rfl,hb0,e0,hp1⟩:=(HL.out.belowp hbw).getp hlt
   have g6:=HG.out k (by rw [HGL.out];exact hlt)
   have T2:=Lib.hid (T.out.move hbw)
   have HPr:=Lib.hid (HP.out.below hI hbw)
   have HSk:=Lib.hid (HSg.out k hlt)
   obtain ⟨G,hG⟩:∃ G,G=gs.getD k []:=⟨_,rfl⟩
   obtain ⟨V,hV⟩:∃ V,V=S.getD k 0:=⟨_,rfl⟩
   rw [← hG] at hp1 g6
   have HEV:=Lib.hid (show sgA Q r G=V by rw [hV,HSk.out,hG])
   have HVV:=Lib.hid hV
   have H1:=Lib.hid hp1
   have Hkl:=Lib.hid hlt
   have x0:=T2.out.r.c0;have x1:=T2.out.r.c1;have x2:=T2.out.r.c2;have x3:=T2.out.c3;have x4:=T2.out.c4;have x5:=T2.out.c5
   clear hrow hbw hp1 hG hV hlt hk
   go_wp2_with fail
   refine (tsign_any hI ikN (r:=r) HPr.out hlp h9 l6 H1.out g6 T2.out.r.hz T2.out.r.hq T2.out.hz T2.out.hq ha hb).mono ?_
   rintro e w5 ⟨he,hb5⟩
   have he2:e=.returned (.int .i64 V):=by rw [← HEV.out];exact he
   subst he2
   have r5:=HR.out.below hb5 hIr
   have kc:=r5.cell (i:=k) (by rw [updl_len S (by rw [HSl.out];exact Nat.le_of_lt Hkl.out),HSl.out];exact Hkl.out)
   have kf:=r5.frozen k
   have RN:=Lib.hid (show IRow (w5.setCell ⟨gI,k,none⟩ (.int .i64 V)) gI (updl S (k+1)) by
    have h:=r5.set_ k V
    rw [HVV.out,updl_set S (by rw [HSl.out];exact Hkl.out),← HVV.out] at h
    exact h)
   have HBN:=Lib.hid (show Below wa.heap.size wa (w5.setCell ⟨gI,k,none⟩ (.int .i64 V)) from (Hbw.out.trans (hb5.mono Hbw.out.size)).setCell (by rw [HgI.out];exact Nat.le_refl _) _)
   clear he hb5 r5 x0 x1 x2 x3 x4 x5 T2 HPr H1 HR Hbw e0
   go_wp2_with fail
   go_roundw
   case rel=>exact ⟨k+1,Hkl.out,by go_num,RN.out,HBN.out⟩
   case measure=>have:=Hkl.out;simp [intOf];omega
  ·have hk2:k=ll:=by omega
   have t1:¬ (k:Int)<(ll:Int):=by omega
   have FX:=Lib.hid (show I64At wr (some ⟨gI,0,none⟩) ll ll S by
    have h:=hrow
    rw [hk2,← HSl.out,updl_all] at h
    have h2:=h.at_ (cap:=S.length) (Nat.le_refl _)
    rw [HSl.out] at h2
    exact h2)
   clear hrow hlt HR hk2
   go_wp2_with fail
   go_ret
   exact ⟨⟨_,_,rfl,FX.out⟩,Hb.out.trans (Hbw.out.mono Hb.out.size)⟩
end Go.Proofs.YtbfddopopajgaaaGreat
namespace Go.Proofs.YtbfddopopajgaaaGreat
open Go Go.RowKit
structure S6 (f:List Int):Prop where
 len:f.length≤6
 t:ptrim f=f
 b:∀ j,(f.getD j 0).natAbs≤32768
section
variable {f:List Int}
theorem S6.p9 (h:S6 f):P9 f:=⟨by have:=plen_le f;have:=h.len;omega,fun j=>Nat.le_trans (h.b j) (Nat.le_trans (by rw [Nat.pow_one,BB_eq];decide) (bbk_le (show 1≤10 by decide)))⟩
theorem S6.pl (h:S6 f):plen f≤6:=by have:=plen_le f;have:=h.len;omega
theorem S6.q9 (h:S6 f):P9 (qpart f):=by
 by_cases h0:plen f=0
 ·rw [qpart_nil h0]
  exact ⟨by decide,fun j=>by simp⟩
 ·have hq:=q_facts h.p9.q h0
  refine ⟨by have:=hq.l;have:=h.pl;omega,fun j=>Nat.le_trans (hq.b 1 (fun j=>Nat.le_trans (pprim_abs f j) (Nat.le_trans (h.b j) (by rw [Nat.pow_one,BB_eq];decide))) j) (bbk_le (by decide))⟩
theorem S6.ql (h:S6 f):plen (qpart f)≤6:=by have:=h.p9.part_l;have:=h.pl;omega
theorem S6.qlen (h:S6 f):(qpart f).length≤6:=by rw [← h.p9.part_t,ptrim_length];exact h.ql
end
noncomputable def tabl (f:List Int) (gs:List (List Int)):List (List Int):=(proots f).map fun r=>gs.map (sgA (qpart f) r)
noncomputable def codes (f:List Int):List (List Int):=tabl f (ders f)
theorem lay_take {α β:Type} {R:β→List Value→Prop} {F:α→β} {l:List α} {k:Nat} {us vs:List Value} {d:α} (h:Lay R ((l.take k).map F) us) (hk:k<l.length) (hx:R (F (l.getD k d)) vs):Lay R ((l.take (k+1)).map F) (us ++ vs):=by
 have e:l.take (k+1)=l.take k ++ [l.getD k d]:=by
  rw [List.take_succ_eq_append_getElem hk,List.getD_eq_getElem?_getD,List.getElem?_eq_getElem hk]
  rfl
 rw [e,List.map_append]
 exact h.app hx
theorem info_code:(Tryz.prog.info? 75).map (fun i=>(i.zero,i.size,i.bytes))=some (some (.slice none 0 0),1,24):=by kernel_rfl
theorem info_in1:(Tryz.prog.info? 3).map (fun i=>(i.zero,i.size,i.bytes))=some (some (.int .i64 0),1,8):=by kernel_rfl
def InC (u:Value):Prop:=∃ x,u=.int .i64 x
theorem inC_nd (u:Value) (h:InC u):Nd u:=by obtain ⟨x,rfl⟩:=h;exact ⟨(fun _ h=>by cases h),rfl⟩
def InR (_:World) (x:Int) (vs:List Value):Prop:=vs=[.int .i64 x]
theorem inz:∀ j,j<1→InC ((Value.int .i64 0).cells[j]!):=fun j hj=>by
 match j,hj with
 | 0,_=>exact ⟨0,rfl⟩
theorem Vals.getv {w:World} {g o:Nat} {rs:List (Fq×Fq)} (h:Vals w g o rs) {k:Nat} (hk:k<rs.length) :
 ∃ n A l c B m d n' A' l' c' B' m' d',w.cell? ⟨g,o+k*6,none⟩=some (.bool n)∧w.cell? ⟨g,o+k*6+1,none⟩=some (.slice A l c)∧w.cell? ⟨g,o+k*6+2,none⟩=some (.slice B m d)∧w.cell? ⟨g,o+k*6+3,none⟩=some (.bool n')∧w.cell? ⟨g,o+k*6+4,none⟩=some (.slice A' l' c')∧w.cell? ⟨g,o+k*6+5,none⟩=some (.slice B' m' d') ∧
   IntN w n A l c (rs.getD k r00).1.z∧NatN w B m d (rs.getD k r00).1.q∧IntN w n' A' l' c' (rs.getD k r00).2.z∧NatN w B' m' d' (rs.getD k r00).2.q:=by
 have e:rs[k]?=some (rs.getD k r00):=by rw [List.getD_eq_getElem?_getD,List.getElem?_eq_getElem hk];rfl
 obtain ⟨vs,⟨n,A,l,c,B,m,d,n',A',l',c',B',m',d',hv,h1,h2,h3,h4⟩,hc⟩:=h k _ e
 subst hv
 exact ⟨n,A,l,c,B,m,d,n',A',l',c',B',m',d',hc 0 _ rfl,hc 1 _ rfl,hc 2 _ rfl,hc 3 _ rfl,hc 4 _ rfl,hc 5 _ rfl,h1,h2,h3,h4⟩
theorem SlE.ints {w:World} {A:Option Addr} {l c:Nat} {xs:List Int} (h:SlE 1 InR w A l c xs):I64At w A l c xs:=by
 refine ⟨h.length,h.cap,?_⟩
 rcases h.elems with ⟨h0,_⟩ | ⟨b,o,e,hb,hv⟩
 ·exact .inl h0
 ·refine .inr ⟨b,o,e,hb,fun j hj=>?_⟩
  have hjl:j<xs.length:=by rw [h.length];exact hj
  obtain ⟨vs,ev,hc⟩:=hv j (xs.getD j 0) (by rw [List.getD_eq_getElem?_getD,List.getElem?_eq_getElem hjl];rfl)
  rw [show vs=_ from ev] at hc
  have:=hc 0 _ rfl
  rw [Nat.mul_one,Nat.add_zero] at this
  exact this
set_option maxRecDepth 100000 in
set_option maxHeartbeats 8000000 in
theorem codes_any {w:World} {Af:Option Addr} {lf cf:Nat} {f:List Int} (hf:PolyN w Af lf cf f) (s6:S6 f) :
 Calls Tryz.prog 37 #[.slice Af lf cf] w fun e w'=>(∃ A l c,e=.returned (.slice A l c)∧SlE 1 CodR w' A l c (codes f))∧Below w.heap.size w w':=by
 obtain ⟨i0,hi,hz0,hz1,hz2⟩:=info_parts info_code
 have hlf:lf≤6:=by have:=hf.length;have:=s6.len;omega
 have h9:=s6.p9
 have hq9:=s6.q9
 have hql:=s6.ql
 have hqlen:=s6.qlen
 have HP:=Lib.hid hf
 have S6H:=Lib.hid s6
 have hlen6:=s6.len
 have HB:=Lib.hid s6.b
 clear hf s6
 go_enter Tryz.func37,Tryz.ntmps37
 go_wp2_with fail
 refine (part_q ikN _ _ _ f _ HP.out h9.cp.fit.smp (fun _=>h9.q) (by omega)).mono ?_
 rintro e w1 ⟨A1,l1,c1,rfl,h1,hb1⟩
 obtain ⟨Q,hQ⟩:∃ Q,Q=qpart f:=⟨_,rfl⟩
 rw [← hQ] at h1 hq9 hql hqlen
 have hl1:l1≤6:=by have:=h1.length;omega
 have HQ:=Lib.hid h1
 have HQe:=Lib.hid hQ
 replace HP:=Lib.hid (HP.out.below ikN hb1)
 have Hb:=Lib.hid hb1
 clear h1 hb1 hQ
 go_wp2_with fail
 refine (ders_any ikN HP.out hlen6 HB.out).mono ?_
 rintro e w2 ⟨⟨A2,l2,c2,rfl,h2⟩,hb2⟩
 have hgl:=h2.length
 have hder:(ders f).length=plen f-1:=dkl_len _ _
 have hpl:=S6H.out.pl
 have HG:=Lib.hid (show ∀ k,k<(ders f).length→G6 ((ders f).getD k []) from fun k hk=>by
  unfold ders dkl at hk ⊢
  rw [List.length_map,List.length_range] at hk
  rw [List.getD_eq_getElem?_getD,List.getElem?_map,List.getElem?_range hk]
  exact dk_g6 hlen6 HB.out (by omega))
 have hl2:l2≤1000:=by omega
 have HL:=Lib.hid h2
 replace HP:=Lib.hid (HP.out.below ikN hb2)
 replace HQ:=Lib.hid (HQ.out.below ikN hb2)
 replace Hb:=Lib.hid (Hb.out.trans (hb2.mono Hb.out.size))
 clear h2 hb2 hgl hder hpl
 go_wp2_with fail
 refine (roots_any ikN _ _ _ f _ HP.out h9.cp.fit.smp (fun _=>h9.q) (fun h=>SqF.of9 h9 h) (by omega)).mono ?_
 rintro e w3 ⟨⟨A3,l3,c3,rfl,h3⟩,hb3⟩
 have hn9:=proots_le9 h9
 obtain ⟨RS,hRS⟩:∃ R,R=proots f:=⟨_,rfl⟩
 have hfq:=proots_fqb h9
 rw [← hRS] at h3 hn9 hfq
 have HRS:=Lib.hid hRS
 have Hrl:=Lib.hid h3.length
 have HR:=Lib.hid h3
 have Hfq:=Lib.hid hfq
 replace HQ:=Lib.hid (HQ.out.below ikN hb3)
 replace HL:=Lib.hid (HL.out.belowp hb3)
 replace Hb:=Lib.hid (Hb.out.trans (hb3.mono Hb.out.size))
 have hl3:l3≤9:=by rw [← h3.length];exact hn9
 clear hb3 h3 hRS hfq HP
 obtain ⟨F,hF⟩:∃ F:Fq×Fq→List Int,F=fun r=>(ders f).map (sgA Q r):=⟨_,rfl⟩
 have HF:=Lib.hid hF
 clear hF
 obtain ⟨wo,hwo⟩:∃ wo,wo=w3:=⟨_,rfl⟩
 rw [← hwo] at HR HQ Hb HL ⊢
 clear hwo
 go_wp2_with fail
 go_loopw [5,15] (fun s s15 wr=>∃ k:Nat,k≤l3∧s15=.int .i64 (k:Int)∧(∃ us,OwnE SlC 1 75 wo.heap.size wr s us∧Lay (CodR wr) ((RS.take k).map F) us)∧Below wo.heap.size wo wr) (fun _ s15 _=>l3-(intOf s15).toNat)
 case atStart=>exact ⟨0,Nat.zero_le _,rfl,⟨[],OwnE.nil _ _ _ _ _,rfl⟩,Bel.go⟩
 case round =>
  obtain ⟨k,hk,rfl,⟨us,ho,hly⟩,hbw⟩:=hrel
  by_cases hlt:k<l3
  ·have ka:(k:Int)<(l3:Int):=by omega
   have i1:IntKind.i64.wrap ((k:Int)+1)=(k:Int)+1:=IntWalk.i64_in _ (by omega)
   obtain ⟨b,o,rfl,hb0,hv⟩:∃ b o,A3=some ⟨b,o,none⟩∧b<wr.heap.size∧Vals wr b o RS:=by
    rcases (HR.out.below hbw).elems with ⟨h,_⟩ | h
    ·omega
    ·exact h
   have hkl:k<RS.length:=by rw [Hrl.out];exact hlt
   obtain ⟨n,A,l,c,B,m,d,n',A',l',c',B',m',d',e0,e1,e2,e3,e4,e5,z1,z2,z3,z4⟩:=hv.getv hkl
   obtain ⟨fa,fb⟩:=Hfq.out _ (getD_mem hkl r00)
   obtain ⟨r,hr⟩:∃ r,r=RS.getD k r00:=⟨_,rfl⟩
   rw [← hr] at z1 z2 z3 z4 fa fb
   have HRe:=Lib.hid hr
   have HKL:=Lib.hid hkl
   have jb:=below_new wr (tbox n A l c B m d n' A' l' c' B' m' d')
   have T:=Lib.hid (TBox.make z1 z2 z3 z4)
   have O:=Lib.hid (And.intro (ho.below jb) (show Lay (CodR (wr.alloc (tbox n A l c B m d n' A' l' c' B' m' d'))) ((RS.take k).map F) us from hly.mono fun _ _ hx=>hx.below jb))
   have hul:us.length=k*1:=by rw [hly.len fun x vs hx=>hx.len,List.length_map,List.length_take];omega
   have Hbw:=Lib.hid (hbw.trans (jb.mono hbw.size))
   have HQr:=Lib.hid ((HQ.out.below ikN hbw).below ikN jb)
   have HLr:=Lib.hid ((HL.out.belowp hbw).belowp jb)
   have x0:=T.out.r.c0;have x1:=T.out.r.c1;have x2:=T.out.r.c2;have x3:=T.out.c3;have x4:=T.out.c4;have x5:=T.out.c5
   have Hlt:=Lib.hid hlt
   clear z1 z2 z3 z4 hv hr ho hly hbw jb hlt hkl hk
   go_wp2_with fail
   refine (tsigns_any ikN (r:=r) HQr.out (by omega) hq9 hql HLr.out HG.out (by omega) T.out.r.hz T.out.r.hq T.out.hz T.out.hq fa fb).mono ?_
   rintro e w5 ⟨⟨A5,c5,rfl,h5⟩,hb5⟩
   have jb:=below_new w5 (.cells #[.slice A5 l2 c5] 75)
   have b6:=hb5.trans (jb.mono hb5.size)
   have HX6:=Lib.hid (show CodR (w5.alloc (.cells #[.slice A5 l2 c5] 75)) (F r) [.slice A5 l2 c5] from ⟨_,_,_,rfl,by rw [HF.out];exact h5.below jb⟩)
   have HC6:=Lib.hid (show ∀ (j:Nat) (v:Value),[Value.slice A5 l2 c5][j]?=some v→(w5.alloc (.cells #[.slice A5 l2 c5] 75)).cell? ((⟨w5.heap.size,0,none⟩:Addr).add j)=some v from one_cell _)
   have O5:=Lib.hid (And.intro (O.out.1.below b6) (show Lay (CodR (w5.alloc (.cells #[.slice A5 l2 c5] 75))) ((RS.take k).map F) us from O.out.2.mono fun _ _ hx=>hx.below b6))
   have Hb6:=Lib.hid (Hbw.out.trans (b6.mono Hbw.out.size))
   have Hsz:=Lib.hid (show wo.heap.size≤(w5.alloc (.cells #[.slice A5 l2 c5] 75)).heap.size from Hb6.out.size)
   clear hb5 jb b6 O Hbw HQr T x0 x1 x2 x3 x4 x5 HLr h5
   go_wp2_with (at_builtin;refine wpList_app_own rfl (.tmp 19) (.tmp 24) 70 75 rfl 1 i0 (.slice none 0 0) Tryz.underlying70 hi hz0 hz1 (by rw [hz2];omega) rfl SlC slC_nd slz (by decide) wo.heap.size _ us [.slice A5 l2 c5] rfl O5.out.1 Hsz.out ⟨w5.heap.size,0,none⟩ 1 1 rfl rfl HC6.out (fun u hu=>HX6.out.sl u hu) (.inl (by decide)) (by rw [hul];simp;omega) 25 rfl ?_)
   intro v2 w9 hgr
   have hb9:=hgr.below Hsz.out
   have hn:CodR w9 (F r) [.slice A5 l2 c5]:=codr_mv hgr _ _ HX6.out
   have hly9:Lay (CodR w9) ((RS.take (k+1)).map F) (us ++ [.slice A5 l2 c5]):=by
    have h1:Lay (CodR w9) ((RS.take k).map F) us:=O5.out.2.mono fun p ys hp=>codr_mv hgr p ys hp
    exact lay_take (d:=r00) h1 HKL.out (by rw [← HRe.out];exact hn)
   have O9:=Lib.hid (And.intro hgr.1 hly9)
   have Hb9:=Lib.hid (Hb6.out.trans hb9)
   clear hgr hb9 hly9 hn O5 Hb6 Hsz HC6
   go_wp2_with fail
   go_roundw
   case rel=>exact ⟨k+1,Hlt.out,by go_num,⟨_,O9.out.1,O9.out.2⟩,Hb9.out⟩
   case measure=>have:=Hlt.out;simp [intOf];omega
  ·have hk2:k=l3:=by omega
   have t1:¬ (k:Int)<(l3:Int):=by omega
   obtain ⟨A9,l9,c9,e9,h9'⟩:=ho.sle (by decide) hly fun x vs hx=>hx.len
   subst e9
   have FX:=Lib.hid (show SlE 1 CodR wr A9 l9 c9 (codes f) by
    rw [hk2,← Hrl.out,List.take_length,HF.out] at h9'
    unfold codes tabl
    rw [← HRS.out,← HQe.out]
    exact h9')
   clear ho hly h9' hk2 hlt
   go_wp2_with fail
   go_ret
   exact ⟨⟨_,_,_,rfl,FX.out⟩,Hb.out.trans (hbw.mono Hb.out.size)⟩
end Go.Proofs.YtbfddopopajgaaaGreat
namespace Go.Proofs.YtbfddopopajgaaaGreat
open Go Go.RowKit
theorem codes_len (f:List Int):(codes f).length=(proots f).length:=by unfold codes tabl;rw [List.length_map]
theorem w2_s6:S6 w2:=⟨by decide,by decide,fun j=>by
 match j with
 | 0=>decide
 | 1=>decide
 | 2=>decide
 | j+3=>simp [w2]⟩
theorem w2_all:nall w2=2:=by decide +kernel
theorem w2_codes:(codes w2).length=2:=by
 have h:=(cmpl_roots w2_s6.p9).1
 rw [w2_all] at h
 rw [codes_len]
 omega
theorem w2_atT (w:World):I64At (w.alloc (.cells #[.int .i64 (-2),.int .i64 0,.int .i64 1] 2)) (some ⟨w.heap.size,0,none⟩) 3 3 w2:=by
 refine ⟨rfl,by omega,.inr ⟨w.heap.size,0,rfl,by simp,fun j hj=>?_⟩⟩
 match j,hj with
 | 0,_=>simp [w2]
 | 1,_=>simp [w2]
 | 2,_=>simp [w2]
set_option maxHeartbeats 1000000 in
theorem awake19_any (w:World):Calls Tryz.prog 15 #[] w fun e w'=>e=.returned (.bool true)∧Below w.heap.size w w':=by
 have jb:=below_new w (.cells #[.int .i64 (-2),.int .i64 0,.int .i64 1] 2)
 have hat:=w2_atT w
 go_enter Tryz.func15,Tryz.ntmps15
 go_wp2_with fail
 refine (pof_any _ _ _ _ _ (by first | exact hat | simpa using hat) (by intro c hc;simp [w2] at hc;rcases hc with rfl | rfl | rfl<;>(unfold I64;omega)) (by omega)).mono ?_
 rintro e w1 ⟨A1,l1,c1,rfl,h1,hb1⟩
 rw [show ptrim w2=w2 by decide] at h1
 have HP:=Lib.hid h1
 have Hb:=Lib.hid (jb.trans (hb1.mono jb.size))
 clear hb1 h1 hat jb
 go_wp2_with fail
 refine (codes_any HP.out w2_s6).mono ?_
 rintro e w2' ⟨⟨A2,l2,c2,rfl,h2⟩,hb2⟩
 have hl:l2=2:=by rw [← h2.length];exact w2_codes
 subst hl
 replace Hb:=Lib.hid (Hb.out.trans (hb2.mono Hb.out.size))
 clear hb2 h2 HP
 go_wp2
 go_ret
 exact ⟨by first | rfl | simp,Hb.out⟩
theorem I64At.get {w:World} {A:Option Addr} {l c:Nat} {p:List Int} (h:I64At w A l c p) {k:Nat} (hk:k<l):∃ b o,A=some ⟨b,o,none⟩∧b<w.heap.size∧w.cell? ⟨b,o+k,none⟩=some (.int .i64 (p.getD k 0)):=by
 rcases h.cells with h0 | ⟨b,o,e,hb,hv⟩
 ·omega
 ·exact ⟨b,o,e,hb,hv k hk⟩
set_option maxRecDepth 100000 in
set_option maxHeartbeats 4000000 in
theorem wide_any {w:World} {A:Option Addr} {l c n:Nat} {p:List Int} (ha:I8At w A l c p) (hn:n≤1000) :
  Calls Tryz.prog 27 #[.slice A l c,.int .i64 (n:Int)] w fun e w'=>(∃ A' l' c',e=.returned (.slice A' l' c')∧I64At w' A' l' c' (p.take n))∧Below w.heap.size w w':=by
 obtain ⟨i0,hi,hz0,hz1,hz2⟩:=info_parts info_in1
 have HA:=Lib.hid ha
 have lp:=ha.length
 clear ha
 go_enter Tryz.func27,Tryz.ntmps27
 obtain ⟨wo,hwo⟩:∃ wo,wo=w:=⟨_,rfl⟩
 rw [← hwo] at HA ⊢
 clear hwo
 go_wp2_with fail
 go_loopw [5,6] (fun s5 s6 wr=>∃ k:Nat,k≤l∧k≤n∧s6=.int .i64 (k:Int)∧(∃ us,OwnE InC 1 3 wo.heap.size wr s5 us∧Lay (InR wr) (p.take k) us)∧Below wo.heap.size wo wr) (fun _ s6 _=>l-(intOf s6).toNat)
 case atStart=>exact ⟨0,Nat.zero_le _,Nat.zero_le _,rfl,⟨[],OwnE.nil _ _ _ _ _,rfl⟩,Bel.go⟩
 case round =>
  obtain ⟨k,hk,hkn,rfl,⟨us,ho,hly⟩,hbw⟩:=hrel
  by_cases hlt:k<l∧k<n
  ·have ka:(k:Int)<(l:Int):=by omega
   have kb:(k:Int)<(n:Int):=by omega
   have i1:IntKind.i64.wrap ((k:Int)+1)=(k:Int)+1:=IntWalk.i64_in _ (by omega)
   have hbx:=(HA.out.below hbw).cells
   obtain ⟨b,o,rfl,hb0,hv⟩:∃ b o,A=some ⟨b,o,none⟩∧b<wr.heap.size∧∀ j,j<l→wr.cell? ⟨b,o+j,none⟩=some (.int .i8 (p.getD j 0)):=by
    rcases hbx with h | ⟨b,o,e,h1,h2⟩
    ·omega
    ·exact ⟨b,o,e,h1,h2⟩
   have x0:=hv k hlt.1
   obtain ⟨V,hV⟩:∃ V,V=p.getD k 0:=⟨_,rfl⟩
   rw [← hV] at x0
   have hV8:-128≤V∧V≤127:=by
    rw [hV]
    exact HA.out.range _ (by rw [List.getD_eq_getElem?_getD,List.getElem?_eq_getElem (by omega:k<p.length)];exact List.getElem_mem _)
   have i2:IntKind.i64.wrap V=V:=IntWalk.i64_in _ (by omega)
   have hul:us.length=k:=by rw [hly.len fun x vs hx=>(show vs.length=1 by rw [show vs=_ from hx];rfl),List.length_take];omega
   have jb:=below_new wr (.cells #[.int .i64 V] 3)
   have O:=Lib.hid (And.intro (ho.below jb) (show Lay (InR (wr.alloc (.cells #[.int .i64 V] 3))) (p.take k) us from hly))
   have Hbw:=Lib.hid (hbw.trans (jb.mono hbw.size))
   have Hsz:=Lib.hid (show wo.heap.size≤(wr.alloc (.cells #[.int .i64 V] 3)).heap.size from Hbw.out.size)
   have HVe:=Lib.hid hV
   have Hlt:=Lib.hid hlt
   have HC6:=Lib.hid (show ∀ (j:Nat) (v:Value),[Value.int .i64 V][j]?=some v→(wr.alloc (.cells #[.int .i64 V] 3)).cell? ((⟨wr.heap.size,0,none⟩:Addr).add j)=some v from one_cell _)
   clear hbx hv hV ho hly hbw jb hlt
   go_wp2_with (at_builtin;refine wpList_app_own rfl (.tmp 18) (.tmp 24) 28 3 rfl 1 i0 (.int .i64 0) Tryz.underlying28 hi hz0 hz1 (by rw [hz2];omega) rfl InC inC_nd inz (by decide) wo.heap.size _ us [.int .i64 V] rfl O.out.1 Hsz.out ⟨wr.heap.size,0,none⟩ 1 1 rfl rfl HC6.out (fun u hu=>⟨V,by simpa using hu⟩) (.inl (by decide)) (by rw [hul];simp;omega) 25 rfl ?_)
   intro v2 w9 hgr
   have hb9:=hgr.below Hsz.out
   have hly9:Lay (InR w9) (p.take (k+1)) (us ++ [.int .i64 V]):=by
    have h2:=Lay.app (R:=InR w9) (xs:=p.take k) (us:=us) (x:=V) (vs:=[.int .i64 V]) O.out.2 rfl
    have e:p.take (k+1)=p.take k ++ [V]:=by
     have hkl:k<p.length:=by have:=Hlt.out.1;omega
     rw [List.take_succ_eq_append_getElem hkl,HVe.out,List.getD_eq_getElem?_getD,List.getElem?_eq_getElem hkl]
     rfl
    rw [e]
    exact h2
   have O9:=Lib.hid (And.intro hgr.1 hly9)
   have Hb9:=Lib.hid (Hbw.out.trans hb9)
   clear hgr hb9 hly9 O Hbw Hsz HC6
   go_wp2_with fail
   go_roundw
   case rel=>exact ⟨k+1,Hlt.out.1,Hlt.out.2,by go_num,⟨_,O9.out.1,O9.out.2⟩,Hb9.out⟩
   case measure=>have:=Hlt.out;simp [intOf];omega
  ·obtain ⟨A9,l9,c9,e9,h9'⟩:=ho.sle (by decide) hly fun x vs hx=>(show vs.length=1 by rw [show vs=_ from hx];rfl)
   subst e9
   have FX:=Lib.hid (show I64At wr A9 l9 c9 (p.take n) by
    have e:p.take n=p.take k:=by
     by_cases h:k=n
     ·rw [h]
     ·rw [List.take_of_length_le (by omega),List.take_of_length_le (by omega)]
    rw [e]
    exact SlE.ints h9')
   clear ho hly h9'
   by_cases h1:k<l
   ·have t0:(k:Int)<(l:Int):=by omega
    have t1:¬ (k:Int)<(n:Int):=by omega
    clear hlt
    go_wp2_with fail
    go_ret
    exact ⟨⟨_,_,_,rfl,FX.out⟩,hbw⟩
   ·have t0:¬ (k:Int)<(l:Int):=by omega
    clear hlt
    go_wp2_with fail
    go_ret
    exact ⟨⟨_,_,_,rfl,FX.out⟩,hbw⟩
end Go.Proofs.YtbfddopopajgaaaGreat
namespace Go.Proofs.YtbfddopopajgaaaGreat
open Go Go.RowKit
def nsg (x:Int):Bool:=decide (x < -1) || decide (1<x)
theorem nsg_false {x:Int} (h:nsg x=false):-1≤x∧x≤1:=by
 unfold nsg at h
 rw [Bool.or_eq_false_iff] at h
 have h1:=of_decide_eq_false h.1
 have h2:=of_decide_eq_false h.2
 omega
set_option maxHeartbeats 1000000 in
theorem notsign_any (x:Int) (w:World):Calls Tryz.prog 69 #[.int .i64 x] w fun e w'=>e=.returned (.bool (nsg x))∧w'=w:=by
 go_enter Tryz.func69,Tryz.ntmps69
 by_cases h1:x < -1
 ·have FX:=Lib.hid (show nsg x=true by unfold nsg;rw [decide_eq_true h1];rfl)
  go_wp2
  go_ret
  exact ⟨by rw [FX.out];rfl,rfl⟩
 ·by_cases h2:1<x
  ·have FX:=Lib.hid (show nsg x=true by unfold nsg;rw [decide_eq_true h2,Bool.or_true])
   go_wp2
   go_ret
   exact ⟨by rw [FX.out];rfl,rfl⟩
  ·have FX:=Lib.hid (show nsg x=false by unfold nsg;rw [decide_eq_false h1,decide_eq_false h2];rfl)
   go_wp2
   go_ret
   exact ⟨by rw [FX.out];rfl,rfl⟩
theorem any_of {p:List Int} {k:Nat} (hk:k<p.length) (h:nsg (p.getD k 0)=true):p.any nsg=true:=by
 rw [List.any_eq_true]
 refine ⟨_,?_,h⟩
 rw [List.getD_eq_getElem?_getD,List.getElem?_eq_getElem hk]
 exact List.getElem_mem _
theorem any_not {p:List Int} (h:∀ j,j<p.length→nsg (p.getD j 0)=false):p.any nsg=false:=by
 rw [List.any_eq_false]
 intro x hx
 obtain ⟨j,hj,e⟩:=List.getElem_of_mem hx
 have:=h j hj
 rw [List.getD_eq_getElem?_getD,List.getElem?_eq_getElem hj] at this
 have e2:nsg x=false:=by rw [← e];exact this
 rw [e2];simp
set_option maxRecDepth 100000 in
set_option maxHeartbeats 4000000 in
theorem index_any {w:World} {A:Option Addr} {l c:Nat} {p:List Int} (ha:I64At w A l c p) (hl:l≤1000000) :
 Calls Tryz.prog 109 #[.slice A l c,.func (.func 69) #[] #[]] w fun e w'=>(∃ i:Int,e=.returned (.int .i64 i)∧decide (0≤i)=p.any nsg)∧w'=w:=by
 have HA:=Lib.hid ha
 have lp:=ha.length
 clear ha
 go_enter Tryz.func109,Tryz.ntmps109
 go_wp2_with fail
 go_loopw [8] (fun s8 wr=>∃ k:Nat,k≤l∧s8=.int .i64 (k:Int)∧wr=w∧∀ j,j<k→nsg (p.getD j 0)=false) (fun s8 _=>l-(intOf s8).toNat)
 case atStart=>exact ⟨0,Nat.zero_le _,rfl,rfl,fun j hj=>by omega⟩
 case round =>
  obtain ⟨k,hk,rfl,rfl,hs⟩:=hrel
  have HS:=Lib.hid hs
  clear hs
  by_cases hlt:k<l
  ·have ka:(k:Int)<(l:Int):=by omega
   have i1:IntKind.i64.wrap ((k:Int)+1)=(k:Int)+1:=IntWalk.i64_in _ (by omega)
   obtain ⟨b1,o1,rfl,_,x1⟩:=HA.out.get hlt
   obtain ⟨u,hu⟩:∃ u,u=p.getD k 0:=⟨_,rfl⟩
   rw [← hu] at x1
   have HU:=Lib.hid hu
   have Hlt:=Lib.hid hlt
   clear hu hlt
   go_wp2_with fail
   refine (notsign_any u _).mono ?_
   rintro e w2 ⟨rfl,rfl⟩
   by_cases c0:nsg u=true
   ·have FX:=Lib.hid (show decide ((0:Int)≤(k:Int))=p.any nsg by
     rw [any_of (k:=k) (by have:=Hlt.out;omega) (by rw [← HU.out];exact c0)]
     exact decide_eq_true (by omega))
    rw [c0]
    clear c0
    go_wp2_with fail
    go_ret
    exact ⟨⟨k,rfl,FX.out⟩,rfl⟩
   ·have c1:nsg u=false:=by simpa using c0
    have HC:=Lib.hid c1
    rw [c1]
    clear c0 c1
    go_wp2_with fail
    go_roundw
    case rel=>exact ⟨k+1,Hlt.out,by go_num,by first | trivial | rfl,fun j hj=>by
     by_cases h:j=k
     ·rw [h,← HU.out];exact HC.out
     ·exact HS.out j (by omega)⟩
    case measure=>have:=Hlt.out;simp [intOf];omega
  ·have hk2:k=l:=by omega
   have t1:¬ (k:Int)<(l:Int):=by omega
   have FX:=Lib.hid (show decide ((0:Int)≤-1)=p.any nsg by
    rw [any_not (fun j hj=>HS.out j (by omega))]
    rfl)
   clear hlt hk2
   go_wp2_with fail
   go_ret
   exact ⟨⟨-1,rfl,FX.out⟩,rfl⟩
set_option maxHeartbeats 4000000 in
theorem contains_any {w:World} {A:Option Addr} {l c:Nat} {p:List Int} (ha:I64At w A l c p) (hl:l≤1000000) :
 Calls Tryz.prog 68 #[.slice A l c,.func (.func 69) #[] #[]] w fun e w'=>e=.returned (.bool (p.any nsg))∧w'=w:=by
 go_enter Tryz.func68,Tryz.ntmps68
 go_wp2_with fail
 refine (index_any ha hl).mono ?_
 rintro e w2 ⟨⟨i,rfl,hi⟩,rfl⟩
 have HV:=Lib.hid hi
 clear hi
 go_wp2_with fail
 go_ret
 exact ⟨by rw [← HV.out];rfl,rfl⟩
def lsd (a b:List Int):Nat→Nat
 | 0=>0
 | n+1=>if a.getD n 0=b.getD n 0 then lsd a b n else n+1
theorem lsd_le (a b:List Int):∀ n,lsd a b n≤n
 | 0=>Nat.le_refl _
 | n+1=>by
   unfold lsd
   split
   ·have:=lsd_le a b n;omega
   ·exact Nat.le_refl _
theorem lsd_symm (a b:List Int):∀ n,lsd a b n=lsd b a n
 | 0=>rfl
 | n+1=>by
   unfold lsd
   by_cases h:a.getD n 0=b.getD n 0
   ·rw [if_pos h,if_pos h.symm];exact lsd_symm a b n
   ·rw [if_neg h,if_neg fun e=>h e.symm]
theorem lsd_ne {a b:List Int}:∀ {n m:Nat},lsd a b n=m+1→a.getD m 0≠b.getD m 0
 | 0,m,h=>by cases h
 | n+1,m,h=>by
   unfold lsd at h
   by_cases c:a.getD n 0=b.getD n 0
   ·rw [if_pos c] at h;exact lsd_ne h
   ·rw [if_neg c] at h
    rw [show m=n by omega];exact c
theorem lsd_eq {a b:List Int}:∀ {n j:Nat},lsd a b n≤j→j<n→a.getD j 0=b.getD j 0
 | 0,j,_,h=>by cases h
 | n+1,j,h,h1=>by
   unfold lsd at h
   by_cases c:a.getD n 0=b.getD n 0
   ·rw [if_pos c] at h
    by_cases e:j=n
    ·rw [e];exact c
    ·exact lsd_eq h (by omega)
   ·rw [if_neg c] at h;omega
def rul (a b:List Int):Int×Int :=
 if a.length≠b.length∨a.any nsg=true∨b.any nsg=true then (0,1) else
 if lsd a b a.length=0 then (0,0) else
 if lsd a b a.length=a.length∨a.getD (lsd a b a.length) 0=0 then (0,1) else
 if (a.getD (lsd a b a.length-1) 0<b.getD (lsd a b a.length-1) 0)↔(a.getD (lsd a b a.length) 0=1) then (-1,0) else (1,0)
theorem rul_err (a b:List Int):(rul a b).2=0∨rul a b=(0,1):=by
 unfold rul
 (repeat' split)<;>simp
theorem rul_swap {a b:List Int} (h:(rul a b).2=0):rul b a=(-(rul a b).1,0):=by
 unfold rul at h ⊢
 by_cases c:a.length≠b.length∨a.any nsg=true∨b.any nsg=true
 ·rw [if_pos c] at h;cases h
 have c':¬ (b.length≠a.length∨b.any nsg=true∨a.any nsg=true):=by
  rintro (e | e | e)
  ·exact c (.inl e.symm)
  ·exact c (.inr (.inr e))
  ·exact c (.inr (.inl e))
 rw [if_neg c] at h ⊢
 rw [if_neg c']
 have hl:a.length=b.length:=by
  by_cases e:a.length=b.length
  ·exact e
  ·exact absurd (.inl e) c
 rw [← hl,lsd_symm b a]
 by_cases c0:lsd a b a.length=0
 ·rw [if_pos c0,if_pos c0];rfl
 rw [if_neg c0] at h ⊢
 rw [if_neg c0]
 by_cases c1:lsd a b a.length=a.length∨a.getD (lsd a b a.length) 0=0
 ·rw [if_pos c1] at h;cases h
 have hlt:lsd a b a.length<a.length:=by have:=lsd_le a b a.length;have:=fun e=>c1 (.inl e);omega
 have e1:=lsd_eq (a:=a) (b:=b) (Nat.le_refl _) hlt
 obtain ⟨m,hm⟩:∃ m,lsd a b a.length=m+1:=⟨lsd a b a.length-1,by omega⟩
 have e2:=lsd_ne hm
 rw [if_neg c1,← e1,if_neg c1]
 rw [hm]
 show (if (b.getD m 0<a.getD m 0↔a.getD (m+1) 0=1) then ((-1,0):Int×Int) else (1,0))=(-(if (a.getD m 0<b.getD m 0↔a.getD (m+1) 0=1) then ((-1,0):Int×Int) else (1,0)).1,0)
 by_cases u:a.getD (m+1) 0=1<;>by_cases v:a.getD m 0<b.getD m 0
 ·rw [if_neg (fun h=>absurd (h.2 u) (by omega)),if_pos ⟨fun _=>u,fun _=>v⟩];rfl
 ·rw [if_pos ⟨fun _=>u,fun _=>by omega⟩,if_neg (fun h=>v (h.2 u))]
 ·rw [if_pos ⟨fun h=>absurd h (by omega),fun h=>absurd h u⟩,if_neg (fun h=>u (h.1 v))]
 ·rw [if_neg (fun h=>u (h.1 (by omega))),if_pos ⟨fun h=>absurd h v,fun h=>absurd h u⟩];rfl
theorem lsd_suc (a b:List Int) (k:Nat):lsd a b (k+1)=if a.getD k 0=b.getD k 0 then lsd a b k else k+1:=rfl
set_option maxRecDepth 100000 in
set_option maxHeartbeats 8000000 in
theorem rule_any {w:World} {A B:Option Addr} {l c m d:Nat} {a b:List Int} (ha:I64At w A l c a) (hb:I64At w B m d b) (hl:l≤1000000) (hm:m≤1000000) :
 Calls Tryz.prog 28 #[.slice A l c,.slice B m d] w fun e w'=>e=.returned (.tuple #[.int .i64 (rul a b).1,.int .i64 (rul a b).2])∧Below w.heap.size w w':=by
 have HA:=Lib.hid ha
 have HB:=Lib.hid hb
 have la:=ha.length
 have lb:=hb.length
 clear ha hb
 obtain ⟨R,hR⟩:∃ R,R=rul a b:=⟨_,rfl⟩
 rw [← hR]
 unfold rul at hR
 rw [la,lb] at hR
 go_enter Tryz.func28,Tryz.ntmps28
 by_cases e0:l=m
 case neg =>
  rw [if_pos (.inl e0)] at hR
  subst hR
  have e1:((l:Int) == (m:Int))=false:=by rw [beq_eq_false_iff_ne];omega
  have e2:((l:Int) != (m:Int))=true:=by rw [bne,e1];rfl
  go_wp2_with fail
  go_wp2
  refine bodyPost_ret (v:=.tuple #[.int .i64 0,.int .i64 1]) (by simp [results,Tryz.results28,go_sem]) rfl ⟨rfl,Bel.go⟩
 case pos =>
 subst e0
 go_wp2_with fail
 refine (contains_any HA.out hl).mono ?_
 rintro e w1 ⟨rfl,rfl⟩
 by_cases ca:a.any nsg=true
 ·rw [if_pos (.inr (.inl ca))] at hR
  subst hR
  rw [ca]
  clear ca
  go_wp2_with fail
  refine bodyPost_ret (v:=.tuple #[.int .i64 0,.int .i64 1]) (by simp [results,Tryz.results28,go_sem]) rfl ⟨rfl,Bel.go⟩
 rw [show a.any nsg=false by simpa using ca]
 go_wp2_with fail
 refine (contains_any HB.out hm).mono ?_
 rintro e w1 ⟨rfl,rfl⟩
 by_cases cb:b.any nsg=true
 ·rw [if_pos (.inr (.inr cb))] at hR
  subst hR
  rw [cb]
  clear ca cb
  go_wp2_with fail
  refine bodyPost_ret (v:=.tuple #[.int .i64 0,.int .i64 1]) (by simp [results,Tryz.results28,go_sem]) rfl ⟨rfl,Bel.go⟩
 rw [show b.any nsg=false by simpa using cb]
 rw [if_neg (by rintro (e | e | e);exact e rfl;exact ca e;exact cb e)] at hR
 have HR:=Lib.hid hR
 have i0:IntKind.i64.wrap ((l:Int)-1)=(l:Int)-1:=IntWalk.i64_in _ (by omega)
 clear ca cb hR
 go_wp2_with fail
 go_loopw [6] (fun s6 wr=>∃ k:Nat,k≤l∧s6=.int .i64 ((k:Int)-1)∧Below w1.heap.size w1 wr∧lsd a b l=lsd a b k) (fun s6 _=>(intOf s6+1).toNat)
 case atStart=>exact ⟨l,Nat.le_refl _,rfl,Bel.go,rfl⟩
 case round =>
  obtain ⟨k,hk,rfl,hbw,hs⟩:=hrel
  have HS:=Lib.hid hs
  have Hbw:=Lib.hid hbw
  have HAr:=Lib.hid (HA.out.below hbw)
  have HBr:=Lib.hid (HB.out.below hbw)
  clear hs hbw
  by_cases h0:k=0
  ·subst h0
   have hS:=HS.out
   have hR:=HR.out
   rw [hS,show lsd a b 0=0 from rfl,if_pos rfl] at hR
   subst hR
   clear hS
   go_wp2_with fail
   go_region
   go_wp2_with fail
   refine bodyPost_ret (v:=.tuple #[.int .i64 0,.int .i64 0]) (by simp [results,Tryz.results28,go_sem]) rfl ⟨rfl,Hbw.out.trans Bel.go⟩
  ·obtain ⟨j,rfl⟩:∃ j,k=j+1:=⟨k-1,by omega⟩
   have ej:((j+1:Nat):Int)-1=(j:Int):=by omega
   rw [ej]
   obtain ⟨b1,o1,rfl,_,x1⟩:=HAr.out.get (k:=j) (by omega)
   obtain ⟨b2,o2,rfl,_,x2⟩:=HBr.out.get (k:=j) (by omega)
   obtain ⟨u,hu⟩:∃ u,u=a.getD j 0:=⟨_,rfl⟩
   obtain ⟨v,hv⟩:∃ v,v=b.getD j 0:=⟨_,rfl⟩
   rw [← hu] at x1
   rw [← hv] at x2
   have HU:=Lib.hid (And.intro hu hv)
   have ka:(0:Int)≤(j:Int):=by omega
   have kb:(j:Int)<(l:Int):=by omega
   have i1:IntKind.i64.wrap ((j:Int)-1)=(j:Int)-1:=IntWalk.i64_in _ (by omega)
   clear hu hv
   by_cases c0:u=v
   ·subst c0
    have HE:=Lib.hid (show lsd a b l=lsd a b j by rw [HS.out,lsd_suc,if_pos (by rw [← HU.out.1,← HU.out.2])])
    go_wp2_with fail
    go_region
    go_wp2_with fail
    go_roundw
    case rel=>exact ⟨j,by omega,by first | rfl | trivial | go_num,Hbw.out.trans Bel.go,HE.out⟩
    case measure=>simp [intOf]
   ·have e2:(u == v)=false:=by simpa using c0
    have hS:=HS.out
    rw [lsd_suc,if_neg (by rw [← HU.out.1,← HU.out.2];exact c0)] at hS
    have hR:=HR.out
    rw [hS,if_neg (by omega),show j+1-1=j by omega,← HU.out.1,← HU.out.2] at hR
    clear hS ej
    by_cases c1:j+1=l
    ·have g2:((j:Int) == (l:Int)-1)=true:=by rw [beq_iff_eq];omega
     rw [if_pos (.inl c1)] at hR
     subst hR
     go_wp2_with fail
     go_region
     go_wp2_with fail
     refine bodyPost_ret (v:=.tuple #[.int .i64 0,.int .i64 1]) (by simp [results,Tryz.results28,go_sem]) rfl ⟨rfl,Hbw.out.trans Bel.go⟩
    have g1:¬ (j:Int)=(l:Int)-1:=by omega
    have g2:((j:Int) == (l:Int)-1)=false:=by rw [beq_eq_false_iff_ne];omega
    have g3:(j:Int)+1<(l:Int):=by omega
    have g4:(0:Int)≤(j:Int)+1:=by omega
    have i3:IntKind.i64.wrap ((j:Int)+1)=((j+1:Nat):Int):=IntWalk.i64_in _ (by omega)
    have i4:((j+1:Nat):Int)<(l:Int):=by omega
    obtain ⟨b3,o3,e3,_,x3⟩:=HAr.out.get (k:=j+1) (by omega)
    injection e3 with e3
    injection e3 with e3 e4
    subst e3 e4
    obtain ⟨t,ht⟩:∃ t,t=a.getD (j+1) 0:=⟨_,rfl⟩
    rw [← ht] at x3 hR
    clear ht
    by_cases c2:t=0
    ·rw [if_pos (.inr c2)] at hR
     subst hR c2
     go_wp2_with fail
     go_region
     go_wp2_with fail
     refine bodyPost_ret (v:=.tuple #[.int .i64 0,.int .i64 1]) (by simp [results,Tryz.results28,go_sem]) rfl ⟨rfl,Hbw.out.trans Bel.go⟩
    rw [if_neg (by rintro (e | e);exact c1 e;exact c2 e)] at hR
    have c3:(t == 0)=false:=by simpa using c2
    by_cases u1:t=1<;>by_cases v1:u<v
    ·rw [if_pos ⟨fun _=>u1,fun _=>v1⟩] at hR
     subst hR
     have d1:(t == 1)=true:=by rw [u1];rfl
     have d2:decide (u<v)=true:=decide_eq_true v1
     subst u1
     go_wp2_with fail
     go_region
     go_wp2_with fail
     refine wp_region_held_drew (S:=fun w'=>w'.cell? ⟨b1,o1+j,none⟩=some (.int .i64 u)∧w'.cell? ⟨b2,o2+j,none⟩=some (.int .i64 v)∧w'.cell? ⟨b1,o1+(j+1),none⟩=some (.int .i64 1)) (by kernel_rfl) (by (try dsimp only);go_keep) (fun hHeld=>?_)
     (refine tk (i:=0) (v:=?_) rfl rfl (Or.inl ⟨by rfl,?_⟩) ?_;rotate_left;(focus (intro w hSw;(try dsimp only at hSw);go_simp;(try with_reducible rfl)));(simp only [put_lit,List.set]))
     (refine tk (i:=1) (v:=?_) rfl rfl (Or.inl ⟨by rfl,?_⟩) ?_;rotate_left;(focus (intro w hSw;(try dsimp only at hSw);go_simp;(try with_reducible rfl)));(simp only [put_lit,List.set]))
     (refine tk (i:=2) (v:=?_) rfl rfl (Or.inl ⟨by rfl,?_⟩) ?_;rotate_left;(focus (intro w hSw;(try dsimp only at hSw);go_simp;(try with_reducible rfl)));(simp only [put_lit,List.set]))
     (refine tk (i:=3) (v:=?_) rfl rfl (Or.inl ⟨by rfl,?_⟩) ?_;rotate_left;(focus (intro w hSw;(try dsimp only at hSw);go_simp;(try with_reducible rfl)));(simp only [put_lit,List.set]))
     (refine tk (i:=4) (v:=?_) rfl rfl (Or.inl ⟨by rfl,?_⟩) ?_;rotate_left;(focus (intro w hSw;(try dsimp only at hSw);go_simp;(try with_reducible rfl)));(simp only [put_lit,List.set]))
     (refine tk (i:=5) (v:=?_) rfl rfl (Or.inl ⟨by rfl,?_⟩) ?_;rotate_left;(focus (intro w hSw;(try dsimp only at hSw);go_simp;(try with_reducible rfl)));(simp only [put_lit,List.set]))
     (refine tk (i:=6) (v:=?_) rfl rfl (Or.inl ⟨by rfl,?_⟩) ?_;rotate_left;(focus (intro w hSw;(try dsimp only at hSw);go_simp;(try with_reducible rfl)));(simp only [put_lit,List.set]))
     (refine tk (i:=7) (v:=?_) rfl rfl (Or.inl ⟨by rfl,?_⟩) ?_;rotate_left;(focus (intro w hSw;(try dsimp only at hSw);go_simp;(try with_reducible rfl)));(simp only [put_lit,List.set]))
     (refine tk (i:=8) (v:=?_) rfl rfl (Or.inl ⟨by rfl,?_⟩) ?_;rotate_left;(focus (intro w hSw;(try dsimp only at hSw);go_simp;(try with_reducible rfl)));(simp only [put_lit,List.set]))
     (refine tk (i:=9) (v:=?_) rfl rfl (Or.inl ⟨by rfl,?_⟩) ?_;rotate_left;(focus (intro w hSw;(try dsimp only at hSw);go_simp;(try with_reducible rfl)));(simp only [put_lit,List.set]))
     (refine tk (i:=10) (v:=?_) rfl rfl (Or.inl ⟨by rfl,?_⟩) ?_;rotate_left;(focus (intro w hSw;(try dsimp only at hSw);go_simp;(try with_reducible rfl)));(simp only [put_lit,List.set]))
     (refine tk (i:=11) (v:=?_) rfl rfl (Or.inl ⟨by rfl,?_⟩) ?_;rotate_left;(focus (intro w hSw;(try dsimp only at hSw);go_simp;(try with_reducible rfl)));(simp only [put_lit,List.set]))
     (refine tk (i:=12) (v:=?_) rfl rfl (Or.inl ⟨by rfl,?_⟩) ?_;rotate_left;(focus (intro w hSw;(try dsimp only at hSw);go_simp;(try with_reducible rfl)));(simp only [put_lit,List.set]))
     (refine tk (i:=13) (v:=?_) rfl rfl (Or.inl ⟨by rfl,?_⟩) ?_;rotate_left;(focus (intro w hSw;(try dsimp only at hSw);go_simp;(try with_reducible rfl)));(simp only [put_lit,List.set]))
     (refine tk (i:=14) (v:=?_) rfl rfl (Or.inl ⟨by rfl,?_⟩) ?_;rotate_left;(focus (intro w hSw;(try dsimp only at hSw);go_simp;(try with_reducible rfl)));(simp only [put_lit,List.set]))
     (refine tk (i:=15) (v:=?_) rfl rfl (Or.inl ⟨by rfl,?_⟩) ?_;rotate_left;(focus (intro w hSw;(try dsimp only at hSw);go_simp;(try with_reducible rfl)));(simp only [put_lit,List.set]))
     refine wpAnyH_done (by kernel_rfl) ?_ _
     clear hHeld x1 x2 x3
     go_wp2_with fail
     refine bodyPost_ret (v:=.tuple #[.int .i64 (-1),.int .i64 0]) (by simp [results,Tryz.results28,go_sem]) rfl ⟨rfl,Hbw.out.trans Bel.go⟩
    ·rw [if_neg (fun h=>v1 (h.2 u1))] at hR
     subst hR
     have d1:(t == 1)=true:=by rw [u1];rfl
     have d2:decide (u<v)=false:=decide_eq_false v1
     subst u1
     go_wp2_with fail
     go_region
     go_wp2_with fail
     refine wp_region_held_drew (S:=fun w'=>w'.cell? ⟨b1,o1+j,none⟩=some (.int .i64 u)∧w'.cell? ⟨b2,o2+j,none⟩=some (.int .i64 v)∧w'.cell? ⟨b1,o1+(j+1),none⟩=some (.int .i64 1)) (by kernel_rfl) (by (try dsimp only);go_keep) (fun hHeld=>?_)
     (refine tk (i:=0) (v:=?_) rfl rfl (Or.inl ⟨by rfl,?_⟩) ?_;rotate_left;(focus (intro w hSw;(try dsimp only at hSw);go_simp;(try with_reducible rfl)));(simp only [put_lit,List.set]))
     (refine tk (i:=1) (v:=?_) rfl rfl (Or.inl ⟨by rfl,?_⟩) ?_;rotate_left;(focus (intro w hSw;(try dsimp only at hSw);go_simp;(try with_reducible rfl)));(simp only [put_lit,List.set]))
     (refine tk (i:=2) (v:=?_) rfl rfl (Or.inl ⟨by rfl,?_⟩) ?_;rotate_left;(focus (intro w hSw;(try dsimp only at hSw);go_simp;(try with_reducible rfl)));(simp only [put_lit,List.set]))
     (refine tk (i:=3) (v:=?_) rfl rfl (Or.inl ⟨by rfl,?_⟩) ?_;rotate_left;(focus (intro w hSw;(try dsimp only at hSw);go_simp;(try with_reducible rfl)));(simp only [put_lit,List.set]))
     (refine tk (i:=4) (v:=?_) rfl rfl (Or.inl ⟨by rfl,?_⟩) ?_;rotate_left;(focus (intro w hSw;(try dsimp only at hSw);go_simp;(try with_reducible rfl)));(simp only [put_lit,List.set]))
     (refine tk (i:=5) (v:=?_) rfl rfl (Or.inl ⟨by rfl,?_⟩) ?_;rotate_left;(focus (intro w hSw;(try dsimp only at hSw);go_simp;(try with_reducible rfl)));(simp only [put_lit,List.set]))
     (refine tk (i:=6) (v:=?_) rfl rfl (Or.inl ⟨by rfl,?_⟩) ?_;rotate_left;(focus (intro w hSw;(try dsimp only at hSw);go_simp;(try with_reducible rfl)));(simp only [put_lit,List.set]))
     (refine tk (i:=7) (v:=?_) rfl rfl (Or.inl ⟨by rfl,?_⟩) ?_;rotate_left;(focus (intro w hSw;(try dsimp only at hSw);go_simp;(try with_reducible rfl)));(simp only [put_lit,List.set]))
     (refine tk (i:=8) (v:=?_) rfl rfl (Or.inl ⟨by rfl,?_⟩) ?_;rotate_left;(focus (intro w hSw;(try dsimp only at hSw);go_simp;(try with_reducible rfl)));(simp only [put_lit,List.set]))
     (refine tk (i:=9) (v:=?_) rfl rfl (Or.inl ⟨by rfl,?_⟩) ?_;rotate_left;(focus (intro w hSw;(try dsimp only at hSw);go_simp;(try with_reducible rfl)));(simp only [put_lit,List.set]))
     (refine tk (i:=10) (v:=?_) rfl rfl (Or.inl ⟨by rfl,?_⟩) ?_;rotate_left;(focus (intro w hSw;(try dsimp only at hSw);go_simp;(try with_reducible rfl)));(simp only [put_lit,List.set]))
     (refine tk (i:=11) (v:=?_) rfl rfl (Or.inl ⟨by rfl,?_⟩) ?_;rotate_left;(focus (intro w hSw;(try dsimp only at hSw);go_simp;(try with_reducible rfl)));(simp only [put_lit,List.set]))
     (refine tk (i:=12) (v:=?_) rfl rfl (Or.inl ⟨by rfl,?_⟩) ?_;rotate_left;(focus (intro w hSw;(try dsimp only at hSw);go_simp;(try with_reducible rfl)));(simp only [put_lit,List.set]))
     (refine tk (i:=13) (v:=?_) rfl rfl (Or.inl ⟨by rfl,?_⟩) ?_;rotate_left;(focus (intro w hSw;(try dsimp only at hSw);go_simp;(try with_reducible rfl)));(simp only [put_lit,List.set]))
     (refine tk (i:=14) (v:=?_) rfl rfl (Or.inl ⟨by rfl,?_⟩) ?_;rotate_left;(focus (intro w hSw;(try dsimp only at hSw);go_simp;(try with_reducible rfl)));(simp only [put_lit,List.set]))
     (refine tk (i:=15) (v:=?_) rfl rfl (Or.inl ⟨by rfl,?_⟩) ?_;rotate_left;(focus (intro w hSw;(try dsimp only at hSw);go_simp;(try with_reducible rfl)));(simp only [put_lit,List.set]))
     refine wpAnyH_done (by kernel_rfl) ?_ _
     clear hHeld x1 x2 x3
     go_wp2_with fail
     refine bodyPost_ret (v:=.tuple #[.int .i64 (1),.int .i64 0]) (by simp [results,Tryz.results28,go_sem]) rfl ⟨rfl,Hbw.out.trans Bel.go⟩
    ·rw [if_neg (fun h=>u1 (h.1 v1))] at hR
     subst hR
     have d1:(t == 1)=false:=by simpa using u1
     have d2:decide (u<v)=true:=decide_eq_true v1
     go_wp2_with fail
     go_region
     go_wp2_with fail
     refine wp_region_held_drew (S:=fun w'=>w'.cell? ⟨b1,o1+j,none⟩=some (.int .i64 u)∧w'.cell? ⟨b2,o2+j,none⟩=some (.int .i64 v)∧w'.cell? ⟨b1,o1+(j+1),none⟩=some (.int .i64 t)) (by kernel_rfl) (by (try dsimp only);go_keep) (fun hHeld=>?_)
     (refine tk (i:=0) (v:=?_) rfl rfl (Or.inl ⟨by rfl,?_⟩) ?_;rotate_left;(focus (intro w hSw;(try dsimp only at hSw);go_simp;(try with_reducible rfl)));(simp only [put_lit,List.set]))
     (refine tk (i:=1) (v:=?_) rfl rfl (Or.inl ⟨by rfl,?_⟩) ?_;rotate_left;(focus (intro w hSw;(try dsimp only at hSw);go_simp;(try with_reducible rfl)));(simp only [put_lit,List.set]))
     (refine tk (i:=2) (v:=?_) rfl rfl (Or.inl ⟨by rfl,?_⟩) ?_;rotate_left;(focus (intro w hSw;(try dsimp only at hSw);go_simp;(try with_reducible rfl)));(simp only [put_lit,List.set]))
     (refine tk (i:=3) (v:=?_) rfl rfl (Or.inl ⟨by rfl,?_⟩) ?_;rotate_left;(focus (intro w hSw;(try dsimp only at hSw);go_simp;(try with_reducible rfl)));(simp only [put_lit,List.set]))
     (refine tk (i:=4) (v:=?_) rfl rfl (Or.inl ⟨by rfl,?_⟩) ?_;rotate_left;(focus (intro w hSw;(try dsimp only at hSw);go_simp;(try with_reducible rfl)));(simp only [put_lit,List.set]))
     (refine tk (i:=5) (v:=?_) rfl rfl (Or.inl ⟨by rfl,?_⟩) ?_;rotate_left;(focus (intro w hSw;(try dsimp only at hSw);go_simp;(try with_reducible rfl)));(simp only [put_lit,List.set]))
     (refine tk (i:=6) (v:=?_) rfl rfl (Or.inl ⟨by rfl,?_⟩) ?_;rotate_left;(focus (intro w hSw;(try dsimp only at hSw);go_simp;(try with_reducible rfl)));(simp only [put_lit,List.set]))
     (refine tk (i:=7) (v:=?_) rfl rfl (Or.inl ⟨by rfl,?_⟩) ?_;rotate_left;(focus (intro w hSw;(try dsimp only at hSw);go_simp;(try with_reducible rfl)));(simp only [put_lit,List.set]))
     (refine tk (i:=8) (v:=?_) rfl rfl (Or.inl ⟨by rfl,?_⟩) ?_;rotate_left;(focus (intro w hSw;(try dsimp only at hSw);go_simp;(try with_reducible rfl)));(simp only [put_lit,List.set]))
     (refine tk (i:=9) (v:=?_) rfl rfl (Or.inl ⟨by rfl,?_⟩) ?_;rotate_left;(focus (intro w hSw;(try dsimp only at hSw);go_simp;(try with_reducible rfl)));(simp only [put_lit,List.set]))
     (refine tk (i:=10) (v:=?_) rfl rfl (Or.inl ⟨by rfl,?_⟩) ?_;rotate_left;(focus (intro w hSw;(try dsimp only at hSw);go_simp;(try with_reducible rfl)));(simp only [put_lit,List.set]))
     (refine tk (i:=11) (v:=?_) rfl rfl (Or.inl ⟨by rfl,?_⟩) ?_;rotate_left;(focus (intro w hSw;(try dsimp only at hSw);go_simp;(try with_reducible rfl)));(simp only [put_lit,List.set]))
     (refine tk (i:=12) (v:=?_) rfl rfl (Or.inl ⟨by rfl,?_⟩) ?_;rotate_left;(focus (intro w hSw;(try dsimp only at hSw);go_simp;(try with_reducible rfl)));(simp only [put_lit,List.set]))
     (refine tk (i:=13) (v:=?_) rfl rfl (Or.inl ⟨by rfl,?_⟩) ?_;rotate_left;(focus (intro w hSw;(try dsimp only at hSw);go_simp;(try with_reducible rfl)));(simp only [put_lit,List.set]))
     (refine tk (i:=14) (v:=?_) rfl rfl (Or.inl ⟨by rfl,?_⟩) ?_;rotate_left;(focus (intro w hSw;(try dsimp only at hSw);go_simp;(try with_reducible rfl)));(simp only [put_lit,List.set]))
     (refine tk (i:=15) (v:=?_) rfl rfl (Or.inl ⟨by rfl,?_⟩) ?_;rotate_left;(focus (intro w hSw;(try dsimp only at hSw);go_simp;(try with_reducible rfl)));(simp only [put_lit,List.set]))
     refine wpAnyH_done (by kernel_rfl) ?_ _
     clear hHeld x1 x2 x3
     go_wp2_with fail
     refine bodyPost_ret (v:=.tuple #[.int .i64 (1),.int .i64 0]) (by simp [results,Tryz.results28,go_sem]) rfl ⟨rfl,Hbw.out.trans Bel.go⟩
    ·rw [if_pos ⟨fun h=>absurd h v1,fun h=>absurd h u1⟩] at hR
     subst hR
     have d1:(t == 1)=false:=by simpa using u1
     have d2:decide (u<v)=false:=decide_eq_false v1
     go_wp2_with fail
     go_region
     go_wp2_with fail
     refine wp_region_held_drew (S:=fun w'=>w'.cell? ⟨b1,o1+j,none⟩=some (.int .i64 u)∧w'.cell? ⟨b2,o2+j,none⟩=some (.int .i64 v)∧w'.cell? ⟨b1,o1+(j+1),none⟩=some (.int .i64 t)) (by kernel_rfl) (by (try dsimp only);go_keep) (fun hHeld=>?_)
     (refine tk (i:=0) (v:=?_) rfl rfl (Or.inl ⟨by rfl,?_⟩) ?_;rotate_left;(focus (intro w hSw;(try dsimp only at hSw);go_simp;(try with_reducible rfl)));(simp only [put_lit,List.set]))
     (refine tk (i:=1) (v:=?_) rfl rfl (Or.inl ⟨by rfl,?_⟩) ?_;rotate_left;(focus (intro w hSw;(try dsimp only at hSw);go_simp;(try with_reducible rfl)));(simp only [put_lit,List.set]))
     (refine tk (i:=2) (v:=?_) rfl rfl (Or.inl ⟨by rfl,?_⟩) ?_;rotate_left;(focus (intro w hSw;(try dsimp only at hSw);go_simp;(try with_reducible rfl)));(simp only [put_lit,List.set]))
     (refine tk (i:=3) (v:=?_) rfl rfl (Or.inl ⟨by rfl,?_⟩) ?_;rotate_left;(focus (intro w hSw;(try dsimp only at hSw);go_simp;(try with_reducible rfl)));(simp only [put_lit,List.set]))
     (refine tk (i:=4) (v:=?_) rfl rfl (Or.inl ⟨by rfl,?_⟩) ?_;rotate_left;(focus (intro w hSw;(try dsimp only at hSw);go_simp;(try with_reducible rfl)));(simp only [put_lit,List.set]))
     (refine tk (i:=5) (v:=?_) rfl rfl (Or.inl ⟨by rfl,?_⟩) ?_;rotate_left;(focus (intro w hSw;(try dsimp only at hSw);go_simp;(try with_reducible rfl)));(simp only [put_lit,List.set]))
     (refine tk (i:=6) (v:=?_) rfl rfl (Or.inl ⟨by rfl,?_⟩) ?_;rotate_left;(focus (intro w hSw;(try dsimp only at hSw);go_simp;(try with_reducible rfl)));(simp only [put_lit,List.set]))
     (refine tk (i:=7) (v:=?_) rfl rfl (Or.inl ⟨by rfl,?_⟩) ?_;rotate_left;(focus (intro w hSw;(try dsimp only at hSw);go_simp;(try with_reducible rfl)));(simp only [put_lit,List.set]))
     (refine tk (i:=8) (v:=?_) rfl rfl (Or.inl ⟨by rfl,?_⟩) ?_;rotate_left;(focus (intro w hSw;(try dsimp only at hSw);go_simp;(try with_reducible rfl)));(simp only [put_lit,List.set]))
     (refine tk (i:=9) (v:=?_) rfl rfl (Or.inl ⟨by rfl,?_⟩) ?_;rotate_left;(focus (intro w hSw;(try dsimp only at hSw);go_simp;(try with_reducible rfl)));(simp only [put_lit,List.set]))
     (refine tk (i:=10) (v:=?_) rfl rfl (Or.inl ⟨by rfl,?_⟩) ?_;rotate_left;(focus (intro w hSw;(try dsimp only at hSw);go_simp;(try with_reducible rfl)));(simp only [put_lit,List.set]))
     (refine tk (i:=11) (v:=?_) rfl rfl (Or.inl ⟨by rfl,?_⟩) ?_;rotate_left;(focus (intro w hSw;(try dsimp only at hSw);go_simp;(try with_reducible rfl)));(simp only [put_lit,List.set]))
     (refine tk (i:=12) (v:=?_) rfl rfl (Or.inl ⟨by rfl,?_⟩) ?_;rotate_left;(focus (intro w hSw;(try dsimp only at hSw);go_simp;(try with_reducible rfl)));(simp only [put_lit,List.set]))
     (refine tk (i:=13) (v:=?_) rfl rfl (Or.inl ⟨by rfl,?_⟩) ?_;rotate_left;(focus (intro w hSw;(try dsimp only at hSw);go_simp;(try with_reducible rfl)));(simp only [put_lit,List.set]))
     (refine tk (i:=14) (v:=?_) rfl rfl (Or.inl ⟨by rfl,?_⟩) ?_;rotate_left;(focus (intro w hSw;(try dsimp only at hSw);go_simp;(try with_reducible rfl)));(simp only [put_lit,List.set]))
     (refine tk (i:=15) (v:=?_) rfl rfl (Or.inl ⟨by rfl,?_⟩) ?_;rotate_left;(focus (intro w hSw;(try dsimp only at hSw);go_simp;(try with_reducible rfl)));(simp only [put_lit,List.set]))
     refine wpAnyH_done (by kernel_rfl) ?_ _
     clear hHeld x1 x2 x3
     go_wp2_with fail
     refine bodyPost_ret (v:=.tuple #[.int .i64 (-1),.int .i64 0]) (by simp [results,Tryz.results28,go_sem]) rfl ⟨rfl,Hbw.out.trans Bel.go⟩
end Go.Proofs.YtbfddopopajgaaaGreat
namespace Go.Proofs.YtbfddopopajgaaaGreat
open Go Go.RowKit
theorem rul_eq {a b:List Int} {l:Nat} (la:a.length=l) (lb:b.length=l) (na:∀ j,j<l→nsg (a.getD j 0)=false∧nsg (b.getD j 0)=false) :
  rul a b=if lsd a b l=0 then (0,0) else if lsd a b l=l∨a.getD (lsd a b l) 0=0 then (0,1) else
   if (a.getD (lsd a b l-1) 0<b.getD (lsd a b l-1) 0)↔(a.getD (lsd a b l) 0=1) then (-1,0) else (1,0):=by
 unfold rul
 rw [la,lb,if_neg]
 rintro (e | e | e)
 ·exact e rfl
 ·rw [any_not (fun j hj=>(na j (by omega)).1)] at e;cases e
 ·rw [any_not (fun j hj=>(na j (by omega)).2)] at e;cases e
theorem rul_bad {a b:List Int} (h:a.length≠b.length∨a.any nsg=true∨b.any nsg=true):rul a b=(0,1):=by
 unfold rul
 rw [if_pos h]
set_option maxRecDepth 100000 in
set_option maxHeartbeats 8000000 in
theorem rref_any {w:World} {A B:Option Addr} {l c m d:Nat} {a b:List Int} (ha:I64At w A l c a) (hb:I64At w B m d b) (hl:l≤1000000) (hm:m≤1000000) :
  Calls Tryz.prog 29 #[.slice A l c,.slice B m d] w fun e w'=>e=.returned (.tuple #[.int .i64 (rul a b).1,.bool (decide ((rul a b).2=0))])∧Below w.heap.size w w':=by
 have HA:=Lib.hid ha
 have HB:=Lib.hid hb
 have la:=ha.length
 have lb:=hb.length
 clear ha hb
 obtain ⟨R,hRe⟩:∃ R,R=rul a b:=⟨_,rfl⟩
 rw [← hRe]
 have HRe:=Lib.hid hRe
 clear hRe
 go_enter Tryz.func29,Tryz.ntmps29
 by_cases e0:l=m
 case neg =>
  have FX:=Lib.hid (HRe.out.trans <| rul_bad (a:=a) (b:=b) (.inl (by rw [la,lb];exact e0)))
  have e1:((l:Int) == (m:Int))=false:=by rw [beq_eq_false_iff_ne];omega
  have e2:((l:Int) != (m:Int))=true:=by rw [bne,e1];rfl
  go_wp2_with fail
  go_wp2
  refine bodyPost_ret (v:=.tuple #[.int .i64 0,.bool false]) (by simp [results,Tryz.results29,go_sem]) rfl ⟨by rw [FX.out];rfl,Bel.go⟩
 case pos =>
 subst e0
 go_wp2_with fail
 go_loopw [6,7] (fun s6 s7 wr=>∃ k:Nat,k≤l∧s7=.int .i64 (k:Int)∧s6=.int .i64 ((lsd a b k:Int)-1)∧Below w.heap.size w wr∧∀ j,j<k→nsg (a.getD j 0)=false∧nsg (b.getD j 0)=false) (fun _ s7 _=>l-(intOf s7).toNat)
 case atStart=>exact ⟨0,Nat.zero_le _,rfl,rfl,Bel.go,fun j hj=>by omega⟩
 case round =>
  obtain ⟨k,hk,rfl,rfl,hbw,hs⟩:=hrel
  have HS:=Lib.hid hs
  have Hbw:=Lib.hid hbw
  have HAr:=Lib.hid (HA.out.below hbw)
  have HBr:=Lib.hid (HB.out.below hbw)
  clear hs hbw
  by_cases hlt:k<l
  ·have ka:(k:Int)<(l:Int):=by omega
   have i1:IntKind.i64.wrap ((k:Int)+1)=(k:Int)+1:=IntWalk.i64_in _ (by omega)
   obtain ⟨b1,o1,rfl,_,x1⟩:=HAr.out.get hlt
   obtain ⟨b2,o2,rfl,_,x2⟩:=HBr.out.get hlt
   obtain ⟨u,hu⟩:∃ u,u=a.getD k 0:=⟨_,rfl⟩
   obtain ⟨v,hv⟩:∃ v,v=b.getD k 0:=⟨_,rfl⟩
   rw [← hu] at x1
   rw [← hv] at x2
   have HU:=Lib.hid (And.intro hu hv)
   have Hlt:=Lib.hid hlt
   clear hu hv hlt
   by_cases u1:u < -1
   ·have FX:=Lib.hid (HRe.out.trans <| rul_bad (a:=a) (b:=b) (by refine .inr (.inl ?_);refine any_of (k:=k) (by have:=Hlt.out;omega) ?_;rw [← HU.out.1];unfold nsg;rw [decide_eq_true u1];rfl))
    go_wp2_with fail
    refine bodyPost_ret (v:=.tuple #[.int .i64 0,.bool false]) (by simp [results,Tryz.results29,go_sem]) rfl ⟨by rw [FX.out];rfl,Hbw.out.trans Bel.go⟩
   by_cases u2:1<u
   ·have FX:=Lib.hid (HRe.out.trans <| rul_bad (a:=a) (b:=b) (by refine .inr (.inl ?_);refine any_of (k:=k) (by have:=Hlt.out;omega) ?_;rw [← HU.out.1];unfold nsg;rw [decide_eq_true u2,Bool.or_true]))
    go_wp2_with fail
    refine bodyPost_ret (v:=.tuple #[.int .i64 0,.bool false]) (by simp [results,Tryz.results29,go_sem]) rfl ⟨by rw [FX.out];rfl,Hbw.out.trans Bel.go⟩
   by_cases v1:v < -1
   ·have FX:=Lib.hid (HRe.out.trans <| rul_bad (a:=a) (b:=b) (by refine .inr (.inr ?_);refine any_of (k:=k) (by have:=Hlt.out;omega) ?_;rw [← HU.out.2];unfold nsg;rw [decide_eq_true v1];rfl))
    go_wp2_with fail
    refine bodyPost_ret (v:=.tuple #[.int .i64 0,.bool false]) (by simp [results,Tryz.results29,go_sem]) rfl ⟨by rw [FX.out];rfl,Hbw.out.trans Bel.go⟩
   by_cases v2:1<v
   ·have FX:=Lib.hid (HRe.out.trans <| rul_bad (a:=a) (b:=b) (by refine .inr (.inr ?_);refine any_of (k:=k) (by have:=Hlt.out;omega) ?_;rw [← HU.out.2];unfold nsg;rw [decide_eq_true v2,Bool.or_true]))
    go_wp2_with fail
    refine bodyPost_ret (v:=.tuple #[.int .i64 0,.bool false]) (by simp [results,Tryz.results29,go_sem]) rfl ⟨by rw [FX.out];rfl,Hbw.out.trans Bel.go⟩
   have HN:=Lib.hid (show ∀ j,j<k+1→nsg (a.getD j 0)=false∧nsg (b.getD j 0)=false from fun j hj=>by
    by_cases h:j=k
    ·rw [h,← HU.out.1,← HU.out.2]
     unfold nsg
     rw [decide_eq_false u1,decide_eq_false u2,decide_eq_false v1,decide_eq_false v2]
     exact ⟨rfl,rfl⟩
    ·exact HS.out j (by omega))
   by_cases c0:u=v
   ·subst c0
    have HE:=Lib.hid (show lsd a b (k+1)=lsd a b k by rw [lsd_suc,if_pos (by rw [← HU.out.1,← HU.out.2])])
    go_wp2_with fail
    go_region
    go_wp2_with fail
    go_roundw
    case rel=>exact ⟨k+1,Hlt.out,by go_num,by rw [HE.out],Hbw.out.trans Bel.go,HN.out⟩
    case measure=>have:=Hlt.out;simp [intOf];omega
   ·have e2:(u == v)=false:=by simpa using c0
    have HE:=Lib.hid (show lsd a b (k+1)=k+1 by rw [lsd_suc,if_neg (by rw [← HU.out.1,← HU.out.2];exact c0)])
    go_wp2_with fail
    go_region
    go_wp2_with fail
    go_roundw
    case rel=>exact ⟨k+1,Hlt.out,by go_num,by rw [HE.out];congr 1;omega,Hbw.out.trans Bel.go,HN.out⟩
    case measure=>have:=Hlt.out;simp [intOf];omega
  ·have hk2:k=l:=by omega
   subst hk2
   have t1:¬ (k:Int)<(k:Int):=by omega
   have hR:=rul_eq la lb HS.out
   rw [← HRe.out] at hR
   have hle:=lsd_le a b k
   by_cases h0:lsd a b k=0
   ·rw [if_pos h0] at hR
    rw [h0]
    subst hR
    clear hle h0 hlt
    go_wp2_with fail
    refine bodyPost_ret (v:=.tuple #[.int .i64 0,.bool true]) (by simp [results,Tryz.results29,go_sem]) rfl ⟨rfl,Hbw.out.trans Bel.go⟩
   obtain ⟨j,hj⟩:∃ j,lsd a b k=j+1:=⟨lsd a b k-1,by omega⟩
   have ej:((j+1:Nat):Int)-1=(j:Int):=by omega
   rw [if_neg h0,hj,show j+1-1=j by omega] at hR
   rw [hj,ej]
   have jl:j<k:=by omega
   have ka:¬ (j:Int)<0:=by omega
   have ka':(0:Int)≤(j:Int):=by omega
   have kb:(j:Int)<(k:Int):=by omega
   have i0:IntKind.i64.wrap ((k:Int)-1)=(k:Int)-1:=IntWalk.i64_in _ (by omega)
   clear h0 hle ej hlt
   by_cases c1:j+1=k
   ·have g2:((j:Int) == (k:Int)-1)=true:=by rw [beq_iff_eq];omega
    rw [if_pos (.inl c1)] at hR
    subst hR
    clear hj c1
    go_wp2_with fail
    refine bodyPost_ret (v:=.tuple #[.int .i64 0,.bool false]) (by simp [results,Tryz.results29,go_sem]) rfl ⟨rfl,Hbw.out.trans Bel.go⟩
   have g1:¬ (j:Int)=(k:Int)-1:=by omega
   have g2:((j:Int) == (k:Int)-1)=false:=by rw [beq_eq_false_iff_ne];omega
   have g3:(j:Int)+1<(k:Int):=by omega
   have g4:(0:Int)≤(j:Int)+1:=by omega
   have i3:IntKind.i64.wrap ((j:Int)+1)=((j+1:Nat):Int):=IntWalk.i64_in _ (by omega)
   have i4:((j+1:Nat):Int)<(k:Int):=by omega
   obtain ⟨b1,o1,rfl,_,x1⟩:=HAr.out.get jl
   obtain ⟨b2,o2,rfl,_,x2⟩:=HBr.out.get jl
   obtain ⟨b3,o3,e3,_,x3⟩:=HAr.out.get (k:=j+1) (by omega)
   injection e3 with e3
   injection e3 with e3 e4
   subst e3 e4
   obtain ⟨t,ht⟩:∃ t,t=a.getD (j+1) 0:=⟨_,rfl⟩
   obtain ⟨u,hu⟩:∃ u,u=a.getD j 0:=⟨_,rfl⟩
   obtain ⟨v,hv⟩:∃ v,v=b.getD j 0:=⟨_,rfl⟩
   have hn:=nsg_false (HS.out (j+1) (by omega)).1
   rw [← ht] at x3 hR hn
   rw [← hu] at x1 hR
   rw [← hv] at x2 hR
   clear ht hu hv hj
   by_cases c2:t=0
   ·rw [if_pos (.inr c2)] at hR
    subst hR c2
    clear hn
    go_wp2_with fail
    refine bodyPost_ret (v:=.tuple #[.int .i64 0,.bool false]) (by simp [results,Tryz.results29,go_sem]) rfl ⟨rfl,Hbw.out.trans Bel.go⟩
   rw [if_neg (by rintro (e | e);exact c1 e;exact c2 e)] at hR
   have c3:(t == 0)=false:=by simpa using c2
   by_cases u1:t=1<;>by_cases v1:u<v
   ·rw [if_pos ⟨fun _=>u1,fun _=>v1⟩] at hR
    subst hR
    have d1:decide (0<t)=true:=decide_eq_true (by omega)
    have d2:decide (u<v)=true:=decide_eq_true v1
    clear hn
    subst u1
    go_wp2_with fail
    refine wp_region_held_drew (S:=fun w'=>w'.cell? ⟨b1,o1+j,none⟩=some (.int .i64 u)∧w'.cell? ⟨b2,o2+j,none⟩=some (.int .i64 v)∧w'.cell? ⟨b1,o1+(j+1),none⟩=some (.int .i64 1)) (by kernel_rfl) (by (try dsimp only);go_keep) (fun hHeld=>?_)
    (refine tk (i:=0) (v:=?_) rfl rfl (Or.inl ⟨by rfl,?_⟩) ?_;rotate_left;(focus (intro w hSw;(try dsimp only at hSw);go_simp;(try with_reducible rfl)));(simp only [put_lit,List.set]))
    (refine tk (i:=1) (v:=?_) rfl rfl (Or.inl ⟨by rfl,?_⟩) ?_;rotate_left;(focus (intro w hSw;(try dsimp only at hSw);go_simp;(try with_reducible rfl)));(simp only [put_lit,List.set]))
    (refine tk (i:=2) (v:=?_) rfl rfl (Or.inl ⟨by rfl,?_⟩) ?_;rotate_left;(focus (intro w hSw;(try dsimp only at hSw);go_simp;(try with_reducible rfl)));(simp only [put_lit,List.set]))
    (refine tk (i:=3) (v:=?_) rfl rfl (Or.inl ⟨by rfl,?_⟩) ?_;rotate_left;(focus (intro w hSw;(try dsimp only at hSw);go_simp;(try with_reducible rfl)));(simp only [put_lit,List.set]))
    (refine tk (i:=4) (v:=?_) rfl rfl (Or.inl ⟨by rfl,?_⟩) ?_;rotate_left;(focus (intro w hSw;(try dsimp only at hSw);go_simp;(try with_reducible rfl)));(simp only [put_lit,List.set]))
    (refine tk (i:=5) (v:=?_) rfl rfl (Or.inl ⟨by rfl,?_⟩) ?_;rotate_left;(focus (intro w hSw;(try dsimp only at hSw);go_simp;(try with_reducible rfl)));(simp only [put_lit,List.set]))
    (refine tk (i:=6) (v:=?_) rfl rfl (Or.inl ⟨by rfl,?_⟩) ?_;rotate_left;(focus (intro w hSw;(try dsimp only at hSw);go_simp;(try with_reducible rfl)));(simp only [put_lit,List.set]))
    (refine tk (i:=7) (v:=?_) rfl rfl (Or.inl ⟨by rfl,?_⟩) ?_;rotate_left;(focus (intro w hSw;(try dsimp only at hSw);go_simp;(try with_reducible rfl)));(simp only [put_lit,List.set]))
    (refine tk (i:=8) (v:=?_) rfl rfl (Or.inl ⟨by rfl,?_⟩) ?_;rotate_left;(focus (intro w hSw;(try dsimp only at hSw);go_simp;(try with_reducible rfl)));(simp only [put_lit,List.set]))
    (refine tk (i:=9) (v:=?_) rfl rfl (Or.inl ⟨by rfl,?_⟩) ?_;rotate_left;(focus (intro w hSw;(try dsimp only at hSw);go_simp;(try with_reducible rfl)));(simp only [put_lit,List.set]))
    (refine tk (i:=10) (v:=?_) rfl rfl (Or.inl ⟨by rfl,?_⟩) ?_;rotate_left;(focus (intro w hSw;(try dsimp only at hSw);go_simp;(try with_reducible rfl)));(simp only [put_lit,List.set]))
    (refine tk (i:=11) (v:=?_) rfl rfl (Or.inl ⟨by rfl,?_⟩) ?_;rotate_left;(focus (intro w hSw;(try dsimp only at hSw);go_simp;(try with_reducible rfl)));(simp only [put_lit,List.set]))
    (refine tk (i:=12) (v:=?_) rfl rfl (Or.inl ⟨by rfl,?_⟩) ?_;rotate_left;(focus (intro w hSw;(try dsimp only at hSw);go_simp;(try with_reducible rfl)));(simp only [put_lit,List.set]))
    (refine tk (i:=13) (v:=?_) rfl rfl (Or.inl ⟨by rfl,?_⟩) ?_;rotate_left;(focus (intro w hSw;(try dsimp only at hSw);go_simp;(try with_reducible rfl)));(simp only [put_lit,List.set]))
    (refine tk (i:=14) (v:=?_) rfl rfl (Or.inl ⟨by rfl,?_⟩) ?_;rotate_left;(focus (intro w hSw;(try dsimp only at hSw);go_simp;(try with_reducible rfl)));(simp only [put_lit,List.set]))
    (refine tk (i:=15) (v:=?_) rfl rfl (Or.inl ⟨by rfl,?_⟩) ?_;rotate_left;(focus (intro w hSw;(try dsimp only at hSw);go_simp;(try with_reducible rfl)));(simp only [put_lit,List.set]))
    refine wpAnyH_done (by kernel_rfl) ?_ _
    clear hHeld x1 x2 x3
    go_wp2_with fail
    refine bodyPost_ret (v:=.tuple #[.int .i64 (-1),.bool true]) (by simp [results,Tryz.results29,go_sem]) rfl ⟨rfl,Hbw.out.trans Bel.go⟩
   ·rw [if_neg (fun h=>v1 (h.2 u1))] at hR
    subst hR
    have d1:decide (0<t)=true:=decide_eq_true (by omega)
    have d2:decide (u<v)=false:=decide_eq_false v1
    clear hn
    subst u1
    go_wp2_with fail
    refine wp_region_held_drew (S:=fun w'=>w'.cell? ⟨b1,o1+j,none⟩=some (.int .i64 u)∧w'.cell? ⟨b2,o2+j,none⟩=some (.int .i64 v)∧w'.cell? ⟨b1,o1+(j+1),none⟩=some (.int .i64 1)) (by kernel_rfl) (by (try dsimp only);go_keep) (fun hHeld=>?_)
    (refine tk (i:=0) (v:=?_) rfl rfl (Or.inl ⟨by rfl,?_⟩) ?_;rotate_left;(focus (intro w hSw;(try dsimp only at hSw);go_simp;(try with_reducible rfl)));(simp only [put_lit,List.set]))
    (refine tk (i:=1) (v:=?_) rfl rfl (Or.inl ⟨by rfl,?_⟩) ?_;rotate_left;(focus (intro w hSw;(try dsimp only at hSw);go_simp;(try with_reducible rfl)));(simp only [put_lit,List.set]))
    (refine tk (i:=2) (v:=?_) rfl rfl (Or.inl ⟨by rfl,?_⟩) ?_;rotate_left;(focus (intro w hSw;(try dsimp only at hSw);go_simp;(try with_reducible rfl)));(simp only [put_lit,List.set]))
    (refine tk (i:=3) (v:=?_) rfl rfl (Or.inl ⟨by rfl,?_⟩) ?_;rotate_left;(focus (intro w hSw;(try dsimp only at hSw);go_simp;(try with_reducible rfl)));(simp only [put_lit,List.set]))
    (refine tk (i:=4) (v:=?_) rfl rfl (Or.inl ⟨by rfl,?_⟩) ?_;rotate_left;(focus (intro w hSw;(try dsimp only at hSw);go_simp;(try with_reducible rfl)));(simp only [put_lit,List.set]))
    (refine tk (i:=5) (v:=?_) rfl rfl (Or.inl ⟨by rfl,?_⟩) ?_;rotate_left;(focus (intro w hSw;(try dsimp only at hSw);go_simp;(try with_reducible rfl)));(simp only [put_lit,List.set]))
    (refine tk (i:=6) (v:=?_) rfl rfl (Or.inl ⟨by rfl,?_⟩) ?_;rotate_left;(focus (intro w hSw;(try dsimp only at hSw);go_simp;(try with_reducible rfl)));(simp only [put_lit,List.set]))
    (refine tk (i:=7) (v:=?_) rfl rfl (Or.inl ⟨by rfl,?_⟩) ?_;rotate_left;(focus (intro w hSw;(try dsimp only at hSw);go_simp;(try with_reducible rfl)));(simp only [put_lit,List.set]))
    (refine tk (i:=8) (v:=?_) rfl rfl (Or.inl ⟨by rfl,?_⟩) ?_;rotate_left;(focus (intro w hSw;(try dsimp only at hSw);go_simp;(try with_reducible rfl)));(simp only [put_lit,List.set]))
    (refine tk (i:=9) (v:=?_) rfl rfl (Or.inl ⟨by rfl,?_⟩) ?_;rotate_left;(focus (intro w hSw;(try dsimp only at hSw);go_simp;(try with_reducible rfl)));(simp only [put_lit,List.set]))
    (refine tk (i:=10) (v:=?_) rfl rfl (Or.inl ⟨by rfl,?_⟩) ?_;rotate_left;(focus (intro w hSw;(try dsimp only at hSw);go_simp;(try with_reducible rfl)));(simp only [put_lit,List.set]))
    (refine tk (i:=11) (v:=?_) rfl rfl (Or.inl ⟨by rfl,?_⟩) ?_;rotate_left;(focus (intro w hSw;(try dsimp only at hSw);go_simp;(try with_reducible rfl)));(simp only [put_lit,List.set]))
    (refine tk (i:=12) (v:=?_) rfl rfl (Or.inl ⟨by rfl,?_⟩) ?_;rotate_left;(focus (intro w hSw;(try dsimp only at hSw);go_simp;(try with_reducible rfl)));(simp only [put_lit,List.set]))
    (refine tk (i:=13) (v:=?_) rfl rfl (Or.inl ⟨by rfl,?_⟩) ?_;rotate_left;(focus (intro w hSw;(try dsimp only at hSw);go_simp;(try with_reducible rfl)));(simp only [put_lit,List.set]))
    (refine tk (i:=14) (v:=?_) rfl rfl (Or.inl ⟨by rfl,?_⟩) ?_;rotate_left;(focus (intro w hSw;(try dsimp only at hSw);go_simp;(try with_reducible rfl)));(simp only [put_lit,List.set]))
    (refine tk (i:=15) (v:=?_) rfl rfl (Or.inl ⟨by rfl,?_⟩) ?_;rotate_left;(focus (intro w hSw;(try dsimp only at hSw);go_simp;(try with_reducible rfl)));(simp only [put_lit,List.set]))
    refine wpAnyH_done (by kernel_rfl) ?_ _
    clear hHeld x1 x2 x3
    go_wp2_with fail
    refine bodyPost_ret (v:=.tuple #[.int .i64 (1),.bool true]) (by simp [results,Tryz.results29,go_sem]) rfl ⟨rfl,Hbw.out.trans Bel.go⟩
   ·rw [if_neg (fun h=>u1 (h.1 v1))] at hR
    subst hR
    have d1:decide (0<t)=false:=decide_eq_false (by omega)
    have d2:decide (u<v)=true:=decide_eq_true v1
    clear hn
    go_wp2_with fail
    refine wp_region_held_drew (S:=fun w'=>w'.cell? ⟨b1,o1+j,none⟩=some (.int .i64 u)∧w'.cell? ⟨b2,o2+j,none⟩=some (.int .i64 v)∧w'.cell? ⟨b1,o1+(j+1),none⟩=some (.int .i64 t)) (by kernel_rfl) (by (try dsimp only);go_keep) (fun hHeld=>?_)
    (refine tk (i:=0) (v:=?_) rfl rfl (Or.inl ⟨by rfl,?_⟩) ?_;rotate_left;(focus (intro w hSw;(try dsimp only at hSw);go_simp;(try with_reducible rfl)));(simp only [put_lit,List.set]))
    (refine tk (i:=1) (v:=?_) rfl rfl (Or.inl ⟨by rfl,?_⟩) ?_;rotate_left;(focus (intro w hSw;(try dsimp only at hSw);go_simp;(try with_reducible rfl)));(simp only [put_lit,List.set]))
    (refine tk (i:=2) (v:=?_) rfl rfl (Or.inl ⟨by rfl,?_⟩) ?_;rotate_left;(focus (intro w hSw;(try dsimp only at hSw);go_simp;(try with_reducible rfl)));(simp only [put_lit,List.set]))
    (refine tk (i:=3) (v:=?_) rfl rfl (Or.inl ⟨by rfl,?_⟩) ?_;rotate_left;(focus (intro w hSw;(try dsimp only at hSw);go_simp;(try with_reducible rfl)));(simp only [put_lit,List.set]))
    (refine tk (i:=4) (v:=?_) rfl rfl (Or.inl ⟨by rfl,?_⟩) ?_;rotate_left;(focus (intro w hSw;(try dsimp only at hSw);go_simp;(try with_reducible rfl)));(simp only [put_lit,List.set]))
    (refine tk (i:=5) (v:=?_) rfl rfl (Or.inl ⟨by rfl,?_⟩) ?_;rotate_left;(focus (intro w hSw;(try dsimp only at hSw);go_simp;(try with_reducible rfl)));(simp only [put_lit,List.set]))
    (refine tk (i:=6) (v:=?_) rfl rfl (Or.inl ⟨by rfl,?_⟩) ?_;rotate_left;(focus (intro w hSw;(try dsimp only at hSw);go_simp;(try with_reducible rfl)));(simp only [put_lit,List.set]))
    (refine tk (i:=7) (v:=?_) rfl rfl (Or.inl ⟨by rfl,?_⟩) ?_;rotate_left;(focus (intro w hSw;(try dsimp only at hSw);go_simp;(try with_reducible rfl)));(simp only [put_lit,List.set]))
    (refine tk (i:=8) (v:=?_) rfl rfl (Or.inl ⟨by rfl,?_⟩) ?_;rotate_left;(focus (intro w hSw;(try dsimp only at hSw);go_simp;(try with_reducible rfl)));(simp only [put_lit,List.set]))
    (refine tk (i:=9) (v:=?_) rfl rfl (Or.inl ⟨by rfl,?_⟩) ?_;rotate_left;(focus (intro w hSw;(try dsimp only at hSw);go_simp;(try with_reducible rfl)));(simp only [put_lit,List.set]))
    (refine tk (i:=10) (v:=?_) rfl rfl (Or.inl ⟨by rfl,?_⟩) ?_;rotate_left;(focus (intro w hSw;(try dsimp only at hSw);go_simp;(try with_reducible rfl)));(simp only [put_lit,List.set]))
    (refine tk (i:=11) (v:=?_) rfl rfl (Or.inl ⟨by rfl,?_⟩) ?_;rotate_left;(focus (intro w hSw;(try dsimp only at hSw);go_simp;(try with_reducible rfl)));(simp only [put_lit,List.set]))
    (refine tk (i:=12) (v:=?_) rfl rfl (Or.inl ⟨by rfl,?_⟩) ?_;rotate_left;(focus (intro w hSw;(try dsimp only at hSw);go_simp;(try with_reducible rfl)));(simp only [put_lit,List.set]))
    (refine tk (i:=13) (v:=?_) rfl rfl (Or.inl ⟨by rfl,?_⟩) ?_;rotate_left;(focus (intro w hSw;(try dsimp only at hSw);go_simp;(try with_reducible rfl)));(simp only [put_lit,List.set]))
    (refine tk (i:=14) (v:=?_) rfl rfl (Or.inl ⟨by rfl,?_⟩) ?_;rotate_left;(focus (intro w hSw;(try dsimp only at hSw);go_simp;(try with_reducible rfl)));(simp only [put_lit,List.set]))
    (refine tk (i:=15) (v:=?_) rfl rfl (Or.inl ⟨by rfl,?_⟩) ?_;rotate_left;(focus (intro w hSw;(try dsimp only at hSw);go_simp;(try with_reducible rfl)));(simp only [put_lit,List.set]))
    refine wpAnyH_done (by kernel_rfl) ?_ _
    clear hHeld x1 x2 x3
    go_wp2_with fail
    refine bodyPost_ret (v:=.tuple #[.int .i64 (1),.bool true]) (by simp [results,Tryz.results29,go_sem]) rfl ⟨rfl,Hbw.out.trans Bel.go⟩
   ·rw [if_pos ⟨fun h=>absurd h v1,fun h=>absurd h u1⟩] at hR
    subst hR
    have d1:decide (0<t)=false:=decide_eq_false (by omega)
    have d2:decide (u<v)=false:=decide_eq_false v1
    clear hn
    go_wp2_with fail
    refine wp_region_held_drew (S:=fun w'=>w'.cell? ⟨b1,o1+j,none⟩=some (.int .i64 u)∧w'.cell? ⟨b2,o2+j,none⟩=some (.int .i64 v)∧w'.cell? ⟨b1,o1+(j+1),none⟩=some (.int .i64 t)) (by kernel_rfl) (by (try dsimp only);go_keep) (fun hHeld=>?_)
    (refine tk (i:=0) (v:=?_) rfl rfl (Or.inl ⟨by rfl,?_⟩) ?_;rotate_left;(focus (intro w hSw;(try dsimp only at hSw);go_simp;(try with_reducible rfl)));(simp only [put_lit,List.set]))
    (refine tk (i:=1) (v:=?_) rfl rfl (Or.inl ⟨by rfl,?_⟩) ?_;rotate_left;(focus (intro w hSw;(try dsimp only at hSw);go_simp;(try with_reducible rfl)));(simp only [put_lit,List.set]))
    (refine tk (i:=2) (v:=?_) rfl rfl (Or.inl ⟨by rfl,?_⟩) ?_;rotate_left;(focus (intro w hSw;(try dsimp only at hSw);go_simp;(try with_reducible rfl)));(simp only [put_lit,List.set]))
    (refine tk (i:=3) (v:=?_) rfl rfl (Or.inl ⟨by rfl,?_⟩) ?_;rotate_left;(focus (intro w hSw;(try dsimp only at hSw);go_simp;(try with_reducible rfl)));(simp only [put_lit,List.set]))
    (refine tk (i:=4) (v:=?_) rfl rfl (Or.inl ⟨by rfl,?_⟩) ?_;rotate_left;(focus (intro w hSw;(try dsimp only at hSw);go_simp;(try with_reducible rfl)));(simp only [put_lit,List.set]))
    (refine tk (i:=5) (v:=?_) rfl rfl (Or.inl ⟨by rfl,?_⟩) ?_;rotate_left;(focus (intro w hSw;(try dsimp only at hSw);go_simp;(try with_reducible rfl)));(simp only [put_lit,List.set]))
    (refine tk (i:=6) (v:=?_) rfl rfl (Or.inl ⟨by rfl,?_⟩) ?_;rotate_left;(focus (intro w hSw;(try dsimp only at hSw);go_simp;(try with_reducible rfl)));(simp only [put_lit,List.set]))
    (refine tk (i:=7) (v:=?_) rfl rfl (Or.inl ⟨by rfl,?_⟩) ?_;rotate_left;(focus (intro w hSw;(try dsimp only at hSw);go_simp;(try with_reducible rfl)));(simp only [put_lit,List.set]))
    (refine tk (i:=8) (v:=?_) rfl rfl (Or.inl ⟨by rfl,?_⟩) ?_;rotate_left;(focus (intro w hSw;(try dsimp only at hSw);go_simp;(try with_reducible rfl)));(simp only [put_lit,List.set]))
    (refine tk (i:=9) (v:=?_) rfl rfl (Or.inl ⟨by rfl,?_⟩) ?_;rotate_left;(focus (intro w hSw;(try dsimp only at hSw);go_simp;(try with_reducible rfl)));(simp only [put_lit,List.set]))
    (refine tk (i:=10) (v:=?_) rfl rfl (Or.inl ⟨by rfl,?_⟩) ?_;rotate_left;(focus (intro w hSw;(try dsimp only at hSw);go_simp;(try with_reducible rfl)));(simp only [put_lit,List.set]))
    (refine tk (i:=11) (v:=?_) rfl rfl (Or.inl ⟨by rfl,?_⟩) ?_;rotate_left;(focus (intro w hSw;(try dsimp only at hSw);go_simp;(try with_reducible rfl)));(simp only [put_lit,List.set]))
    (refine tk (i:=12) (v:=?_) rfl rfl (Or.inl ⟨by rfl,?_⟩) ?_;rotate_left;(focus (intro w hSw;(try dsimp only at hSw);go_simp;(try with_reducible rfl)));(simp only [put_lit,List.set]))
    (refine tk (i:=13) (v:=?_) rfl rfl (Or.inl ⟨by rfl,?_⟩) ?_;rotate_left;(focus (intro w hSw;(try dsimp only at hSw);go_simp;(try with_reducible rfl)));(simp only [put_lit,List.set]))
    (refine tk (i:=14) (v:=?_) rfl rfl (Or.inl ⟨by rfl,?_⟩) ?_;rotate_left;(focus (intro w hSw;(try dsimp only at hSw);go_simp;(try with_reducible rfl)));(simp only [put_lit,List.set]))
    (refine tk (i:=15) (v:=?_) rfl rfl (Or.inl ⟨by rfl,?_⟩) ?_;rotate_left;(focus (intro w hSw;(try dsimp only at hSw);go_simp;(try with_reducible rfl)));(simp only [put_lit,List.set]))
    refine wpAnyH_done (by kernel_rfl) ?_ _
    clear hHeld x1 x2 x3
    go_wp2_with fail
    refine bodyPost_ret (v:=.tuple #[.int .i64 (-1),.bool true]) (by simp [results,Tryz.results29,go_sem]) rfl ⟨rfl,Hbw.out.trans Bel.go⟩
set_option maxRecDepth 100000 in
set_option maxHeartbeats 8000000 in
theorem law_rules (A:Option Addr) (la ca:Nat) (p:List Int) (B:Option Addr) (lb cb:Nat) (q:List Int) (w:World) (h:I8At w A la ca p) (h':I8At w B lb cb q) :
  Calls Tryz.prog 5 #[.slice A la ca,.slice B lb cb] w fun e w'=>e=.returned (.bool true)∧Below w.heap.size w w':=by
 have HI:=Lib.hid (And.intro h h')
 clear h h'
 obtain ⟨x,hx⟩:∃ x,x=p.take 8:=⟨_,rfl⟩
 obtain ⟨y,hy⟩:∃ y,y=q.take 8:=⟨_,rfl⟩
 have hxl:x.length≤8:=by rw [hx,List.length_take];omega
 have hyl:y.length≤8:=by rw [hy,List.length_take];omega
 have HXY:=Lib.hid (And.intro hx.symm hy.symm)
 clear hx hy
 go_enter Tryz.func5,Tryz.ntmps5
 go_wp2_with fail
 refine (awake19_any _).mono ?_
 rintro e w1 ⟨rfl,hb1⟩
 replace HI:=Lib.hid (And.intro (HI.out.1.below hb1) (HI.out.2.below hb1))
 have Hb:=Lib.hid hb1
 clear hb1
 go_wp2_with fail
 refine (wide_any (n:=8) HI.out.1 (by omega)).mono ?_
 rintro e w2 ⟨⟨A2,l2,c2,rfl,h2⟩,hb2⟩
 rw [HXY.out.1] at h2
 have HX:=Lib.hid h2
 have hl2:l2≤8:=by have:=h2.length;omega
 replace HI:=Lib.hid (And.intro (HI.out.1.below hb2) (HI.out.2.below hb2))
 replace Hb:=Lib.hid (Hb.out.trans (hb2.mono Hb.out.size))
 clear h2 hb2
 go_wp2_with fail
 refine (wide_any (n:=8) HI.out.2 (by omega)).mono ?_
 rintro e w3 ⟨⟨A3,l3,c3,rfl,h3⟩,hb3⟩
 rw [HXY.out.2] at h3
 have HY:=Lib.hid h3
 have hl3:l3≤8:=by have:=h3.length;omega
 replace HX:=Lib.hid (HX.out.below hb3)
 replace Hb:=Lib.hid (Hb.out.trans (hb3.mono Hb.out.size))
 clear h3 hb3 HI
 go_wp2_with fail
 refine (rule_any HX.out HY.out (by omega) (by omega)).mono ?_
 rintro e w4 ⟨he,hb4⟩
 have hsw:(rul x y).2=0→rul y x=(-(rul x y).1,0):=rul_swap
 have hor:=rul_err x y
 obtain ⟨n,hn⟩:∃ n,n=(rul x y).1:=⟨_,rfl⟩
 obtain ⟨r,hr⟩:∃ r,r=(rul x y).2:=⟨_,rfl⟩
 rw [← hn,← hr] at he
 rw [← hn,← hr] at hsw
 have hor2:r=0∨r=1∧n=0:=by
  rcases hor with h | h
  ·exact .inl (by rw [hr];exact h)
  ·exact .inr ⟨by rw [hr,h],by rw [hn,h]⟩
 subst he
 have HS:=Lib.hid hsw
 have HN:=Lib.hid (And.intro hn.symm hr.symm)
 replace HX:=Lib.hid (HX.out.below hb4)
 replace HY:=Lib.hid (HY.out.below hb4)
 replace Hb:=Lib.hid (Hb.out.trans (hb4.mono Hb.out.size))
 clear hb4 hsw hor hn hr
 go_wp2_with fail
 refine (rref_any HX.out HY.out (by omega) (by omega)).mono ?_
 rintro e w5 ⟨he,hb5⟩
 rw [HN.out.1,HN.out.2] at he
 subst he
 replace HX:=Lib.hid (HX.out.below hb5)
 replace HY:=Lib.hid (HY.out.below hb5)
 replace Hb:=Lib.hid (Hb.out.trans (hb5.mono Hb.out.size))
 clear hb5
 rcases hor2 with rfl | ⟨rfl,rfl⟩
 ·have d1:decide ((0:Int)=0)=true:=rfl
  rw [d1]
  go_wp2_with fail
  refine (rule_any HY.out HX.out (by omega) (by omega)).mono ?_
  rintro e w6 ⟨he,hb6⟩
  rw [HS.out (by first | exact rfl | trivial)] at he
  have he2:e=.returned (.tuple #[.int .i64 (-n),.int .i64 0]):=he
  subst he2
  have hnb:n=-1∨n=0∨n=1:=by
   rw [← HN.out.1]
   unfold rul
   (repeat' split)<;>simp
  replace Hb:=Lib.hid (Hb.out.trans (hb6.mono Hb.out.size))
  clear hb6 he d1 HS HN HXY
  rcases hnb with rfl | rfl | rfl
  ·have i1:IntKind.i64.wrap (- (-1))=1:=by decide
   go_wp2_with fail
   go_ret
   exact ⟨by first | rfl | simp,Hb.out⟩
  ·have i1:IntKind.i64.wrap (-0)=0:=by decide
   go_wp2_with fail
   go_ret
   exact ⟨by first | rfl | simp,Hb.out⟩
  ·have i1:IntKind.i64.wrap (-1)=-1:=by decide
   go_wp2_with fail
   go_ret
   exact ⟨by first | rfl | simp,Hb.out⟩
 ·have d1:decide ((1:Int)=0)=false:=rfl
  rw [d1]
  clear d1 HS HN
  go_wp2_with fail
  go_ret
  exact ⟨by first | rfl | simp,Hb.out⟩
end Go.Proofs.YtbfddopopajgaaaGreat
namespace Go.Proofs.YtbfddopopajgaaaGreat
open Go.ChangeShapes Go.WideShapes Go.ChangeAt Go.RowKit
set_option maxRecDepth 100000 in
theorem rules_lifted (os:Os) (started:os.Started) (H:Type) (enc:TypeId×Value→H) :
  ReturnsInHanded {} Tryz.checked os 5 .any (Rows.thomRulesSpec.pre6 enc Tryz.prog Tryz.f5 Rows.thomRulesRow.domain false) (Rows.thomRulesSpec.post enc Tryz.prog Tryz.f5 false true false false):=by
 refine returnsInHanded_of_change (C:=Tryz.checked) Tryz.own started (by kernel_rfl) Tryz.func5
  (ChangeSpec.witness6 (enc:=enc) (C:=Tryz.checked) false ⟨#[],#[.slice none 0 0,.slice none 0 0],[]⟩ 8 (by kernel_rfl) (by kernel_rfl) (by kernel_rfl) (by kernel_rfl)) ?_
 intro W base args ds gs before hval0 hW hcnd _
 exact lifted_two8 _ Tryz.f5 Tryz.params5 rfl enc _ rfl (fun _ _=>rfl) (fun A la ca p B lb cb q w h h' _ _=>law_rules A la ca p B lb cb q w h h') W args ds gs before hval0 hW
theorem thomRules_holds:Rows.ThomRulesSaid :=
 OpenClaim.holds_of_wide 5 Tryz.f5 rfl rfl rfl rfl rfl rfl rfl ⟨rfl,rfl,rfl,rfl,rfl⟩ rfl rfl rfl rfl rfl (by kernel_rfl) Tryz.func5 (by kernel_rfl)
  (of_decide_eq_true (by kernel_rfl)) (by unfold Func.isWrapper;first | (rw [if_pos (by decide +kernel)];kernel_rfl) | (rw [if_neg (by decide +kernel)];exact ⟨rfl,rfl⟩))
  (fun os started H enc _=>rules_lifted os started H enc)
#print axioms thomRules_holds
end Go.Proofs.YtbfddopopajgaaaGreat
