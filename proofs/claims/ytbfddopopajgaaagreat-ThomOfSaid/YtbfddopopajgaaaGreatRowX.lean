/- The end of a row whose arguments are a slice of int16s and a pair of pairs of int8s. -/
import Derived.Test.YtbfddopopajgaaaGreatRowP
import Derived.OpenShut
namespace Go.Proofs.YtbfddopopajgaaaGreat
open Go.ChangeShapes Go.WideShapes Go.ChangeAt Go.RowKit
theorem Tryz.cellsPair22:Tryz.prog.cellsOf 86=4:=by kernel_rfl
theorem Tryz.cellsPair8:Tryz.prog.cellsOf 36=2:=by kernel_rfl
theorem Tryz.cellsOne8:Tryz.prog.cellsOf 35=1:=by kernel_rfl
set_option maxRecDepth 100000 in
theorem open_cells8 {H:Type} {enc:TypeId×Value→H} {W:World} {fuel:Nat} {c0 c1:Value} {x:DataW H×List MemPlace}
  (h:DataW.trod enc Tryz.prog W 0 (fun _=>true) true fuel 36 [c0,c1]=some x) :
  ∃ a b:Int,c0=.int .i8 a∧c1=.int .i8 b∧x.2=[]∧(-128≤a∧a≤127)∧(-128≤b∧b≤127):=by
 obtain ⟨xs,m,rfl,rfl,_,hl,hi⟩:=DataW.trod_array Tryz.underlying36 h
 rw [Tryz.cellsOne8] at hi
 obtain ⟨y0,y1,rfl⟩:∃ y0 y1,xs=[y0,y1]:=by
  match xs,hl with
  | [a,b],_=>exact ⟨a,b,rfl⟩
 have t0:DataW.trod enc Tryz.prog W 0 (fun _=>true) true m 35 [c0]=some y0:=hi 0 (by omega)
 have t1:DataW.trod enc Tryz.prog W 0 (fun _=>true) true m 35 [c1]=some y1:=hi 1 (by omega)
 obtain ⟨a,ea,rfl,wa⟩:=DataW.trod_int Tryz.underlying35 t0
 obtain ⟨b,eb,rfl,wb⟩:=DataW.trod_int Tryz.underlying35 t1
 simp at ea eb
 exact ⟨a,b,ea,eb,rfl,i8_wf wa,i8_wf wb⟩
set_option maxRecDepth 100000 in
theorem open_four8 {H:Type} {enc:TypeId×Value→H} {W:World} {v:Value} {d:DataW H} {ps:List MemPlace} (hval:Value.okWide Tryz.prog W .any 0 86 v)
  (hd:DataW.Trod enc Tryz.prog W 0 (fun _=>true) true 86 v d ps) :
  ∃ a b c e:Int,v=.agg #[.int .i8 a,.int .i8 b,.int .i8 c,.int .i8 e]∧ps=[]∧(-128≤a∧a≤127)∧(-128≤b∧b≤127)∧(-128≤c∧c≤127)∧(-128≤e∧e≤127):=by
 simp only [Value.okWide,Tryz.underlying86] at hval
 obtain ⟨cs,rfl,hsz,_⟩:=hval
 rw [Tryz.cellsPair22] at hsz
 obtain ⟨c0,c1,c2,c3,rfl⟩:∃ c0 c1 c2 c3,cs=#[c0,c1,c2,c3]:=by
  obtain ⟨l⟩:=cs
  match l,hsz with
  | [x,y,z,u],_=>exact ⟨x,y,z,u,rfl⟩
 obtain ⟨fuel,hf⟩:=hd
 obtain ⟨xs,m,rfl,hx,_,hl,hi⟩:=DataW.trod_array Tryz.underlying86 (show DataW.trod enc Tryz.prog W 0 (fun _=>true) true fuel 86 [c0,c1,c2,c3]=some (d,ps) from hf)
 rw [Tryz.cellsPair8] at hi
 obtain ⟨y0,y1,rfl⟩:∃ y0 y1,xs=[y0,y1]:=by
  match xs,hl with
  | [a,b],_=>exact ⟨a,b,rfl⟩
 obtain ⟨a,b,rfl,rfl,e0,wa,wb⟩:=open_cells8 (show DataW.trod enc Tryz.prog W 0 (fun _=>true) true m 36 [c0,c1]=some y0 from hi 0 (by omega))
 obtain ⟨c,e,rfl,rfl,e1,wc,we⟩:=open_cells8 (show DataW.trod enc Tryz.prog W 0 (fun _=>true) true m 36 [c2,c3]=some y1 from hi 1 (by omega))
 simp only [Prod.mk.injEq] at hx
 exact ⟨a,b,c,e,rfl,by rw [hx.2];simp [e0,e1],wa,wb,wc,we⟩
set_option maxRecDepth 100000 in
theorem lifted_s16four (f:Nat) (fn:Func) (hp:fn.params=#[22,86]) (hr:fn.resultTypes=#[4]) {H:Type} (enc:TypeId×Value→H) (spec:ChangeSpec) (hsv:spec.vars=[]) (hsf:∀ d d',spec.fn H [d,d']={ results:=[.lit (.bool true)],args:=[d,d'] })
  (walk:∀ A la ca p q0 q1 q2 q3 w,I16At w A la ca p→la≤9223372036854775807→(-128≤q0∧q0≤127)→(-128≤q1∧q1≤127)→(-128≤q2∧q2≤127)→(-128≤q3∧q3≤127) →
    Calls Tryz.prog f #[.slice A la ca,.agg #[.int .i8 q0,.int .i8 q1,.int .i8 q2,.int .i8 q3]] w fun e w'=>e=.returned (.bool true)∧Below w.heap.size w w')
  (W:World) (args:Array Value) (ds gs:List (DataW H)) (before:List MemPlace)
  (hval:∀ (j:Nat) t v,fn.params[j]?=some t→args[j]?=some v→Value.okWide Tryz.prog W .any 0 t v)
  (hW:DataW.Whole enc Tryz.prog fn.params.toList spec.vars false W args.toList ds gs before) :
  Calls Tryz.prog f args W fun e W'=>∃ v,e=Ending.returned v∧spec.post enc Tryz.prog fn false true false false W args v W':=by
 have hW':=hW
 obtain ⟨p,q,hA0,hV,rfl,_,_⟩:=hW
 have hA:DataW.TrodAll enc Tryz.prog W 0 (fun _=>true) true fn.params.toList args.toList ds p:=hA0
 rw [hp] at hA hval
 obtain ⟨v0,v1,d0,d1,p0,p1,rfl,rfl,rfl,h0,h1⟩:=trodAll_two hA
 rw [hsv] at hV
 obtain ⟨rfl,rfl⟩:=trodVars_none hV
 obtain ⟨a0,la,ca,rfl⟩:=okWide_slice Tryz.underlying22 (hval 0 22 v0 rfl rfl)
 obtain ⟨a,b,c,e,rfl,rfl,wa,wb,wc,we⟩:=open_four8 (hval 1 86 v1 rfl rfl) h1
 simp only [List.append_nil] at hW'
 have hlt:∀ x∈p0,x.block<W.heap.size:=fun x hx=>by simpa using hW'.lt x hx
 obtain ⟨hla,zs,hz⟩:=open_i16 h0 hlt
 refine (walk a0 la ca zs a b c e W hz hla wa wb wc we).mono fun e W' ⟨he,hb⟩=>?_
 subst he
 refine ⟨_,rfl,post_below (pa:=p0) (pv:=[]) hW' (fun _ _ _=>?_) (fun sp hs=>?_) (fun _ _=>?_) (by simp) hb ?_⟩
 ·rw [List.append_nil,hsf,hr]
  exact trodAll_mk1 (shut_bool Tryz.underlying4 _)
 ·rw [List.append_nil,hsf,hp]
  have h3:=trodAll_mk2 (Go.WideElems.Trod_stays Tryz.laidOut (by kernel_rfl) (of_decide_eq_true (by kernel_rfl)) h0 (fun x hx=>hb.same (hlt x hx)) hs) (Go.WideElems.Trod_stays Tryz.laidOut (by kernel_rfl) (of_decide_eq_true (by kernel_rfl)) h1 (fun x hx=>by cases hx) (fun x hx=>by cases hx))
  simpa using h3
 ·rw [hsv,List.append_nil,hsf]
  rfl
 ·exact ok_one hr rfl (okWide_bool_mk Tryz.underlying4 _)
end Go.Proofs.YtbfddopopajgaaaGreat
