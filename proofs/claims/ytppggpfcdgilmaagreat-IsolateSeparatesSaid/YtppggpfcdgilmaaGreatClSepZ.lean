/- For every slice of intervals the law IsolateSeparates returns true and its argument reads as before: isolate.Gaps answers numbers between intervals that separate their roots, and none otherwise. No condition. -/
import Derived.Test.YtppggpfcdgilmaaGreatRowP
import Derived.Test.YtppggpfcdgilmaaGreatStg
import Derived.OpenShut
import Derived.Deep.Slices
import Derived.Test.YtppggpfcdgilmaaGreatIvp
import Derived.Test.YtppggpfcdgilmaaGreatIsx
import Derived.Test.YtppggpfcdgilmaaGreatRed
import Derived.Test.YtppggpfcdgilmaaGreatIdP
import Derived.Test.YtppggpfcdgilmaaGreatLin
import Derived.Test.YtppggpfcdgilmaaGreatIsv
import Derived.Test.YtppggpfcdgilmaaGreatSqw
import Derived.Test.YtppggpfcdgilmaaGreatLes
namespace Go.Proofs.YtppggpfcdgilmaaGreat
open Go.ChangeShapes Go.WideShapes Go.ChangeAt Go.RowKit
theorem Tryz.cellsIvl:Tryz.prog.cellsOf 55=4:=by kernel_rfl
theorem Tryz.cellsPr8:Tryz.prog.cellsOf 24=2:=by kernel_rfl
theorem Tryz.cellsOn8:Tryz.prog.cellsOf 23=1:=by kernel_rfl
structure IvAt (w:World) (A:Option Addr) (len cap:Nat) (qs:List (Int×Int×Int×Int)):Prop where
 length:qs.length=len
 i8:∀ q∈qs,I8 q.1∧I8 q.2.1∧I8 q.2.2.1∧I8 q.2.2.2
 cells:len=0∨∃ b off,A=some ⟨b,off,none⟩∧b<w.heap.size∧∀ k,k<len→w.cell? ⟨b,off+k*4,none⟩=some (.int .i8 (qs.getD k (0,0,0,0)).1)∧w.cell? ⟨b,off+k*4+1,none⟩=some (.int .i8 (qs.getD k (0,0,0,0)).2.1)∧w.cell? ⟨b,off+k*4+2,none⟩=some (.int .i8 (qs.getD k (0,0,0,0)).2.2.1)∧w.cell? ⟨b,off+k*4+3,none⟩=some (.int .i8 (qs.getD k (0,0,0,0)).2.2.2)
set_option maxRecDepth 100000 in
theorem open_pr8 {H:Type} {enc:TypeId×Value→H} {W:World} {fuel:Nat} {c0 c1:Value} {x:DataW H×List MemPlace}
 (h:DataW.trod enc Tryz.prog W 0 (fun _=>true) true fuel 24 [c0,c1]=some x) :
 ∃ a b:Int,c0=.int .i8 a∧c1=.int .i8 b∧(-128≤a∧a≤127)∧(-128≤b∧b≤127):=by
 obtain ⟨xs,m,rfl,rfl,_,hl,hi⟩:=DataW.trod_array Tryz.underlying24 h
 rw [Tryz.cellsOn8] at hi
 obtain ⟨y0,y1,rfl⟩:∃ y0 y1,xs=[y0,y1]:=by
  match xs,hl with
  | [a,b],_=>exact ⟨a,b,rfl⟩
 have t0:DataW.trod enc Tryz.prog W 0 (fun _=>true) true m 23 [c0]=some y0:=hi 0 (by omega)
 have t1:DataW.trod enc Tryz.prog W 0 (fun _=>true) true m 23 [c1]=some y1:=hi 1 (by omega)
 obtain ⟨a,ea,rfl,wa⟩:=DataW.trod_int Tryz.underlying23 t0
 obtain ⟨b,eb,rfl,wb⟩:=DataW.trod_int Tryz.underlying23 t1
 simp at ea eb
 exact ⟨a,b,ea,eb,bounds_i8 wa,bounds_i8 wb⟩
set_option maxRecDepth 100000 in
theorem open_ivl {H:Type} {enc:TypeId×Value→H} {W:World} {fuel:Nat} {cs:List Value} {x:DataW H×List MemPlace} (hl4:cs.length=4)
 (h:DataW.trod enc Tryz.prog W 0 (fun _=>true) true fuel 55 cs=some x) :
 ∃ q:Int×Int×Int×Int,cs=[.int .i8 q.1,.int .i8 q.2.1,.int .i8 q.2.2.1,.int .i8 q.2.2.2]∧I8 q.1∧I8 q.2.1∧I8 q.2.2.1∧I8 q.2.2.2:=by
 obtain ⟨c0,c1,c2,c3,rfl⟩:∃ c0 c1 c2 c3,cs=[c0,c1,c2,c3]:=by
  match cs,hl4 with
  | [x,y,z,u],_=>exact ⟨x,y,z,u,rfl⟩
 obtain ⟨xs,m,rfl,hx,_,hl,hi⟩:=DataW.trod_array Tryz.underlying55 h
 rw [Tryz.cellsPr8] at hi
 obtain ⟨y0,y1,rfl⟩:∃ y0 y1,xs=[y0,y1]:=by
  match xs,hl with
  | [a,b],_=>exact ⟨a,b,rfl⟩
 obtain ⟨a,b,rfl,rfl,wa,wb⟩:=open_pr8 (show DataW.trod enc Tryz.prog W 0 (fun _=>true) true m 24 [c0,c1]=some y0 from hi 0 (by omega))
 obtain ⟨c,e,rfl,rfl,wc,we⟩:=open_pr8 (show DataW.trod enc Tryz.prog W 0 (fun _=>true) true m 24 [c2,c3]=some y1 from hi 1 (by omega))
 exact ⟨(a,b,c,e),rfl,wa,wb,wc,we⟩
theorem choose_list {α:Type} {p:Nat→α→Prop}:∀ (n:Nat) (_:∀ i,i<n→∃ a,p i a) (d:α),∃ l:List α,l.length=n∧∀ i,i<n→p i (l.getD i d)
 | 0,_,_=>⟨[],rfl,fun i hi=>absurd hi (Nat.not_lt_zero _)⟩
 | n+1,h,d=>by
   obtain ⟨l,h1,h2⟩:=choose_list n (fun i hi=>h i (by omega)) d
   obtain ⟨a,ha⟩:=h n (Nat.lt_succ_self n)
   refine ⟨l ++ [a],by rw [List.length_append,h1];rfl,fun i hi=>?_⟩
   rw [List.getD_eq_getElem?_getD]
   by_cases c:i<n
   ·rw [List.getElem?_append_left (by omega),← List.getD_eq_getElem?_getD]
    exact h2 i c
   ·rw [show i=n by omega,List.getElem?_append_right (by omega),h1,Nat.sub_self]
    exact ha
set_option maxRecDepth 100000 in
theorem open_ivs {H:Type} {enc:TypeId×Value→H} {W:World} {A:Option Addr} {len cap:Nat} {d:DataW H} {p:List MemPlace}
 (h:DataW.Trod enc Tryz.prog W 0 (fun _=>true) true 54 (.slice A len cap) d p) (hlt:∀ x∈p,x.block<W.heap.size) :
 len≤9223372036854775807∧∃ qs,IvAt W A len cap qs:=by
 obtain ⟨fuel,hf⟩:=h
 rcases Deep.open_slice Tryz.underlying54 hf with ⟨hcs,hx⟩ | ⟨a,len',cap',m,n,D,Pl,hcs,_,hl,hm,hmm,hx,hel⟩
 ·simp [Value.cells] at hcs
  obtain ⟨rfl,rfl,rfl⟩:=hcs
  exact ⟨by omega,[],rfl,(fun q hq=>by cases hq),.inl rfl⟩
 ·simp [Value.cells] at hcs
  obtain ⟨rfl,rfl,rfl⟩:=hcs
  simp only [if_true] at hmm
  subst hmm
  rw [Tryz.cellsIvl] at hel hx
  obtain ⟨qs,hq,hqs⟩:=choose_list (p:=fun i (q:Int×Int×Int×Int)=>(∀ j,j<4→W.cell? ((a.add (i*4)).add j)=[Value.int .i8 q.1,.int .i8 q.2.1,.int .i8 q.2.2.1,.int .i8 q.2.2.2][j]?)∧I8 q.1∧I8 q.2.1∧I8 q.2.2.1∧I8 q.2.2.2) len (fun i hi=>by
   obtain ⟨cs',h1,h2⟩:=hel i (by omega)
   obtain ⟨_,hl4,hc⟩:=World.cells?_some h1
   obtain ⟨q,rfl,hq⟩:=open_ivl hl4 h2
   exact ⟨q,hc,hq⟩) (0,0,0,0)
  refine ⟨by unfold maxLen at hm;omega,qs,hq,fun q h=>?_,?_⟩
  ·obtain ⟨i,hi,e⟩:=List.getElem_of_mem h
   have:=(hqs i (by omega)).2
   rw [List.getD_eq_getElem?_getD,List.getElem?_eq_getElem hi,e] at this
   exact this
  ·by_cases hl0:len=0
   ·exact .inl hl0
   ·obtain ⟨b,off,spot⟩:=a
    have hspot:spot=none:=by
     have:=(hqs 0 (by omega)).1 0 (by omega)
     rw [Nat.zero_mul] at this
     simp only [Addr.add,if_pos] at this
     exact World.cell?_spot this
    subst hspot
    have hc:∀ i j,i<len→j<4→W.cell? ⟨b,off+i*4+j,none⟩=[Value.int .i8 (qs.getD i (0,0,0,0)).1,.int .i8 (qs.getD i (0,0,0,0)).2.1,.int .i8 (qs.getD i (0,0,0,0)).2.2.1,.int .i8 (qs.getD i (0,0,0,0)).2.2.2][j]?:=fun i j hi hj=>by
     have:=(hqs i hi).1 j hj
     rwa [Addr.add_lit,Addr.add_lit] at this
    have hbW:b<W.heap.size:=by
     refine hlt (.cell b off) ?_
     simp only [Prod.mk.injEq] at hx
     rw [hx.2]
     exact List.mem_append.2 (.inl (MemPlace.mem_row.2 ⟨0,by omega,by simp⟩))
    exact .inr ⟨b,off,rfl,hbW,fun k hk=>⟨hc k 0 hk (by omega),hc k 1 hk (by omega),hc k 2 hk (by omega),hc k 3 hk (by omega)⟩⟩
theorem IvAt.below {w w':World} {A:Option Addr} {len cap:Nat} {qs:List (Int×Int×Int×Int)} (h:IvAt w A len cap qs) (hb:Below w.heap.size w w'):IvAt w' A len cap qs:=by
 refine ⟨h.length,h.i8,?_⟩
 rcases h.cells with h0 | ⟨b,off,e,hlt,hc⟩
 ·exact .inl h0
 ·refine .inr ⟨b,off,e,Nat.lt_of_lt_of_le hlt hb.size,fun k hk=>?_⟩
  obtain ⟨h0,h1,h2,h3⟩:=hc k hk
  exact ⟨(hb.cell hlt).trans h0,(hb.cell hlt).trans h1,(hb.cell hlt).trans h2,(hb.cell hlt).trans h3⟩
set_option maxRecDepth 100000 in
theorem lifted_ivs (f:Nat) (fn:Func) (hp:fn.params=#[54]) (hr:fn.resultTypes=#[4]) {H:Type} (enc:TypeId×Value→H) (spec:ChangeSpec) (hsv:spec.vars=[]) (hsf:∀ d,spec.fn H [d]={ results:=[.lit (.bool true)],args:=[d] })
 (walk:∀ A len cap qs w,IvAt w A len cap qs→len≤9223372036854775807→Calls Tryz.prog f #[.slice A len cap] w fun e w'=>e=.returned (.bool true)∧Below w.heap.size w w')
 (W:World) (args:Array Value) (ds gs:List (DataW H)) (before:List MemPlace)
 (hval:∀ (j:Nat) t v,fn.params[j]?=some t→args[j]?=some v→Value.okWide Tryz.prog W .any 0 t v)
 (hW:DataW.Whole enc Tryz.prog fn.params.toList spec.vars false W args.toList ds gs before) :
 Calls Tryz.prog f args W fun e W'=>∃ v,e=Ending.returned v∧spec.post enc Tryz.prog fn false true false false W args v W':=by
 have hW':=hW
 obtain ⟨p,q,hA0,hV,rfl,_,_⟩:=hW
 have hA:DataW.TrodAll enc Tryz.prog W 0 (fun _=>true) true fn.params.toList args.toList ds p:=hA0
 rw [hp] at hA hval
 obtain ⟨v0,d0,rfl,rfl,h0⟩:=trodAll_one hA
 rw [hsv] at hV
 obtain ⟨rfl,rfl⟩:=trodVars_none hV
 obtain ⟨a0,len,cap,rfl⟩:=okWide_slice Tryz.underlying54 (hval 0 54 v0 rfl rfl)
 simp only [List.append_nil] at hW'
 have hlt:∀ x∈p,x.block<W.heap.size:=fun x hx=>by simpa using hW'.lt x hx
 obtain ⟨hlm,qs,hat⟩:=open_ivs h0 hlt
 refine (walk a0 len cap qs W hat hlm).mono fun e W' ⟨he,hb⟩=>?_
 subst he
 refine ⟨_,rfl,post_below (pa:=p) (pv:=[]) hW' (fun _ _ _=>?_) (fun sp hs=>?_) (fun _ _=>?_) (by simp) hb ?_⟩
 ·rw [List.append_nil,hsf,hr]
  exact trodAll_mk1 (shut_bool Tryz.underlying4 _)
 ·rw [List.append_nil,hsf,hp]
  exact trodAll_mk1 (Go.WideElems.Trod_stays Tryz.laidOut (by kernel_rfl) (of_decide_eq_true (by kernel_rfl)) h0 (fun x hx=>hb.same (hlt x hx)) hs)
 ·rw [hsv,List.append_nil,hsf]
  rfl
 ·exact ok_one hr rfl (okWide_bool_mk Tryz.underlying4 _)
end Go.Proofs.YtppggpfcdgilmaaGreat
namespace Go.Proofs.YtppggpfcdgilmaaGreat
open Go Go.RowKit
def BoolE (P:Prop) (e:Ending):Prop:=∃ v:Bool,e=.returned (.bool v)∧(v=true↔P)
theorem BoolE.yes {P:Prop} (h:P):BoolE P (.returned (.bool true)):=⟨true,rfl,⟨fun _=>h,fun _=>rfl⟩⟩
theorem BoolE.no {P:Prop} (h:¬ P):BoolE P (.returned (.bool false)):=⟨false,rfl,⟨fun h=>(by cases h),fun h2=>absurd h2 h⟩⟩
theorem BoolE.get {P:Prop} {e:Ending} (h:BoolE P e) (p:P):e=.returned (.bool true):=by
 obtain ⟨v,rfl,hv⟩:=h
 rw [hv.2 p]
theorem BoolE.not {P:Prop} {e:Ending} (h:BoolE P e) (p:¬ P):e=.returned (.bool false):=by
 obtain ⟨v,rfl,hv⟩:=h
 cases v with
 | false=>rfl
 | true=>exact absurd (hv.1 rfl) p
theorem Vals.get {w:World} {g o:Nat} {rs:List (Fq×Fq)} (h:Vals w g o rs) {k:Nat} (hk:k<rs.length) :
 ∃ n A l c B m d n' A' l' c' B' m' d',w.cell? ⟨g,o+k*6,none⟩=some (.bool n)∧w.cell? ⟨g,o+k*6+1,none⟩=some (.slice A l c)∧w.cell? ⟨g,o+k*6+2,none⟩=some (.slice B m d)∧w.cell? ⟨g,o+k*6+3,none⟩=some (.bool n')∧w.cell? ⟨g,o+k*6+4,none⟩=some (.slice A' l' c')∧w.cell? ⟨g,o+k*6+5,none⟩=some (.slice B' m' d') ∧
   IntN w n A l c (rs.getD k r00).1.z∧NatN w B m d (rs.getD k r00).1.q∧IntN w n' A' l' c' (rs.getD k r00).2.z∧NatN w B' m' d' (rs.getD k r00).2.q:=by
 have e:rs[k]?=some (rs.getD k r00):=by rw [List.getD_eq_getElem?_getD,List.getElem?_eq_getElem hk];rfl
 obtain ⟨vs,⟨n,A,l,c,B,m,d,n',A',l',c',B',m',d',hv,h1,h2,h3,h4⟩,hc⟩:=h k _ e
 subst hv
 exact ⟨n,A,l,c,B,m,d,n',A',l',c',B',m',d',hc 0 _ rfl,hc 1 _ rfl,hc 2 _ rfl,hc 3 _ rfl,hc 4 _ rfl,hc 5 _ rfl,h1,h2,h3,h4⟩
theorem getD_fqb {rs:List (Fq×Fq)} (h:∀ r∈rs,FqB r.1∧FqB r.2) {k:Nat} (hk:k<rs.length):FqB (rs.getD k r00).1∧FqB (rs.getD k r00).2:=by
 rw [List.getD_eq_getElem?_getD,List.getElem?_eq_getElem hk]
 exact h _ (List.getElem_mem hk)
end Go.Proofs.YtppggpfcdgilmaaGreat
namespace Go.Proofs.YtppggpfcdgilmaaGreat
open Go Go.RowKit
def nxOK (p r:Fq×Fq):Prop:=fcmp p.2 r.1≤0∧(fcmp p.2 r.1=0→fcmp p.1 p.2≠0∧fcmp r.1 r.2≠0)
def spOK (rs:List (Fq×Fq)) (k:Nat):Prop:=fcmp (rs.getD k r00).1 (rs.getD k r00).2≤0∧(0<k→nxOK (rs.getD (k-1) r00) (rs.getD k r00))
def Sepa (rs:List (Fq×Fq)):Prop:=∀ k,k<rs.length→spOK rs k
set_option maxRecDepth 100000 in
set_option maxHeartbeats 8000000 in
theorem separate_any {w:World} {A:Option Addr} {la ca:Nat} {rs:List (Fq×Fq)} (hr:RtsAt w A la ca rs) (hfq:∀ r∈rs,FqB r.1∧FqB r.2) (hla:la≤1000) :
 Calls Tryz.prog 42 #[.slice A la ca] w fun e w'=>BoolE (Sepa rs) e∧Below w.heap.size w w':=by
 have Hrl:=Lib.hid hr.length
 have HRs:=Lib.hid hr
 have Hfq:=Lib.hid hfq
 clear hr hfq
 go_enter Tryz.func42,Tryz.ntmps42
 go_wp2_with fail
 go_loopw [9] (fun s9 wr=>∃ k:Nat,k≤la∧s9=.int .i64 (k:Int)∧(∀ i,i<k→spOK rs i)∧Below w.heap.size w wr) (fun s9 _=>la-(intOf s9).toNat)
 case atStart=>exact ⟨0,Nat.zero_le _,rfl,fun i hi=>absurd hi (Nat.not_lt_zero _),Bel.go⟩
 case round =>
  obtain ⟨k,hk,rfl,hst,hbw⟩:=hrel
  have Hst:=Lib.hid hst
  have HRr:=Lib.hid (HRs.out.below hbw)
  have Hbw:=Lib.hid hbw
  clear hst
  by_cases hlt:k<la
  ·have Hkl:=Lib.hid hlt
   obtain ⟨b,o,rfl,hb0,hv⟩:∃ b o,A=some ⟨b,o,none⟩∧b<wr.heap.size∧Vals wr b o rs:=by
    rcases HRr.out.elems with ⟨h0,_⟩ | h
    ·omega
    ·exact h
   obtain ⟨n,A1,l1,c1,B1,m1,d1,n',A2,l2,c2,B2,m2,d2,e0,e1,e2,e3,e4,e5,z1,z2,z3,z4⟩:=hv.get (k:=k) (by rw [Hrl.out];exact hlt)
   obtain ⟨fa,fb⟩:=getD_fqb Hfq.out (k:=k) (by rw [Hrl.out];exact hlt)
   obtain ⟨r,hr⟩:∃ r,r=rs.getD k r00:=⟨_,rfl⟩
   rw [← hr] at z1 z2 z3 z4 fa fb
   have Hr:=Lib.hid hr
   have ka:(k:Int)<(la:Int):=by omega
   have w1:IntKind.i64.wrap ((k:Int)+1)=(k:Int)+1:=IntWalk.i64_in _ (by have:=Hkl.out;omega)
   have p1:=fa.p
   have p2:=fb.p
   have T:=Lib.hid (TBox.make z1 z2 z3 z4)
   have jb:=below_new wr (tbox n A1 l1 c1 B1 m1 d1 n' A2 l2 c2 B2 m2 d2)
   have Hbx:=Lib.hid (Hbw.out.trans (jb.mono Hbw.out.size))
   have x0:=T.out.r.c0
   have x1:=T.out.r.c1
   have x2:=T.out.r.c2
   have x3:=T.out.c3
   have x4:=T.out.c4
   have x5:=T.out.c5
   clear z1 z2 z3 z4 hv hr hk hlt
   go_wp2_with fail
   refine (rcmp_any _ _ _ _ _ _ _ _ _ _ _ _ _ _ _ _ _ _ _ T.out.r.hz.at_ T.out.r.hq.at_ T.out.hz.at_ T.out.hq.at_ (by omega) (by omega) fa.fz fa.fq fb.fz fb.fq).mono ?_;rintro e w3 ⟨rfl,hb5⟩;obtain ⟨C3,hC3⟩:∃ C,C=cmpz (r.1.z*(r.2.q:Int)) (r.2.z*(r.1.q:Int)):=⟨_,rfl⟩;rw [← hC3];have HC3:=Lib.hid (show C3=fcmp r.1 r.2 from hC3);replace T:=Lib.hid (T.out.move hb5);replace Hbx:=Lib.hid (Hbx.out.trans (hb5.mono Hbx.out.size));clear hC3
   replace HRr:=Lib.hid (HRr.out.below (jb.trans (hb5.mono jb.size)))
   clear hb5 x0 x1 x2 x3 x4 x5 jb e0 e1 e2 e3 e4 e5
   by_cases g0:0<C3
   ·have b0:decide (0<C3)=true:=decide_eq_true g0
    have FIN:=Lib.hid (show ¬ Sepa rs from fun h=>(by have h1:=(h k (by rw [Hrl.out];exact Hkl.out)).1;rw [← Hr.out,← HC3.out] at h1;omega))
    clear g0
    (go_wp2_with fail;go_ret;exact ⟨.no FIN.out,Hbx.out⟩)
   have b0:decide (0<C3)=false:=decide_eq_false g0
   have G0:=Lib.hid (show fcmp r.1 r.2≤0 by rw [← HC3.out];omega)
   clear g0
   by_cases hk0:k=0
   ·subst hk0
    have b2:((0:Int) == 0)=true:=rfl
    have ST:=Lib.hid (show spOK rs 0 from ⟨by rw [← Hr.out];exact G0.out,fun h=>absurd h (Nat.lt_irrefl _)⟩)
    go_wp2_with fail
    go_roundw
    case rel=>exact ⟨1,Hkl.out,rfl,fun i hi=>(by obtain rfl:i=0:=(by omega);exact ST.out),Hbx.out⟩
    case measure=>have:=Hkl.out;simp [intOf];omega
   ·obtain ⟨j,hj⟩:∃ j,k=j+1:=⟨k-1,by omega⟩
    have b2:((k:Int) == 0)=false:=by rw [beq_eq_false_iff_ne];omega
    have e1:(k:Int)-1=(j:Int):=by omega
    have i1:IntKind.i64.wrap (j:Int)=(j:Int):=IntWalk.i64_in _ (by have:=Hkl.out;omega)
    have ja:(j:Int)<(la:Int):=by omega
    obtain ⟨hbl,hv3⟩:b<w3.heap.size∧Vals w3 b o rs:=by
     rcases HRr.out.elems with ⟨_,h0,_⟩ | ⟨b',o',h1,h2,h3⟩
     ·cases h0
     ·cases h1;exact ⟨h2,h3⟩
    have hjl:j<rs.length:=by rw [Hrl.out];have:=Hkl.out;omega
    obtain ⟨n3,A3,l3,c3,B3,m3,d3,n4,A4,l4,c4,B4,m4,d4,e0,e1',e2,e3,e4,e5,z1,z2,z3,z4⟩:=hv3.get hjl
    obtain ⟨fp1,fp2⟩:=getD_fqb Hfq.out hjl
    obtain ⟨p,hp⟩:∃ p,p=rs.getD j r00:=⟨_,rfl⟩
    rw [← hp] at z1 z2 z3 z4 fp1 fp2
    have ST:=Lib.hid (show nxOK p r→spOK rs k from fun h=>⟨by rw [← Hr.out];exact G0.out,fun _=>by rw [show k-1=j by omega,← hp,← Hr.out];exact h⟩)
    have NX:=Lib.hid (show ¬ nxOK p r→¬ Sepa rs from fun h h2=>h (by
     have h3:=(h2 k (by rw [Hrl.out];exact Hkl.out)).2 (by omega)
     rw [show k-1=j by omega,← hp,← Hr.out] at h3
     exact h3))
    have q1:=fp1.p
    have q2:=fp2.p
    have S:=Lib.hid (TBox.make z1 z2 z3 z4)
    have jb:=below_new w3 (tbox n3 A3 l3 c3 B3 m3 d3 n4 A4 l4 c4 B4 m4 d4)
    replace T:=Lib.hid (T.out.move jb)
    replace HRr:=Lib.hid (HRr.out.below jb)
    replace Hbx:=Lib.hid (Hbx.out.trans (jb.mono Hbx.out.size))
    have x0:=T.out.r.c0;have x1:=T.out.r.c1;have x2:=T.out.r.c2;have y3:=S.out.c3;have y4:=S.out.c4;have y5:=S.out.c5
    clear z1 z2 z3 z4 hv3 hp jb hj hk0 hbl hjl
    go_wp2_with fail
    refine (rcmp_any _ _ _ _ _ _ _ _ _ _ _ _ _ _ _ _ _ _ _ S.out.hz.at_ S.out.hq.at_ T.out.r.hz.at_ T.out.r.hq.at_ (by omega) (by omega) fp2.fz fp2.fq fa.fz fa.fq).mono ?_
    rintro e w5 ⟨rfl,hb5⟩
    obtain ⟨C1,hC1⟩:∃ C,C=cmpz (p.2.z*(r.1.q:Int)) (r.1.z*(p.2.q:Int)):=⟨_,rfl⟩
    rw [← hC1]
    have HC1:=Lib.hid (show C1=fcmp p.2 r.1 from hC1)
    replace T:=Lib.hid (T.out.move hb5)
    replace S:=Lib.hid (S.out.move hb5)
    replace HRr:=Lib.hid (HRr.out.below hb5)
    replace Hbx:=Lib.hid (Hbx.out.trans (hb5.mono Hbx.out.size))
    clear hC1 hb5 x0 x1 x2 y3 y4 y5 e0 e1' e2 e3 e4 e5
    by_cases g1:0<C1
    ·have b3:decide (0<C1)=true:=decide_eq_true g1
     have FIN:=Lib.hid (NX.out fun h=>(by have:=h.1;rw [← HC1.out] at this;omega))
     clear g1
     (go_wp2_with fail;go_ret;exact ⟨.no FIN.out,Hbx.out⟩)
    have b3:decide (0<C1)=false:=decide_eq_false g1
    have G1:=Lib.hid (show fcmp p.2 r.1≤0 by rw [← HC1.out];omega)
    clear g1
    by_cases g2:C1=0
    ·have b4:(C1 == 0)=true:=by rw [g2];rfl
     have G2:=Lib.hid (show fcmp p.2 r.1=0 by rw [← HC1.out];exact g2)
     clear g2
     have x0:=S.out.r.c0;have x1:=S.out.r.c1;have x2:=S.out.r.c2;have x3:=S.out.c3;have x4:=S.out.c4;have x5:=S.out.c5
     go_wp2_with fail
     refine (rcmp_any _ _ _ _ _ _ _ _ _ _ _ _ _ _ _ _ _ _ _ S.out.r.hz.at_ S.out.r.hq.at_ S.out.hz.at_ S.out.hq.at_ (by omega) (by omega) fp1.fz fp1.fq fp2.fz fp2.fq).mono ?_
     rintro e w6 ⟨rfl,hb5⟩
     obtain ⟨C2,hC2⟩:∃ C,C=cmpz (p.1.z*(p.2.q:Int)) (p.2.z*(p.1.q:Int)):=⟨_,rfl⟩
     rw [← hC2]
     have HC2:=Lib.hid (show C2=fcmp p.1 p.2 from hC2)
     replace T:=Lib.hid (T.out.move hb5)
     replace HRr:=Lib.hid (HRr.out.below hb5)
     replace Hbx:=Lib.hid (Hbx.out.trans (hb5.mono Hbx.out.size))
     clear hC2 hb5 x0 x1 x2 x3 x4 x5 S HC3
     by_cases g3:C2=0
     ·have b5:(C2 == 0)=true:=by rw [g3];rfl
      have FIN:=Lib.hid (NX.out fun h=>(h.2 G2.out).1 (by rw [← HC2.out];exact g3))
      clear g3
      (go_wp2_with fail;go_ret;exact ⟨.no FIN.out,Hbx.out⟩)
     ·have b5:(C2 == 0)=false:=by rw [beq_eq_false_iff_ne];exact g3
      have G3:=Lib.hid (show fcmp p.1 p.2≠0 by rw [← HC2.out];exact g3)
      clear g3
      have x0:=T.out.r.c0;have x1:=T.out.r.c1;have x2:=T.out.r.c2;have x3:=T.out.c3;have x4:=T.out.c4;have x5:=T.out.c5
      go_wp2_with fail
      refine (rcmp_any _ _ _ _ _ _ _ _ _ _ _ _ _ _ _ _ _ _ _ T.out.r.hz.at_ T.out.r.hq.at_ T.out.hz.at_ T.out.hq.at_ (by omega) (by omega) fa.fz fa.fq fb.fz fb.fq).mono ?_;rintro e w7 ⟨rfl,hb5⟩;obtain ⟨C3,hC3⟩:∃ C,C=cmpz (r.1.z*(r.2.q:Int)) (r.2.z*(r.1.q:Int)):=⟨_,rfl⟩;rw [← hC3];have HC3:=Lib.hid (show C3=fcmp r.1 r.2 from hC3);replace T:=Lib.hid (T.out.move hb5);replace Hbx:=Lib.hid (Hbx.out.trans (hb5.mono Hbx.out.size));clear hC3
      clear hb5 x0 x1 x2 x3 x4 x5 T HRr
      by_cases g4:C3=0
      ·have b6:(C3 == 0)=true:=by rw [g4];rfl
       have FIN:=Lib.hid (NX.out fun h=>(h.2 G2.out).2 (by rw [← HC3.out];exact g4))
       clear g4
       (go_wp2_with fail;go_ret;exact ⟨.no FIN.out,Hbx.out⟩)
      ·have b6:(C3 == 0)=false:=by rw [beq_eq_false_iff_ne];exact g4
       have FIN:=Lib.hid (ST.out ⟨G1.out,fun _=>⟨G3.out,by rw [← HC3.out];exact g4⟩⟩)
       clear g4
       go_wp2_with fail
       go_roundw;(case rel=>exact ⟨k+1,Hkl.out,by go_num,fun i hi=>(by by_cases hi2:i<k;exact Hst.out i hi2;obtain rfl:i=k:=(by omega);exact FIN.out),Hbx.out⟩);(case measure=>have:=Hkl.out;simp [intOf];omega)
    ·have b4:(C1 == 0)=false:=by rw [beq_eq_false_iff_ne];exact g2
     have FIN:=Lib.hid (ST.out ⟨G1.out,fun h=>absurd (HC1.out.trans h) g2⟩)
     clear g2
     go_wp2_with fail
     go_roundw;(case rel=>exact ⟨k+1,Hkl.out,by go_num,fun i hi=>(by by_cases hi2:i<k;exact Hst.out i hi2;obtain rfl:i=k:=(by omega);exact FIN.out),Hbx.out⟩);(case measure=>have:=Hkl.out;simp [intOf];omega)
  ·have t1:¬ (k:Int)<(la:Int):=by omega
   have hk2:k=la:=by omega
   subst hk2
   have FIN:=Lib.hid (show Sepa rs from fun i hi=>Hst.out i (by rw [← Hrl.out];exact hi))
   clear hlt
   go_wp2_with fail
   go_ret
   exact ⟨.yes FIN.out,Hbw.out⟩
end Go.Proofs.YtppggpfcdgilmaaGreat
namespace Go.Proofs.YtppggpfcdgilmaaGreat
open Go Go.RowKit
def OwnE (C:Value→Prop) (E t base:Nat) (w:World) (v:Value) (us:List Value):Prop :=
 (us=[]∧v=.slice none 0 0)∨∃ g n cap cs,v=.slice (some ⟨g,0,none⟩) n cap∧base≤g∧us.length=n*E∧n≤cap∧(∀ (j:Nat) (u:Value),us[j]?=some u→w.cell? ⟨g,j,none⟩=some u)∧Blk w g t cs∧cs.size=cap*E∧∀ j,j<cap*E→∃ u,cs[j]?=some u∧C u
theorem OwnE.below {C:Value→Prop} {E t base:Nat} {w w':World} {v:Value} {us:List Value} (h:OwnE C E t base w v us) (hb:Below w.heap.size w w'):OwnE C E t base w' v us:=by
 rcases h with h | ⟨g,n,cap,cs,h1,h2,h3,h4,h5,h6,h7,h8⟩
 ·exact .inl h
 ·exact .inr ⟨g,n,cap,cs,h1,h2,h3,h4,fun j u hu=>(hb.cell (p:=⟨g,j,none⟩) h6.lt).trans (h5 j u hu),h6.below hb h6.lt,h7,h8⟩
theorem OwnE.nil (C:Value→Prop) (E t base:Nat) (w:World):OwnE C E t base w (.slice none 0 0) []:=.inl ⟨rfl,rfl⟩
def GrE (C:Value→Prop) (E t base:Nat) (w:World) (v:Value) (us vs:List Value) (v':Value) (w':World):Prop :=
 OwnE C E t base w' v' (us ++ vs)∧((∃ g n n' cap,v=.slice (some ⟨g,0,none⟩) n cap∧v'=.slice (some ⟨g,0,none⟩) n' cap∧base≤g∧g<w.heap.size∧(∀ o u,w.cell? ⟨g,o,none⟩=some u→C u)∧FrS g g w w')∨(Below w.heap.size w w'∧∃ n' cap,v'=.slice (some ⟨w.heap.size,0,none⟩) n' cap))
theorem GrE.below {C:Value→Prop} {E t base:Nat} {w w':World} {v v':Value} {us vs:List Value} (h:GrE C E t base w v us vs v' w') (hB:base≤w.heap.size):Below base w w':=by
 rcases h.2 with ⟨g,n,n',cap,_,_,h1,_,_,hf⟩ | ⟨hb,_⟩
 ·exact hf.mono (Below.refl _ _) h1 h1 hB
 ·exact hb.mono hB
theorem OwnE.frs {C:Value→Prop} {E t base:Nat} {w w':World} {v:Value} {us:List Value} {g:Nat} (h:OwnE C E t base w v us) (hf:FrS g g w w') (hg:∀ k n c,v=.slice (some ⟨k,0,none⟩) n c→k≠g):OwnE C E t base w' v us:=by
 rcases h with h | ⟨k,n,cap,cs,h1,h2,h3,h4,h5,h6,h7,h8⟩
 ·exact .inl h
 ·have hk:=hg k n cap h1
  exact .inr ⟨k,n,cap,cs,h1,h2,h3,h4,fun j u hu=>(hf.cell h6.lt hk hk j).trans (h5 j u hu),(hf.same k h6.lt hk hk).trans h6,h7,h8⟩
theorem OwnE.len {C:Value→Prop} {E t base:Nat} {w:World} {v:Value} {us:List Value} (h:OwnE C E t base w v us):∃ A n c,v=.slice A n c∧us.length=n*E∧n≤c:=by
 rcases h with ⟨h1,h2⟩ | ⟨g,n,cap,cs,h1,h2,h3,h4,h5⟩
 ·exact ⟨none,0,0,h2,by rw [h1];simp,Nat.le_refl _⟩
 ·exact ⟨_,n,cap,h1,h3,h4⟩
theorem blk_setCellsC {C:Value→Prop} {g t N:Nat}:∀ {cs:Array Value} (_:∀ j,j<N→∃ v,cs[j]?=some v∧C v) (_:cs.size=N) (vs:List Value) (_:∀ v∈vs,C v) (o:Nat) (_:o+vs.length≤N) {W:World} (_:Blk W g t cs),
 ∃ cs',Blk (W.setCells g o vs) g t cs'∧cs'.size=N∧(∀ j,j<N→∃ v,cs'[j]?=some v∧C v)∧(∀ (j:Nat) (v:Value),vs[j]?=some v→cs'[o+j]?=some v)∧∀ j,j<o→cs'[j]?=cs[j]?
 | cs,hc,hs,[],_,_,_,_,hk=>⟨cs,hk,hs,hc,fun j v hv=>by simp at hv,fun _ _=>rfl⟩
 | cs,hc,hs,v :: vs,hv,o,ho,W,hk=>by
   simp only [List.length_cons] at ho
   obtain ⟨cs',h1,h2,h3,h4,h5⟩:=blk_setCellsC (cs:=cs.setIfInBounds o v) (fun j hj=>by
    rcases Nat.decEq j o with hne | heq
    ·rw [Array.getElem?_setIfInBounds_ne (by omega)];exact hc j hj
    ·subst heq
     exact ⟨v,by rw [Array.getElem?_setIfInBounds_self_of_lt (by omega)],hv v (List.mem_cons_self ..)⟩) (by simpa using hs) vs (fun u hu=>hv u (List.mem_cons_of_mem _ hu)) (o+1) (by omega) (hk.set_ o v)
   refine ⟨cs',h1,h2,h3,fun j u hu=>?_,fun j hj=>?_⟩
   ·match j,hu with
    | 0,hu =>
      have e:v=u:=by simpa using hu
      rw [Nat.add_zero,h5 o (by omega),Array.getElem?_setIfInBounds_self_of_lt (by omega),e]
    | j+1,hu =>
      rw [show o+(j+1)=o+1+j by omega]
      exact h4 j u (by simpa using hu)
   ·rw [h5 j (by omega),Array.getElem?_setIfInBounds_ne (by omega)]
set_option maxHeartbeats 1000000 in
theorem oper_append_own {w:World} {o:Oper} {a:Act} {K:Act→World→Prop} {Q:Exit→Act→World→Prop} (s x:Operand) (t e:TypeId)
 (ho:o.op=.call { callee:=.builtin .append,args:=#[s,x],argTypes:=#[t,t] }) (E:Nat) (i0:TypeInfo) (z:Value) (ht:Tryz.prog.underlying t=some (.slice e)) (hi:Tryz.prog.info? e=some i0) (hz0:i0.zero=some z) (hz1:i0.size=E) (hz2:i0.bytes≤200) (hzs:z.cells.size=E) (C:Value→Prop) (hC:∀ u,C u→Nd u) (hzn:∀ j,j<E→C (z.cells[j]!)) (hE:0<E)
 (base:Nat) (v:Value) (us vs:List Value) (hs:a.eval s=v) (hown:OwnE C E e base w v us) (hB:base≤w.heap.size)
 (ax:Addr) (m c:Nat) (hx:a.eval x=.slice (some ax) m c) (hvl:vs.length=m*E) (hxc:∀ (j:Nat) (u:Value),vs[j]?=some u→w.cell? (ax.add j)=some u) (hvn:∀ u∈vs,C u) (hm:0<m∨v≠.slice none 0 0) (hn:us.length+vs.length≤100000000)
 (dd:Nat) (hdd:o.dst=some dd) (h:∀ v' w',GrE C E e base w v us vs v' w'→K (a.put (some dd) v') w') :
 Oper.wp Tryz.prog o a w K Q:=by
 rw [← hdd] at h
 have hone:∀ u∈vs,u.oneCell'=true:=fun u hu=>(hC u (hvn u hu)).2
 have hml:m≤100000000:=by
  have:m≤m*E:=Nat.le_mul_of_pos_right _ hE
  omega
 have hzc:∀ k j,j<k*E→∃ v,(Builtin.zeroCells z.cells k)[j]?=some v∧C v:=fun k j hj=>by
  unfold Builtin.zeroCells
  rw [Array.getElem?_map,Array.getElem?_range,hzs,if_pos hj]
  exact ⟨_,rfl,hzn _ (Nat.mod_lt _ hE)⟩
 have hzz:∀ k,(Builtin.zeroCells z.cells k).size=k*E:=fun k=>by rw [size_zeroCells,hzs]
 have hvj:∀ j,j<vs.length→∃ u,vs[j]?=some u∧C u:=fun j hj=>⟨vs[j]'hj,List.getElem?_eq_getElem hj,hvn _ (List.getElem_mem _)⟩
 have hnew:∀ (n cap':Nat) (olds:List Value),olds.length=n*E→(∀ u∈olds,C u)→(us=olds)→n+m≤cap' →
  GrE C E e base w v us vs (.slice (some ⟨w.heap.size,0,none⟩) (n+m) cap') (w.drew.alloc (.cells ((olds ++ vs).toArray ++ Builtin.zeroCells z.cells (cap'-(n+m))) e)):=fun n cap' olds hl hnd hu hc=>by
  have hbw:Below w.heap.size w (w.drew.alloc (.cells ((olds ++ vs).toArray ++ Builtin.zeroCells z.cells (cap'-(n+m))) e)):=((Below.refl _ _).drew).alloc (by simp) _
  have hk:Blk (w.drew.alloc (.cells ((olds ++ vs).toArray ++ Builtin.zeroCells z.cells (cap'-(n+m))) e)) w.heap.size e ((olds ++ vs).toArray ++ Builtin.zeroCells z.cells (cap'-(n+m))):=Blk.new w.drew _ _
  have hlen:(olds ++ vs).length=(n+m)*E:=by rw [List.length_append,hl,hvl,Nat.add_mul]
  refine ⟨.inr ⟨w.heap.size,n+m,cap',_,rfl,hB,by rw [hu,hlen],hc,fun j u hj=>?_,hk,?_,fun j hj=>?_⟩,.inr ⟨hbw,_,_,rfl⟩⟩
  ·rw [hu] at hj
   have hjl:=(List.getElem?_eq_some_iff.1 hj).1
   refine (hk.cell j).trans ?_
   rw [Array.getElem?_append_left (by simpa using hjl),List.getElem?_toArray,hj]
  ·rw [Array.size_append,List.size_toArray,hzz,hlen,← Nat.add_mul,Nat.add_sub_cancel' hc]
  ·rcases Nat.lt_or_ge j ((n+m)*E) with h1 | h1
   ·rw [Array.getElem?_append_left (by rw [List.size_toArray,hlen];exact h1),List.getElem?_toArray]
    refine ⟨(olds ++ vs)[j]'(by rw [hlen];exact h1),List.getElem?_eq_getElem _,?_⟩
    rcases List.mem_append.1 (List.getElem_mem (l:=olds ++ vs) (by rw [hlen];exact h1)) with h2 | h2
    ·exact hnd _ h2
    ·exact hvn _ h2
   ·rw [Array.getElem?_append_right (by rw [List.size_toArray,hlen];exact h1),List.size_toArray,hlen]
    refine hzc _ _ ?_
    rw [Nat.sub_mul]
    omega
 rcases hown with ⟨hn0,hF⟩ | ⟨g,n,cap,cs,hF,hBg,hul,hnc,huc,hk,hsz,hcs⟩
 ·subst hF
  have hm0:0<m:=hm.resolve_right fun h=>h rfl
  have hrun:=run_append_nil (P:=Tryz.prog) (w:=w) t o.type e i0 z ht hi hz0 ax m c vs (by rw [hz1,hvl]) hxc hm0 (by omega) (by
   have:=Nat.mul_le_mul hml hz2
   omega)
  have hge:m≤grownCap w m 0 e:=grownCap_ge w m 0 e
  generalize grownCap w m 0 e=cap' at hrun hge
  have hg:=hnew 0 cap' [] (by simp) (fun u hu=>by simp at hu) hn0 (by omega)
  rw [List.nil_append,Nat.zero_add] at hg
  unfold Oper.wp
  simp only [execOp,ho,resolve,invoke,builtin]
  simp [hs,hx,hrun,Result.andThen]
  exact h _ _ hg
 ·subst hF
  have hnl:n≤100000000:=by
   have:n≤n*E:=Nat.le_mul_of_pos_right _ hE
   omega
  by_cases hrm:n+m≤cap
  ·have hnm:n*E+m*E≤cap*E:=by rw [← Nat.add_mul];exact Nat.mul_le_mul_right _ hrm
   have hrun:=run_append_room_cells (P:=Tryz.prog) w t o.type e i0 ht hi g 0 n cap ax m c vs (by rw [hz1,hvl]) hxc hone hrm
    (fun j hj=>by
      obtain ⟨u,eu,_⟩:=hcs (n*E+j) (by rw [hvl] at hj;omega)
      rw [hz1,Nat.zero_add,hk.cell,eu];rfl)
    (fun j hj=>hk.frozen _)
   rw [hz1,Nat.zero_add] at hrun
   unfold Oper.wp
   simp only [execOp,ho,resolve,invoke,builtin]
   simp [hs,hx,hrun,Result.andThen]
   have hcc:∀ o u,w.cell? ⟨g,o,none⟩=some u→C u:=fun o u hu=>by
    rw [hk.cell] at hu
    have hj:o<cs.size:=(Array.getElem?_eq_some_iff.1 hu).1
    obtain ⟨u',e',hd⟩:=hcs o (by rw [← hsz];exact hj)
    rw [hu] at e'
    cases e'
    exact hd
   obtain ⟨cs',b1,b2,b3,b4,b5⟩:∃ cs',Blk (w.setCells g (n*E) vs) g e cs'∧cs'.size=cap*E∧(∀ j,j<cap*E→∃ v,cs'[j]?=some v∧C v)∧(∀ (j:Nat) (v:Value),vs[j]?=some v→cs'[n*E+j]?=some v)∧∀ j,j<n*E→cs'[j]?=cs[j]?:=blk_setCellsC hcs hsz vs hvn (n*E) (by rw [hvl];exact hnm) hk
   have hfr:FrS g g w (w.setCells g (n*E) vs):=frs_setCells vs (n*E) (FrS.refl _ _ _)
   refine h _ _ ⟨.inr ⟨g,n+m,cap,cs',rfl,hBg,by rw [List.length_append,hul,hvl,Nat.add_mul],hrm,fun j u hj=>?_,b1,b2,b3⟩,.inl ⟨g,n,n+m,cap,rfl,rfl,hBg,hk.lt,hcc,hfr⟩⟩
   refine (b1.cell j).trans ?_
   rcases Nat.lt_or_ge j us.length with h1 | h1
   ·rw [List.getElem?_append_left h1] at hj
    rw [b5 j (by rw [← hul];exact h1),← hk.cell j]
    exact huc j u hj
   ·rw [List.getElem?_append_right h1] at hj
    have:=b4 _ u hj
    rwa [← hul,Nat.add_sub_cancel' h1] at this
  ·have hol:∀ u∈us,C u:=fun u hu=>by
    obtain ⟨j,hj,hju⟩:=List.getElem_of_mem hu
    have hc:=huc j u (by rw [List.getElem?_eq_getElem hj,hju])
    rw [hk.cell j] at hc
    obtain ⟨u',e',hd⟩:=hcs j (by
     have:n*E≤cap*E:=Nat.mul_le_mul_right _ hnc
     omega)
    rw [hc] at e'
    cases e'
    exact hd
   have hnm:=Nat.mul_le_mul (show n+m≤200000000 by omega) hz2
   have hfit:=growslice_fits (need:=n+m) (old:=cap) (bytes:=i0.bytes) (by omega) (by omega)
   have hrun:=run_append_grow (P:=Tryz.prog) w t o.type e i0 z ht hi hz0 ⟨g,0,none⟩ n cap us (by rw [hz1,hul])
    (fun j u hj=>by rw [Addr.add_lit,Nat.zero_add];exact huc j u hj)
    ax m c vs (by rw [hz1,hvl]) hxc (by omega) (by omega) hfit
   have hge:=grownCap_ge w (n+m) cap e
   generalize grownCap w (n+m) cap e=cap' at hrun hge
   have hg:=hnew n cap' us hul hol rfl hge
   unfold Oper.wp
   simp only [execOp,ho,resolve,invoke,builtin]
   simp [hs,hx,hrun,Result.andThen]
   exact h _ _ (by simpa using hg)
def Lay {α:Type} (R:α→List Value→Prop):List α→List Value→Prop
 | [],us=>us=[]
 | x :: xs,us=>∃ vs us',R x vs∧us=vs ++ us'∧Lay R xs us'
section
variable {α:Type} {R R':α→List Value→Prop} {E:Nat}
theorem Lay.appl:∀ {xs ys:List α} {us vs:List Value},Lay R xs us→Lay R ys vs→Lay R (xs ++ ys) (us ++ vs)
 | [],ys,us,vs,h,hy=>by rw [show us=[] from h];exact hy
 | x :: xs,ys,us,vs,⟨ws,us',h1,h2,h3⟩,hy=>⟨ws,us' ++ vs,h1,by rw [h2,List.append_assoc],Lay.appl h3 hy⟩
theorem Lay.mono (hm:∀ x vs,R x vs→R' x vs):∀ {xs:List α} {us:List Value},Lay R xs us→Lay R' xs us
 | [],_,h=>h
 | _ :: _,_,⟨vs,us',h1,h2,h3⟩=>⟨vs,us',hm _ _ h1,h2,Lay.mono hm h3⟩
theorem Lay.len (hR:∀ x vs,R x vs→vs.length=E):∀ {xs:List α} {us:List Value},Lay R xs us→us.length=xs.length*E
 | [],us,h=>by rw [show us=[] from h];simp
 | x :: xs,us,⟨vs,us',h1,h2,h3⟩=>by rw [h2,List.length_append,hR _ _ h1,Lay.len hR h3,List.length_cons,Nat.add_mul,Nat.one_mul,Nat.add_comm]
theorem Lay.get (hR:∀ x vs,R x vs→vs.length=E):∀ {xs:List α} {us:List Value},Lay R xs us→∀ (i:Nat) (x:α),xs[i]?=some x→∃ vs,R x vs∧∀ (j:Nat) (v:Value),vs[j]?=some v→us[i*E+j]?=some v
 | [],_,_,i,x,hx=>by simp at hx
 | y :: xs,us,⟨vs,us',h1,h2,h3⟩,i,x,hx=>by
   match i,hx with
   | 0,hx =>
     have e:y=x:=by simpa using hx
     subst e
     refine ⟨vs,h1,fun j v hv=>?_⟩
     rw [h2,Nat.zero_mul,Nat.zero_add,List.getElem?_append_left (List.getElem?_eq_some_iff.1 hv).1]
     exact hv
   | i+1,hx =>
     obtain ⟨ws,g1,g2⟩:=Lay.get hR h3 i x (by simpa using hx)
     refine ⟨ws,g1,fun j v hv=>?_⟩
     have hl:=hR _ _ h1
     rw [h2,List.getElem?_append_right (by rw [hl,Nat.add_mul];omega),hl,show (i+1)*E+j-E=i*E+j by rw [Nat.add_mul];omega]
     exact g2 j v hv
end
structure SlE {α:Type} (E:Nat) (R:World→α→List Value→Prop) (w:World) (A:Option Addr) (l c:Nat) (xs:List α):Prop where
 length:xs.length=l
 cap:l≤c
 elems:(l=0∧A=none∧c=0)∨∃ b o,A=some ⟨b,o,none⟩∧b<w.heap.size∧∀ (i:Nat) (x:α),xs[i]?=some x→∃ vs,R w x vs∧∀ (j:Nat) (v:Value),vs[j]?=some v→w.cell? ⟨b,o+i*E+j,none⟩=some v
theorem SlE.below {α:Type} {E:Nat} {R:World→α→List Value→Prop} {w w':World} {A:Option Addr} {l c:Nat} {xs:List α} (h:SlE E R w A l c xs) (hb:Below w.heap.size w w') (hR:∀ x vs,R w x vs→R w' x vs):SlE E R w' A l c xs:=by
 refine ⟨h.length,h.cap,?_⟩
 rcases h.elems with h0 | ⟨b,o,hA,hlt,hv⟩
 ·exact .inl h0
 ·refine .inr ⟨b,o,hA,Nat.lt_of_lt_of_le hlt hb.size,fun i x hx=>?_⟩
  obtain ⟨vs,h1,h2⟩:=hv i x hx
  exact ⟨vs,hR _ _ h1,fun j v hj=>(hb.cell (p:=⟨b,o+i*E+j,none⟩) hlt).trans (h2 j v hj)⟩
theorem OwnE.sle {α:Type} {C:Value→Prop} {E t base:Nat} {R:World→α→List Value→Prop} {w:World} {v:Value} {us:List Value} {xs:List α} (hE:0<E) (h:OwnE C E t base w v us) (hl:Lay (R w) xs us) (hR:∀ x vs,R w x vs→vs.length=E):∃ A l c,v=.slice A l c∧SlE E R w A l c xs:=by
 have hlen:=hl.len hR
 rcases h with ⟨h1,h2⟩ | ⟨g,n,cap,cs,h1,h2,h3,h4,h5,h6,h7,h8⟩
 ·have:xs.length=0:=by
   rw [h1,List.length_nil] at hlen
   rcases Nat.mul_eq_zero.1 hlen.symm with h | h<;>omega
  exact ⟨_,_,_,h2,this,Nat.le_refl _,.inl ⟨rfl,rfl,rfl⟩⟩
 ·refine ⟨_,n,cap,h1,Nat.eq_of_mul_eq_mul_right hE (by rw [← hlen,h3]),h4,.inr ⟨g,0,rfl,h6.lt,fun i x hx=>?_⟩⟩
  obtain ⟨vs,g1,g2⟩:=hl.get hR i x hx
  exact ⟨vs,g1,fun j u hu=>by rw [Nat.zero_add];exact h5 _ u (g2 j u hu)⟩
def RatV (w:World) (a:Fq) (vs:List Value):Prop:=∃ n A l c B m d,vs=[.bool n,.slice A l c,.slice B m d]∧IntN w n A l c a.z∧NatN w B m d a.q
theorem RatV.below {w w':World} {a:Fq} {vs:List Value} (h:RatV w a vs) (hb:Below w.heap.size w w'):RatV w' a vs:=by
 obtain ⟨n,A,l,c,B,m,d,e,h1,h2⟩:=h
 exact ⟨n,A,l,c,B,m,d,e,h1.below hb,h2.below hb⟩
theorem RatV.frs {g g':Nat} {w w':World} {a:Fq} {vs:List Value} (h:RatV w a vs) (hf:FrS g g' w w') (k1:NdB w g) (k2:NdB w g'):RatV w' a vs:=by
 obtain ⟨n,A,l,c,B,m,d,e,h1,h2⟩:=h
 exact ⟨n,A,l,c,B,m,d,e,h1.frs hf k1 k2,h2.frs hf k1 k2⟩
theorem RatV.len {w:World} {a:Fq} {vs:List Value} (h:RatV w a vs):vs.length=3:=by
 obtain ⟨n,A,l,c,B,m,d,e,h1,h2⟩:=h
 rw [e];rfl
theorem RatV.nd {w:World} {a:Fq} {vs:List Value} (h:RatV w a vs):∀ v∈vs,Nd v:=by
 obtain ⟨n,A,l,c,B,m,d,e,h1,h2⟩:=h
 intro v hv
 rw [e] at hv
 simp only [List.mem_cons,List.not_mem_nil,or_false] at hv
 rcases hv with rfl | rfl | rfl
 ·exact nd_bool _
 ·exact nd_slice _ _ _
 ·exact nd_slice _ _ _
theorem GrE.lay {α:Type} {C:Value→Prop} {E t base:Nat} {R:World→α→List Value→Prop} {w w':World} {v v':Value} {us vs:List Value} {xs ys:List α} (h:GrE C E t base w v us vs v' w') (hl:Lay (R w) xs us) (hy:Lay (R w) ys vs) (hb:∀ x vs,Below w.heap.size w w'→R w x vs→R w' x vs) (hf:∀ g x vs,FrS g g w w'→(∀ o u,w.cell? ⟨g,o,none⟩=some u→C u)→R w x vs→R w' x vs):Lay (R w') (xs ++ ys) (us ++ vs):=by
 have hm:∀ x vs,R w x vs→R w' x vs:=by
  rcases h.2 with ⟨g,n,n',cap,_,_,_,_,k,f⟩ | ⟨k,_⟩
  ·exact fun x vs=>hf g x vs f k
  ·exact fun x vs=>hb x vs k
 exact (hl.mono hm).appl (hy.mono hm)
end Go.Proofs.YtppggpfcdgilmaaGreat
namespace Go.Proofs.YtppggpfcdgilmaaGreat
open Go.RowKit
theorem new_below (w:World) (o:Obj):Below w.heap.size w (w.alloc o):=(Below.refl _ _).alloc (Nat.le_refl _) _
theorem Fit.smnat {a:Nat} (h:Fit (a:Int)):Sm a:=by
 have:=h.sm
 unfold SmI at this
 rw [Int.natAbs_natCast] at this
 exact this
set_option maxRecDepth 100000 in
set_option maxHeartbeats 8000000 in
theorem rsub_any (n:Bool) (A:Option Addr) (l c:Nat) (B:Option Addr) (m d q:Nat) (z:Int) (n':Bool) (A':Option Addr) (l' c':Nat) (B':Option Addr) (m' d' q':Nat) (z':Int) (w:World) (hz:IntN w n A l c z) (hq:NatN w B m d q) (hz':IntN w n' A' l' c' z') (hq':NatN w B' m' d' q') (fz:Fit z) (fq:Fit (q:Int)) (h0:0<q) (fz':Fit z') (fq':Fit (q':Int)) (h0':0<q') :
 Calls Tryz.prog 28 #[.agg #[.bool n,.slice A l c,.slice B m d],.agg #[.bool n',.slice A' l' c',.slice B' m' d']] w fun e w'=>RatE ((z*(q':Int)-z'*(q:Int)).tdiv (Nat.gcd (z*(q':Int)-z'*(q:Int)).natAbs (q*q'))) (q*q' / Nat.gcd (z*(q':Int)-z'*(q:Int)).natAbs (q*q')) e w'∧Below w.heap.size w w':=by
 have sq:=fq.smnat
 have sq':=fq'.smnat
 obtain ⟨S1,hS1⟩:∃ S1,S1=z*(q':Int):=⟨_,rfl⟩
 obtain ⟨S2,hS2⟩:∃ S2,S2=z'*(q:Int):=⟨_,rfl⟩
 obtain ⟨DD,hDD⟩:∃ DD,DD=q*q':=⟨_,rfl⟩
 have ss1:SmI S1:=by rw [hS1];exact fz.sm2 fq'
 have ss2:SmI S2:=by rw [hS2];exact fz'.sm2 fq
 have ssum:Sm (S1.natAbs+S2.natAbs):=by
  have a1:=fz.mul fq'
  have a2:=fz'.mul fq
  rw [← hS1] at a1
  rw [← hS2] at a2
  refine sm_pow (k:=FW+FW+1) ?_ (by rw [FW_eq];decide)
  have a3:2*BB^(FW+FW)<BB^(FW+FW+1):=mulpow_lt (by omega)
  omega
 have sS:SmI (S1-S2):=Sm.mono ssum (by omega)
 have sqq:SmI ((q:Int)*(q':Int)):=fq.sm2 fq'
 have sD:SmI (DD:Int):=by rw [hDD,Int.natCast_mul];exact sqq
 have hD0:0<DD:=by rw [hDD];exact Nat.mul_pos h0 h0'
 rw [← hS1,← hS2,← hDD]
 have HS1:=Lib.hid hS1
 have HS2:=Lib.hid hS2
 have HDD:=Lib.hid hDD
 clear hS1 hS2 hDD
 have o1:=new_below w (rbox n A l c B m d)
 have o2:=new_below (w.alloc (rbox n A l c B m d)) (rbox n' A' l' c' B' m' d')
 have o3:=new_below ((w.alloc (rbox n A l c B m d)).alloc (rbox n' A' l' c' B' m' d')) (rbox false none 0 0 none 0 0)
 have b3:Below w.heap.size w (((w.alloc (rbox n A l c B m d)).alloc (rbox n' A' l' c' B' m' d')).alloc (rbox false none 0 0 none 0 0)):=(o1.alloc (by simp) _).alloc (by simp;omega) _
 have R1:=((RBox.make hz hq).move o2).move o3
 have R2:=(RBox.make (hz'.below o1) (hq'.below o1)).move o3
 have R4:=RBox.nil ((w.alloc (rbox n A l c B m d)).alloc (rbox n' A' l' c' B' m' d'))
 simp only [World.size_alloc] at R2 R4
 replace R1:=Lib.hid R1
 replace R2:=Lib.hid R2
 replace R4:=Lib.hid R4
 have Hb:=Lib.hid b3
 clear o1 o2 o3 b3 hz hq hz' hq'
 go_enter Tryz.func28,Tryz.ntmps28
 go_wp2_with fail
 refine (parts_any _ _ _ _ _ _ _ _ _ R1.out.hq.at_ sq (by omega)).mono ?_
 rintro e w1 ⟨rfl,hb1⟩
 replace R1:=Lib.hid (R1.out.move hb1)
 replace R2:=Lib.hid (R2.out.move hb1)
 replace R4:=Lib.hid (R4.out.move hb1)
 replace Hb:=Lib.hid (Hb.out.trans (hb1.mono Hb.out.size))
 have lt4:w.heap.size+1+1<w1.heap.size:=R4.out.lt
 have x0:=R2.out.c0
 have x1:=R2.out.c1
 have x2:=R2.out.c2
 have ltx:w.heap.size+1<w1.heap.size:=by omega
 have lty:w.heap.size+1<w1.heap.size+1:=by omega
 clear hb1
 go_wp2_with fail
 have k1:=new_below w1 (ibox n A l c)
 have k2:=new_below (w1.alloc (ibox n A l c)) (ibox false B m d)
 have kb:Below w1.heap.size w1 ((w1.alloc (ibox n A l c)).alloc (ibox false B m d)):=k1.alloc (by simp) _
 have i5:=(IBox.make R1.out.hz).move k2
 have hqP:IntN w1 false B m d (q:Int):=⟨by rw [Int.natAbs_natCast];exact R1.out.hq,by simp⟩
 have i6:=IBox.make (hqP.below k1)
 simp only [World.size_alloc] at i6
 replace R2:=Lib.hid (R2.out.move kb)
 replace R4:=Lib.hid (R4.out.move kb)
 replace Hb:=Lib.hid (Hb.out.trans (kb.mono Hb.out.size))
 have I5:=Lib.hid i5
 have I6:=Lib.hid i6
 clear k1 k2 kb i5 i6 hqP R1 x0 x1 x2
 refine (parts_any _ _ _ _ _ _ _ _ _ R2.out.hq.at_ sq' (by omega)).mono ?_
 rintro e w2 ⟨rfl,hb2⟩
 have hsz2:=hb2.size
 simp only [World.size_alloc] at hsz2
 replace I5:=Lib.hid (I5.out.move hb2)
 replace I6:=Lib.hid (I6.out.move hb2)
 replace R2:=Lib.hid (R2.out.move hb2)
 replace R4:=Lib.hid (R4.out.move hb2)
 replace Hb:=Lib.hid (Hb.out.trans (hb2.mono Hb.out.size))
 have k1:=new_below w2 (ibox n' A' l' c')
 have k2:=new_below (w2.alloc (ibox n' A' l' c')) (ibox false B' m' d')
 have kb:Below w2.heap.size w2 ((w2.alloc (ibox n' A' l' c')).alloc (ibox false B' m' d')):=k1.alloc (by simp) _
 have i7:=(IBox.make R2.out.hz).move k2
 have hqP:IntN w2 false B' m' d' (q':Int):=⟨by rw [Int.natAbs_natCast];exact R2.out.hq,by simp⟩
 have i8:=IBox.make (hqP.below k1)
 simp only [World.size_alloc] at i8
 replace I5:=Lib.hid (I5.out.move kb)
 replace I6:=Lib.hid (I6.out.move kb)
 replace R4:=Lib.hid (R4.out.move kb)
 replace Hb:=Lib.hid (Hb.out.trans (kb.mono Hb.out.size))
 have I7:=Lib.hid i7
 have I8:=Lib.hid i8
 clear k1 k2 kb i7 i8 hqP R2 hb2
 obtain ⟨wc,hwc⟩:∃ wc,wc=(w2.alloc (ibox n' A' l' c')).alloc (ibox false B' m' d'):=⟨_,rfl⟩
 have hszc:wc.heap.size=w2.heap.size+1+1:=by rw [hwc];simp
 go_wp2_with fail
 rw [← hwc] at I5 I6 I7 I8 R4 Hb ⊢
 clear hwc
 obtain ⟨g4,hg4⟩:∃ g,g=w.heap.size+1+1:=⟨_,rfl⟩
 obtain ⟨g5,hg5⟩:∃ g,g=w1.heap.size:=⟨_,rfl⟩
 obtain ⟨g6,hg6⟩:∃ g,g=w1.heap.size+1:=⟨_,rfl⟩
 obtain ⟨g7,hg7⟩:∃ g,g=w2.heap.size:=⟨_,rfl⟩
 obtain ⟨g8,hg8⟩:∃ g,g=w2.heap.size+1:=⟨_,rfl⟩
 rw [← hg4] at R4
 rw [← hg5] at I5
 rw [← hg6] at I6
 rw [← hg7] at I7
 rw [← hg8] at I8
 rw [← hg4,← hg6,← hg5,← hg8,← hg7]
 have l4:g4<wc.heap.size:=by omega
 have l4w:w.heap.size<g4:=by omega
 have l5:g5<wc.heap.size:=by omega
 have l6:g6<wc.heap.size:=by omega
 have l7:g7<wc.heap.size:=by omega
 have l8:g8<wc.heap.size:=by omega
 clear hg4 hg5 hg6 hg7 hg8 hszc hsz2 lt4 ltx lty
 have a0:=I5.out.c0
 have a1:=I5.out.c1
 have b0:=I6.out.c0
 have b1:=I6.out.c1
 have d0:=I7.out.c0
 have d1:=I7.out.c1
 have e0:=I8.out.c0
 have e1:=I8.out.c1
 refine wp_region_last (S:=fun w'=>w'.cell? ⟨g5,0,none⟩=some (.bool n)∧w'.cell? ⟨g5,1,none⟩=some (.slice A l c)∧w'.cell? ⟨g6,0,none⟩=some (.bool false)∧w'.cell? ⟨g6,1,none⟩=some (.slice B m d)∧w'.cell? ⟨g7,0,none⟩=some (.bool n')∧w'.cell? ⟨g7,1,none⟩=some (.slice A' l' c')∧w'.cell? ⟨g8,0,none⟩=some (.bool false)∧w'.cell? ⟨g8,1,none⟩=some (.slice B' m' d')) (by kernel_rfl) (by kernel_rfl) (by (try dsimp only);go_keep) (fun hHeld=>?_)
 simp only [List.pop_toArray,List.dropLast]
 (refine tk (i:=0) (v:=?_) rfl rfl (Or.inl ⟨by rfl,?_⟩) ?_;rotate_left;(focus (intro w hSw;(try dsimp only at hSw);go_simp;(try with_reducible rfl)));(simp only [put_lit,List.set]))
 (refine tk (i:=1) (v:=?_) rfl rfl (Or.inl ⟨by rfl,?_⟩) ?_;rotate_left;(focus (intro w hSw;(try dsimp only at hSw);go_simp;(try with_reducible rfl)));(simp only [put_lit,List.set]))
 (refine tk (i:=3) (v:=?_) rfl rfl (Or.inl ⟨by rfl,?_⟩) ?_;rotate_left;(focus (intro w hSw;(try dsimp only at hSw);go_simp;(try with_reducible rfl)));(simp only [put_lit,List.set]))
 (refine tk (i:=4) (v:=?_) rfl rfl (Or.inl ⟨by rfl,?_⟩) ?_;rotate_left;(focus (intro w hSw;(try dsimp only at hSw);go_simp;(try with_reducible rfl)));(simp only [put_lit,List.set]))
 (refine tk (i:=7) (v:=?_) rfl rfl (Or.inl ⟨by rfl,?_⟩) ?_;rotate_left;(focus (intro w hSw;(try dsimp only at hSw);go_simp;(try with_reducible rfl)));(simp only [put_lit,List.set]))
 (refine tk (i:=8) (v:=?_) rfl rfl (Or.inl ⟨by rfl,?_⟩) ?_;rotate_left;(focus (intro w hSw;(try dsimp only at hSw);go_simp;(try with_reducible rfl)));(simp only [put_lit,List.set]))
 refine wpAnyH_ready (rs:=[2]) (by kernel_rfl) (by simp) ?_
 refine AllReadyH.cons rfl (fun K hK=>?_) AllReadyH.nil;go_simp
 refine (imul_any _ _ _ _ _ _ _ _ _ _ _ ?_ ?_ fz.sm fq'.sm (fz.mulok _)).mono ?_
 ·exact I5.out.hz.at_.below Bel.go
 ·exact I8.out.hz.at_.below Bel.go
 rintro e w10 ⟨n10,A10,l10,c10,rfl,h10,hb10⟩
 rw [← HS1.out] at h10
 obtain ⟨hcx,hfx⟩:=bcellS hb10
 replace I6:=Lib.hid (I6.out.move (Below.trans Bel.go (hb10.mono (by simp<;>omega))))
 replace I7:=Lib.hid (I7.out.move (Below.trans Bel.go (hb10.mono (by simp<;>omega))))
 replace I8:=Lib.hid (I8.out.move (Below.trans Bel.go (hb10.mono (by simp<;>omega))))
 replace R4:=Lib.hid (R4.out.move (Below.trans Bel.go (hb10.mono (by simp<;>omega))))
 replace Hb:=Lib.hid (Hb.out.trans ((Below.trans Bel.go (hb10.mono (by simp<;>omega))).mono Hb.out.size))
 have H10:=Lib.hid h10
 refine hK.out _ _ ?_ (fun _=>?_)
 ·((try dsimp only);repeat' apply And.intro)<;>(rw [hcx _ (by go_simp)];go_simp)
 clear hHeld hK K hcx hfx;rename_i hHeld
 clear h10 hb10
 refine wpAnyH_ready (rs:=[5]) (by kernel_rfl) (by simp) ?_
 refine AllReadyH.cons rfl (fun K hK=>?_) AllReadyH.nil;go_simp
 refine (imul_any _ _ _ _ _ _ _ _ _ _ _ ?_ ?_ fz'.sm fq.sm (fz'.mulok _)).mono ?_
 ·exact I7.out.hz.at_.below Bel.go
 ·exact I6.out.hz.at_.below Bel.go
 rintro e w11 ⟨n11,A11,l11,c11,rfl,h11,hb11⟩
 rw [← HS2.out] at h11
 obtain ⟨hcx,hfx⟩:=bcellS hb11
 replace I6:=Lib.hid (I6.out.move (Below.trans Bel.go (hb11.mono (by simp<;>omega))))
 replace I8:=Lib.hid (I8.out.move (Below.trans Bel.go (hb11.mono (by simp<;>omega))))
 replace R4:=Lib.hid (R4.out.move (Below.trans Bel.go (hb11.mono (by simp<;>omega))))
 replace Hb:=Lib.hid (Hb.out.trans ((Below.trans Bel.go (hb11.mono (by simp<;>omega))).mono Hb.out.size))
 replace H10:=Lib.hid (H10.out.below (Below.trans Bel.go (hb11.mono (by simp<;>omega))))
 have H11:=Lib.hid h11
 refine hK.out _ _ ?_ (fun _=>?_)
 ·((try dsimp only);repeat' apply And.intro)<;>(rw [hcx _ (by go_simp)];go_simp)
 clear hHeld hK K hcx hfx;rename_i hHeld
 clear h11 hb11
 refine wpAnyH_ready (rs:=[6]) (by kernel_rfl) (by simp) ?_
 refine AllReadyH.cons rfl (fun K hK=>?_) AllReadyH.nil;go_simp
 refine (isub_any _ _ _ _ S1 _ _ _ _ S2 _ (H10.out.at_.below Bel.go) (H11.out.at_.below Bel.go) ss1 ss2 ssum).mono ?_
 rintro e w12 ⟨n12,A12,l12,c12,rfl,h12,hb12⟩
 obtain ⟨hcx,hfx⟩:=bcellS hb12
 replace I6:=Lib.hid (I6.out.move (Below.trans Bel.go (hb12.mono (by simp<;>omega))))
 replace I8:=Lib.hid (I8.out.move (Below.trans Bel.go (hb12.mono (by simp<;>omega))))
 replace R4:=Lib.hid (R4.out.move (Below.trans Bel.go (hb12.mono (by simp<;>omega))))
 replace Hb:=Lib.hid (Hb.out.trans ((Below.trans Bel.go (hb12.mono (by simp<;>omega))).mono Hb.out.size))
 have H12:=Lib.hid h12
 refine hK.out _ _ ?_ (fun _=>?_)
 ·((try dsimp only);repeat' apply And.intro)<;>(rw [hcx _ (by go_simp)];go_simp)
 clear hHeld hK K hcx hfx;rename_i hHeld
 clear h12 hb12 H10 H11
 refine wpAnyH_ready (rs:=[9]) (by kernel_rfl) (by simp) ?_
 refine AllReadyH.cons rfl (fun K hK=>?_) AllReadyH.nil;go_simp
 refine (imul_any _ _ _ _ _ _ _ _ _ _ _ ?_ ?_ fq.sm fq'.sm (fq.mulok _)).mono ?_
 ·exact I6.out.hz.at_.below Bel.go
 ·exact I8.out.hz.at_.below Bel.go
 rintro e w13 ⟨n13,A13,l13,c13,rfl,h13,hb13⟩
 have e13:(q:Int)*(q':Int)=(DD:Int):=by rw [HDD.out,Int.natCast_mul]
 rw [e13] at h13
 obtain ⟨hcx,hfx⟩:=bcellS hb13
 replace R4:=Lib.hid (R4.out.move (Below.trans Bel.go (hb13.mono (by simp<;>omega))))
 replace Hb:=Lib.hid (Hb.out.trans ((Below.trans Bel.go (hb13.mono (by simp<;>omega))).mono Hb.out.size))
 replace H12:=Lib.hid (H12.out.below (Below.trans Bel.go (hb13.mono (by simp<;>omega))))
 have H13:=Lib.hid h13
 refine hK.out _ _ ?_ (fun _=>?_)
 ·((try dsimp only);repeat' apply And.intro)<;>(rw [hcx _ (by go_simp)];go_simp)
 clear hHeld hK K hcx hfx;rename_i hHeld
 clear h13 hb13 e13
 refine wpAnyH_ready (rs:=[10]) (by kernel_rfl) (by simp) ?_
 refine AllReadyH.cons rfl (fun K hK=>?_) AllReadyH.nil;go_simp
 refine (reduce_all _ _ _ _ (S1-S2) _ _ _ _ DD _ (H12.out.below Bel.go) (H13.out.below Bel.go) sS sD hD0).mono ?_
 rintro e w14 ⟨⟨n14,A14,l14,c14,B14,m14,d14,rfl,h14,k14⟩,hb14⟩
 obtain ⟨hcx,hfx⟩:=bcellS hb14
 have j4:=R4.out.move (Below.trans Bel.go (hb14.mono (by simp<;>omega)))
 have Jb2:=Lib.hid (Hb.out.trans ((Below.trans Bel.go (hb14.mono (by simp<;>omega))).mono Hb.out.size))
 refine hK.out _ _ ?_ (fun _=>?_)
 ·((try dsimp only);repeat' apply And.intro)<;>(rw [hcx _ (by go_simp)];go_simp)
 clear hHeld hK K hcx hfx;rename_i hHeld
 refine wpAnyH_done (by kernel_rfl) (lastQ_list rfl ?_) _
 have HP:=Lib.hid (j4.put h14 k14)
 have r0:=j4.c0
 have r1:=j4.c1
 have r2:=j4.c2
 have r3:=j4.f0
 have r4:=j4.f1
 have r5:=j4.f2
 clear hHeld j4 h14 k14 hb14 a0 a1 b0 b1 d0 d1 e0 e1
 go_wp2
 refine bodyPost_ret (v:=.agg #[.bool n14,.slice A14 l14 c14,.slice B14 m14 d14]) (by simp [results,Tryz.results28,go_sem,r0,r1,r2]) rfl ⟨⟨_,_,_,_,_,_,_,rfl,HP.out.hz,HP.out.hq⟩,?_⟩
 exact ((Jb2.out.setCell (p:=⟨g4,0,none⟩) (by simp;omega) _).setCell (p:=⟨g4,1,none⟩) (by simp;omega) _).setCell (p:=⟨g4,2,none⟩) (by simp;omega) _
end Go.Proofs.YtppggpfcdgilmaaGreat
namespace Go.Proofs.YtppggpfcdgilmaaGreat
open Go.RowKit
set_option maxRecDepth 100000 in
set_option maxHeartbeats 8000000 in
theorem radd_any (n:Bool) (A:Option Addr) (l c:Nat) (B:Option Addr) (m d q:Nat) (z:Int) (n':Bool) (A':Option Addr) (l' c':Nat) (B':Option Addr) (m' d' q':Nat) (z':Int) (w:World) (hz:IntN w n A l c z) (hq:NatN w B m d q) (hz':IntN w n' A' l' c' z') (hq':NatN w B' m' d' q') (fz:Fit z) (fq:Fit (q:Int)) (h0:0<q) (fz':Fit z') (fq':Fit (q':Int)) (h0':0<q') :
 Calls Tryz.prog 44 #[.agg #[.bool n,.slice A l c,.slice B m d],.agg #[.bool n',.slice A' l' c',.slice B' m' d']] w fun e w'=>RatE ((z*(q':Int)+z'*(q:Int)).tdiv (Nat.gcd (z*(q':Int)+z'*(q:Int)).natAbs (q*q'))) (q*q' / Nat.gcd (z*(q':Int)+z'*(q:Int)).natAbs (q*q')) e w'∧Below w.heap.size w w':=by
 have sq:=fq.smnat
 have sq':=fq'.smnat
 obtain ⟨S1,hS1⟩:∃ S1,S1=z*(q':Int):=⟨_,rfl⟩
 obtain ⟨S2,hS2⟩:∃ S2,S2=z'*(q:Int):=⟨_,rfl⟩
 obtain ⟨DD,hDD⟩:∃ DD,DD=q*q':=⟨_,rfl⟩
 have ss1:SmI S1:=by rw [hS1];exact fz.sm2 fq'
 have ss2:SmI S2:=by rw [hS2];exact fz'.sm2 fq
 have ssum:Sm (S1.natAbs+S2.natAbs):=by
  have a1:=fz.mul fq'
  have a2:=fz'.mul fq
  rw [← hS1] at a1
  rw [← hS2] at a2
  refine sm_pow (k:=FW+FW+1) ?_ (by rw [FW_eq];decide)
  have a3:2*BB^(FW+FW)<BB^(FW+FW+1):=mulpow_lt (by omega)
  omega
 have sS:SmI (S1+S2):=Sm.mono ssum (by omega)
 have sqq:SmI ((q:Int)*(q':Int)):=fq.sm2 fq'
 have sD:SmI (DD:Int):=by rw [hDD,Int.natCast_mul];exact sqq
 have hD0:0<DD:=by rw [hDD];exact Nat.mul_pos h0 h0'
 rw [← hS1,← hS2,← hDD]
 have HS1:=Lib.hid hS1
 have HS2:=Lib.hid hS2
 have HDD:=Lib.hid hDD
 clear hS1 hS2 hDD
 have o1:=new_below w (rbox n A l c B m d)
 have o2:=new_below (w.alloc (rbox n A l c B m d)) (rbox n' A' l' c' B' m' d')
 have o3:=new_below ((w.alloc (rbox n A l c B m d)).alloc (rbox n' A' l' c' B' m' d')) (rbox false none 0 0 none 0 0)
 have b3:Below w.heap.size w (((w.alloc (rbox n A l c B m d)).alloc (rbox n' A' l' c' B' m' d')).alloc (rbox false none 0 0 none 0 0)):=(o1.alloc (by simp) _).alloc (by simp;omega) _
 have R1:=((RBox.make hz hq).move o2).move o3
 have R2:=(RBox.make (hz'.below o1) (hq'.below o1)).move o3
 have R4:=RBox.nil ((w.alloc (rbox n A l c B m d)).alloc (rbox n' A' l' c' B' m' d'))
 simp only [World.size_alloc] at R2 R4
 replace R1:=Lib.hid R1
 replace R2:=Lib.hid R2
 replace R4:=Lib.hid R4
 have Hb:=Lib.hid b3
 clear o1 o2 o3 b3 hz hq hz' hq'
 go_enter Tryz.func44,Tryz.ntmps44
 go_wp2_with fail
 refine (parts_any _ _ _ _ _ _ _ _ _ R1.out.hq.at_ sq (by omega)).mono ?_
 rintro e w1 ⟨rfl,hb1⟩
 replace R1:=Lib.hid (R1.out.move hb1)
 replace R2:=Lib.hid (R2.out.move hb1)
 replace R4:=Lib.hid (R4.out.move hb1)
 replace Hb:=Lib.hid (Hb.out.trans (hb1.mono Hb.out.size))
 have lt4:w.heap.size+1+1<w1.heap.size:=R4.out.lt
 have x0:=R2.out.c0
 have x1:=R2.out.c1
 have x2:=R2.out.c2
 have ltx:w.heap.size+1<w1.heap.size:=by omega
 have lty:w.heap.size+1<w1.heap.size+1:=by omega
 clear hb1
 go_wp2_with fail
 have k1:=new_below w1 (ibox n A l c)
 have k2:=new_below (w1.alloc (ibox n A l c)) (ibox false B m d)
 have kb:Below w1.heap.size w1 ((w1.alloc (ibox n A l c)).alloc (ibox false B m d)):=k1.alloc (by simp) _
 have i5:=(IBox.make R1.out.hz).move k2
 have hqP:IntN w1 false B m d (q:Int):=⟨by rw [Int.natAbs_natCast];exact R1.out.hq,by simp⟩
 have i6:=IBox.make (hqP.below k1)
 simp only [World.size_alloc] at i6
 replace R2:=Lib.hid (R2.out.move kb)
 replace R4:=Lib.hid (R4.out.move kb)
 replace Hb:=Lib.hid (Hb.out.trans (kb.mono Hb.out.size))
 have I5:=Lib.hid i5
 have I6:=Lib.hid i6
 clear k1 k2 kb i5 i6 hqP R1 x0 x1 x2
 refine (parts_any _ _ _ _ _ _ _ _ _ R2.out.hq.at_ sq' (by omega)).mono ?_
 rintro e w2 ⟨rfl,hb2⟩
 have hsz2:=hb2.size
 simp only [World.size_alloc] at hsz2
 replace I5:=Lib.hid (I5.out.move hb2)
 replace I6:=Lib.hid (I6.out.move hb2)
 replace R2:=Lib.hid (R2.out.move hb2)
 replace R4:=Lib.hid (R4.out.move hb2)
 replace Hb:=Lib.hid (Hb.out.trans (hb2.mono Hb.out.size))
 have k1:=new_below w2 (ibox n' A' l' c')
 have k2:=new_below (w2.alloc (ibox n' A' l' c')) (ibox false B' m' d')
 have kb:Below w2.heap.size w2 ((w2.alloc (ibox n' A' l' c')).alloc (ibox false B' m' d')):=k1.alloc (by simp) _
 have i7:=(IBox.make R2.out.hz).move k2
 have hqP:IntN w2 false B' m' d' (q':Int):=⟨by rw [Int.natAbs_natCast];exact R2.out.hq,by simp⟩
 have i8:=IBox.make (hqP.below k1)
 simp only [World.size_alloc] at i8
 replace I5:=Lib.hid (I5.out.move kb)
 replace I6:=Lib.hid (I6.out.move kb)
 replace R4:=Lib.hid (R4.out.move kb)
 replace Hb:=Lib.hid (Hb.out.trans (kb.mono Hb.out.size))
 have I7:=Lib.hid i7
 have I8:=Lib.hid i8
 clear k1 k2 kb i7 i8 hqP R2 hb2
 obtain ⟨wc,hwc⟩:∃ wc,wc=(w2.alloc (ibox n' A' l' c')).alloc (ibox false B' m' d'):=⟨_,rfl⟩
 have hszc:wc.heap.size=w2.heap.size+1+1:=by rw [hwc];simp
 go_wp2_with fail
 rw [← hwc] at I5 I6 I7 I8 R4 Hb ⊢
 clear hwc
 obtain ⟨g4,hg4⟩:∃ g,g=w.heap.size+1+1:=⟨_,rfl⟩
 obtain ⟨g5,hg5⟩:∃ g,g=w1.heap.size:=⟨_,rfl⟩
 obtain ⟨g6,hg6⟩:∃ g,g=w1.heap.size+1:=⟨_,rfl⟩
 obtain ⟨g7,hg7⟩:∃ g,g=w2.heap.size:=⟨_,rfl⟩
 obtain ⟨g8,hg8⟩:∃ g,g=w2.heap.size+1:=⟨_,rfl⟩
 rw [← hg4] at R4
 rw [← hg5] at I5
 rw [← hg6] at I6
 rw [← hg7] at I7
 rw [← hg8] at I8
 rw [← hg4,← hg6,← hg5,← hg8,← hg7]
 have l4:g4<wc.heap.size:=by omega
 have l4w:w.heap.size<g4:=by omega
 have l5:g5<wc.heap.size:=by omega
 have l6:g6<wc.heap.size:=by omega
 have l7:g7<wc.heap.size:=by omega
 have l8:g8<wc.heap.size:=by omega
 clear hg4 hg5 hg6 hg7 hg8 hszc hsz2 lt4 ltx lty
 have a0:=I5.out.c0
 have a1:=I5.out.c1
 have b0:=I6.out.c0
 have b1:=I6.out.c1
 have d0:=I7.out.c0
 have d1:=I7.out.c1
 have e0:=I8.out.c0
 have e1:=I8.out.c1
 refine wp_region_last (S:=fun w'=>w'.cell? ⟨g5,0,none⟩=some (.bool n)∧w'.cell? ⟨g5,1,none⟩=some (.slice A l c)∧w'.cell? ⟨g6,0,none⟩=some (.bool false)∧w'.cell? ⟨g6,1,none⟩=some (.slice B m d)∧w'.cell? ⟨g7,0,none⟩=some (.bool n')∧w'.cell? ⟨g7,1,none⟩=some (.slice A' l' c')∧w'.cell? ⟨g8,0,none⟩=some (.bool false)∧w'.cell? ⟨g8,1,none⟩=some (.slice B' m' d')) (by kernel_rfl) (by kernel_rfl) (by (try dsimp only);go_keep) (fun hHeld=>?_)
 simp only [List.pop_toArray,List.dropLast]
 (refine tk (i:=0) (v:=?_) rfl rfl (Or.inl ⟨by rfl,?_⟩) ?_;rotate_left;(focus (intro w hSw;(try dsimp only at hSw);go_simp;(try with_reducible rfl)));(simp only [put_lit,List.set]))
 (refine tk (i:=1) (v:=?_) rfl rfl (Or.inl ⟨by rfl,?_⟩) ?_;rotate_left;(focus (intro w hSw;(try dsimp only at hSw);go_simp;(try with_reducible rfl)));(simp only [put_lit,List.set]))
 (refine tk (i:=3) (v:=?_) rfl rfl (Or.inl ⟨by rfl,?_⟩) ?_;rotate_left;(focus (intro w hSw;(try dsimp only at hSw);go_simp;(try with_reducible rfl)));(simp only [put_lit,List.set]))
 (refine tk (i:=4) (v:=?_) rfl rfl (Or.inl ⟨by rfl,?_⟩) ?_;rotate_left;(focus (intro w hSw;(try dsimp only at hSw);go_simp;(try with_reducible rfl)));(simp only [put_lit,List.set]))
 (refine tk (i:=7) (v:=?_) rfl rfl (Or.inl ⟨by rfl,?_⟩) ?_;rotate_left;(focus (intro w hSw;(try dsimp only at hSw);go_simp;(try with_reducible rfl)));(simp only [put_lit,List.set]))
 (refine tk (i:=8) (v:=?_) rfl rfl (Or.inl ⟨by rfl,?_⟩) ?_;rotate_left;(focus (intro w hSw;(try dsimp only at hSw);go_simp;(try with_reducible rfl)));(simp only [put_lit,List.set]))
 refine wpAnyH_ready (rs:=[2]) (by kernel_rfl) (by simp) ?_
 refine AllReadyH.cons rfl (fun K hK=>?_) AllReadyH.nil;go_simp
 refine (imul_any _ _ _ _ _ _ _ _ _ _ _ ?_ ?_ fz.sm fq'.sm (fz.mulok _)).mono ?_
 ·exact I5.out.hz.at_.below Bel.go
 ·exact I8.out.hz.at_.below Bel.go
 rintro e w10 ⟨n10,A10,l10,c10,rfl,h10,hb10⟩
 rw [← HS1.out] at h10
 obtain ⟨hcx,hfx⟩:=bcellS hb10
 replace I6:=Lib.hid (I6.out.move (Below.trans Bel.go (hb10.mono (by simp<;>omega))))
 replace I7:=Lib.hid (I7.out.move (Below.trans Bel.go (hb10.mono (by simp<;>omega))))
 replace I8:=Lib.hid (I8.out.move (Below.trans Bel.go (hb10.mono (by simp<;>omega))))
 replace R4:=Lib.hid (R4.out.move (Below.trans Bel.go (hb10.mono (by simp<;>omega))))
 replace Hb:=Lib.hid (Hb.out.trans ((Below.trans Bel.go (hb10.mono (by simp<;>omega))).mono Hb.out.size))
 have H10:=Lib.hid h10
 refine hK.out _ _ ?_ (fun _=>?_)
 ·((try dsimp only);repeat' apply And.intro)<;>(rw [hcx _ (by go_simp)];go_simp)
 clear hHeld hK K hcx hfx;rename_i hHeld
 clear h10 hb10
 refine wpAnyH_ready (rs:=[5]) (by kernel_rfl) (by simp) ?_
 refine AllReadyH.cons rfl (fun K hK=>?_) AllReadyH.nil;go_simp
 refine (imul_any _ _ _ _ _ _ _ _ _ _ _ ?_ ?_ fz'.sm fq.sm (fz'.mulok _)).mono ?_
 ·exact I7.out.hz.at_.below Bel.go
 ·exact I6.out.hz.at_.below Bel.go
 rintro e w11 ⟨n11,A11,l11,c11,rfl,h11,hb11⟩
 rw [← HS2.out] at h11
 obtain ⟨hcx,hfx⟩:=bcellS hb11
 replace I6:=Lib.hid (I6.out.move (Below.trans Bel.go (hb11.mono (by simp<;>omega))))
 replace I8:=Lib.hid (I8.out.move (Below.trans Bel.go (hb11.mono (by simp<;>omega))))
 replace R4:=Lib.hid (R4.out.move (Below.trans Bel.go (hb11.mono (by simp<;>omega))))
 replace Hb:=Lib.hid (Hb.out.trans ((Below.trans Bel.go (hb11.mono (by simp<;>omega))).mono Hb.out.size))
 replace H10:=Lib.hid (H10.out.below (Below.trans Bel.go (hb11.mono (by simp<;>omega))))
 have H11:=Lib.hid h11
 refine hK.out _ _ ?_ (fun _=>?_)
 ·((try dsimp only);repeat' apply And.intro)<;>(rw [hcx _ (by go_simp)];go_simp)
 clear hHeld hK K hcx hfx;rename_i hHeld
 clear h11 hb11
 refine wpAnyH_ready (rs:=[6]) (by kernel_rfl) (by simp) ?_
 refine AllReadyH.cons rfl (fun K hK=>?_) AllReadyH.nil;go_simp
 refine (iadd_any _ _ _ _ S1 _ _ _ _ S2 _ (H10.out.at_.below Bel.go) (H11.out.at_.below Bel.go) ss1 ss2 ssum).mono ?_
 rintro e w12 ⟨n12,A12,l12,c12,rfl,h12,hb12⟩
 obtain ⟨hcx,hfx⟩:=bcellS hb12
 replace I6:=Lib.hid (I6.out.move (Below.trans Bel.go (hb12.mono (by simp<;>omega))))
 replace I8:=Lib.hid (I8.out.move (Below.trans Bel.go (hb12.mono (by simp<;>omega))))
 replace R4:=Lib.hid (R4.out.move (Below.trans Bel.go (hb12.mono (by simp<;>omega))))
 replace Hb:=Lib.hid (Hb.out.trans ((Below.trans Bel.go (hb12.mono (by simp<;>omega))).mono Hb.out.size))
 have H12:=Lib.hid h12
 refine hK.out _ _ ?_ (fun _=>?_)
 ·((try dsimp only);repeat' apply And.intro)<;>(rw [hcx _ (by go_simp)];go_simp)
 clear hHeld hK K hcx hfx;rename_i hHeld
 clear h12 hb12 H10 H11
 refine wpAnyH_ready (rs:=[9]) (by kernel_rfl) (by simp) ?_
 refine AllReadyH.cons rfl (fun K hK=>?_) AllReadyH.nil;go_simp
 refine (imul_any _ _ _ _ _ _ _ _ _ _ _ ?_ ?_ fq.sm fq'.sm (fq.mulok _)).mono ?_
 ·exact I6.out.hz.at_.below Bel.go
 ·exact I8.out.hz.at_.below Bel.go
 rintro e w13 ⟨n13,A13,l13,c13,rfl,h13,hb13⟩
 have e13:(q:Int)*(q':Int)=(DD:Int):=by rw [HDD.out,Int.natCast_mul]
 rw [e13] at h13
 obtain ⟨hcx,hfx⟩:=bcellS hb13
 replace R4:=Lib.hid (R4.out.move (Below.trans Bel.go (hb13.mono (by simp<;>omega))))
 replace Hb:=Lib.hid (Hb.out.trans ((Below.trans Bel.go (hb13.mono (by simp<;>omega))).mono Hb.out.size))
 replace H12:=Lib.hid (H12.out.below (Below.trans Bel.go (hb13.mono (by simp<;>omega))))
 have H13:=Lib.hid h13
 refine hK.out _ _ ?_ (fun _=>?_)
 ·((try dsimp only);repeat' apply And.intro)<;>(rw [hcx _ (by go_simp)];go_simp)
 clear hHeld hK K hcx hfx;rename_i hHeld
 clear h13 hb13 e13
 refine wpAnyH_ready (rs:=[10]) (by kernel_rfl) (by simp) ?_
 refine AllReadyH.cons rfl (fun K hK=>?_) AllReadyH.nil;go_simp
 refine (reduce_all _ _ _ _ (S1+S2) _ _ _ _ DD _ (H12.out.below Bel.go) (H13.out.below Bel.go) sS sD hD0).mono ?_
 rintro e w14 ⟨⟨n14,A14,l14,c14,B14,m14,d14,rfl,h14,k14⟩,hb14⟩
 obtain ⟨hcx,hfx⟩:=bcellS hb14
 have j4:=R4.out.move (Below.trans Bel.go (hb14.mono (by simp<;>omega)))
 have Jb2:=Lib.hid (Hb.out.trans ((Below.trans Bel.go (hb14.mono (by simp<;>omega))).mono Hb.out.size))
 refine hK.out _ _ ?_ (fun _=>?_)
 ·((try dsimp only);repeat' apply And.intro)<;>(rw [hcx _ (by go_simp)];go_simp)
 clear hHeld hK K hcx hfx;rename_i hHeld
 refine wpAnyH_done (by kernel_rfl) (lastQ_list rfl ?_) _
 have HP:=Lib.hid (j4.put h14 k14)
 have r0:=j4.c0
 have r1:=j4.c1
 have r2:=j4.c2
 have r3:=j4.f0
 have r4:=j4.f1
 have r5:=j4.f2
 clear hHeld j4 h14 k14 hb14 a0 a1 b0 b1 d0 d1 e0 e1
 go_wp2
 refine bodyPost_ret (v:=.agg #[.bool n14,.slice A14 l14 c14,.slice B14 m14 d14]) (by simp [results,Tryz.results44,go_sem,r0,r1,r2]) rfl ⟨⟨_,_,_,_,_,_,_,rfl,HP.out.hz,HP.out.hq⟩,?_⟩
 exact ((Jb2.out.setCell (p:=⟨g4,0,none⟩) (by simp;omega) _).setCell (p:=⟨g4,1,none⟩) (by simp;omega) _).setCell (p:=⟨g4,2,none⟩) (by simp;omega) _
end Go.Proofs.YtppggpfcdgilmaaGreat
namespace Go.Proofs.YtppggpfcdgilmaaGreat
open Go.RowKit
def Fq.sub (a b:Fq):Fq:=⟨(a.z*(b.q:Int)-b.z*(a.q:Int)).tdiv (Nat.gcd (a.z*(b.q:Int)-b.z*(a.q:Int)).natAbs (a.q*b.q)),a.q*b.q / Nat.gcd (a.z*(b.q:Int)-b.z*(a.q:Int)).natAbs (a.q*b.q)⟩
def Fq.add (a b:Fq):Fq:=⟨(a.z*(b.q:Int)+b.z*(a.q:Int)).tdiv (Nat.gcd (a.z*(b.q:Int)+b.z*(a.q:Int)).natAbs (a.q*b.q)),a.q*b.q / Nat.gcd (a.z*(b.q:Int)+b.z*(a.q:Int)).natAbs (a.q*b.q)⟩
theorem fit_one:Fit 1:=zb_fit (z:=1) (Nat.le_trans (by decide) zb_128)
theorem fit_onen:Fit ((1:Nat):Int):=fit_one
structure Sz (k:Nat) (a:Fq):Prop where
 p:0<a.q
 z:a.z.natAbs≤BB^k
 q:a.q≤BB^k
section
variable {a b:Fq} {j k:Nat}
theorem FqB.sz (h:FqB a):Sz ZK a:=⟨h.p,h.z,h.q⟩
theorem Sz.fz (h:Sz k a) (hk:k<FW):Fit a.z:=Nat.lt_of_le_of_lt h.z (Nat.pow_lt_pow_right (by rw [BB_eq];decide) hk)
theorem Sz.fq (h:Sz k a) (hk:k<FW):Fit (a.q:Int):=by
 unfold Fit
 rw [Int.natAbs_natCast]
 exact Nat.lt_of_le_of_lt h.q (Nat.pow_lt_pow_right (by rw [BB_eq];decide) hk)
theorem sz_le {Z D j k:Nat} (h1:Z≤BB^j) (h2:D≤BB^k):Z*D≤BB^(j+k):=by
 rw [Nat.pow_add]
 exact Nat.mul_le_mul h1 h2
theorem Sz.red (z:Int) (q:Nat) (h0:0<q) (hz:z.natAbs≤BB^k) (hq:q≤BB^k):Sz k ⟨rz z q,rq z q⟩:=by
 refine ⟨(nf_v (z:=z) h0).2.1,?_,?_⟩
 ·show (rz z q).natAbs≤_
  unfold rz
  rw [Int.natAbs_tdiv]
  exact Nat.le_trans (Nat.div_le_self _ _) hz
 ·show rq z q≤_
  unfold rq
  exact Nat.le_trans (Nat.div_le_self _ _) hq
theorem Sz.two (ha:Sz j a) (hb:Sz k b):(a.z*(b.q:Int)).natAbs+(b.z*(a.q:Int)).natAbs≤BB^(j+k+1)∧a.q*b.q≤BB^(j+k+1):=by
 have h1:=sz_le ha.z hb.q
 have h2:=sz_le hb.z ha.q
 have h3:=sz_le ha.q hb.q
 rw [Nat.add_comm k j] at h2
 have h4:2*BB^(j+k)≤BB^(j+k+1):=by
  rw [Nat.pow_succ,Nat.mul_comm]
  exact Nat.mul_le_mul_left _ (by rw [BB_eq];decide)
 rw [Int.natAbs_mul,Int.natAbs_mul,Int.natAbs_natCast,Int.natAbs_natCast]
 omega
theorem Sz.sub (ha:Sz j a) (hb:Sz k b):Sz (j+k+1) (a.sub b):=by
 obtain ⟨h1,h2⟩:=ha.two hb
 exact Sz.red _ _ (Nat.mul_pos ha.p hb.p) (by omega) h2
theorem Sz.add (ha:Sz j a) (hb:Sz k b):Sz (j+k+1) (a.add b):=by
 obtain ⟨h1,h2⟩:=ha.two hb
 exact Sz.red _ _ (Nat.mul_pos ha.p hb.p) (by omega) h2
end
end Go.Proofs.YtppggpfcdgilmaaGreat
namespace Go.Proofs.YtppggpfcdgilmaaGreat
open Go Go.RowKit
abbrev ratZero:Value:=.agg #[.bool false,.slice none 0 0,.slice none 0 0]
theorem info_rat:(Tryz.prog.info? 35).map (fun i=>(i.zero,i.size,i.bytes))=some (some ratZero,3,56):=by kernel_rfl
theorem rat_nd:∀ j,j<3→Nd (ratZero.cells[j]!):=fun j hj=>by
 match j,hj with
 | 0,_=>exact nd_bool _
 | 1,_=>exact nd_slice _ _ _
 | 2,_=>exact nd_slice _ _ _
theorem addr0 {w:World} {g:Nat} {vs:List Value} (h:∀ j v,vs[j]?=some v→w.cell? ⟨g,j,none⟩=some v):∀ (j:Nat) (u:Value),vs[j]?=some u→w.cell? ((⟨g,0,none⟩:Addr).add j)=some u:=fun j u hu=>by
 rw [Addr.add_lit,Nat.zero_add];exact h j u hu
theorem wpList_make_own (w:World) {ops:Array Oper} {rest:List Oper} {o:Oper} {a:Act} {Q:Exit→Act→World→Prop} (t e:TypeId) (E:Nat) (i0:TypeInfo) (z:Value) (ht:Tryz.prog.underlying t=some (.slice e)) (hi:Tryz.prog.info? e=some i0) (hz0:i0.zero=some z) (hz1:i0.size=E) (hz2:i0.bytes≤200) (hzs:z.cells.size=E) (hzn:∀ j,j<E→Nd (z.cells[j]!)) (hE:0<E)
 (hg:o.guard=none) (l c:Operand) (hop:o.op=Op.makeSlice t l c) (n:Nat) (hl:a.eval l=.int .i64 0) (hc:a.eval c=.int .i64 (n:Int)) (hn:n≤100000000)
 (hK:∀ w',OwnE Nd E e w.heap.size w' (.slice (some ⟨w.heap.size,0,none⟩) 0 n) []→Below w.heap.size w w'→w'.heap.size=w.heap.size+1→wpList Tryz.prog ops Q rest (a.put o.dst (.slice (some ⟨w.heap.size,0,none⟩) 0 n)) w') :
 wpList Tryz.prog ops Q (o :: rest) a w:=by
 refine wpList_plain hg fun K hK'=>?_
 have hbn:(i0.bytes:Int)*(n:Int)≤281474976710656:=by
  have:=Nat.mul_le_mul hz2 hn
  rw [← Int.natCast_mul]
  omega
 have hrun:=run_make (P:=Tryz.prog) w t e i0 z ht hi hz0 .i64 .i64 0 (n:Int) (by omega) (by omega) hbn (by omega)
 unfold Oper.wp
 simp [execOp,hop,hl,hc,hrun,Result.andThen]
 have hk:Blk (w.alloc (.cells (madeCells z.cells (n*i0.size)) e)) w.heap.size e (madeCells z.cells (n*i0.size)):=Blk.new w _ _
 refine hK' _ _ (hK _ (.inr ⟨_,0,n,_,rfl,Nat.le_refl _,by simp,Nat.zero_le _,fun j u hu=>by simp at hu,hk,by rw [size_madeCells,hz1],fun j hj=>?_⟩) ((Below.refl _ _).alloc (Nat.le_refl _) _) (by simp))
 have h1:j<n*i0.size:=by rw [hz1];exact hj
 refine ⟨z.cells[j % z.cells.size]!,?_,hzn _ (by rw [hzs];exact Nat.mod_lt _ hE)⟩
 unfold madeCells
 rw [Array.getElem?_map,Array.getElem?_range,if_pos h1]
 rfl
def gapp (rs:List (Fq×Fq)):Nat→List Fq
 | 0=>[(rs.getD 0 r00).1.sub ⟨1,1⟩]
 | k+1=>gapp rs k ++ [(rs.getD k r00).2.mid (rs.getD (k+1) r00).1]
theorem gapp_len (rs:List (Fq×Fq)):∀ k,(gapp rs k).length=k+1
 | 0=>rfl
 | k+1=>by rw [gapp,List.length_append,gapp_len rs k];rfl
open Classical in
noncomputable def gapl (rs:List (Fq×Fq)):List Fq :=
 if Sepa rs then (if rs.length=0 then [⟨0,1⟩] else gapp rs (rs.length-1) ++ [(rs.getD (rs.length-1) r00).2.add ⟨1,1⟩]) else []
def RatsE (gs:List Fq) (e:Ending) (w:World):Prop:=∃ A l c,e=.returned (.slice A l c)∧SlE 3 RatV w A l c gs
def GapI (rs:List (Fq×Fq)) (k B:Nat) (v:Value) (w:World):Prop:=∃ us,OwnE Nd 3 35 B w v us∧Lay (RatV w) (gapp rs k) us
theorem GapI.below {rs:List (Fq×Fq)} {k B:Nat} {v:Value} {w w':World} (h:GapI rs k B v w) (hb:Below w.heap.size w w'):GapI rs k B v w':=by
 obtain ⟨us,h1,h2⟩:=h
 exact ⟨us,h1.below hb,h2.mono fun x vs hx=>hx.below hb⟩
theorem gap_len {rs:List (Fq×Fq)} {k:Nat} {w:World} {us:List Value} (h:Lay (RatV w) (gapp rs k) us):us.length=(k+1)*3:=by
 rw [h.len fun x vs hx=>hx.len,gapp_len]
theorem rat_grown {xs ys:List Fq} {B:Nat} {v v':Value} {us vs:List Value} {w w':World} (h:GrE Nd 3 35 B w v us vs v' w') (hl:Lay (RatV w) xs us) (hy:Lay (RatV w) ys vs):Lay (RatV w') (xs ++ ys) (us ++ vs) :=
 h.lay hl hy (fun _ _ hb hx=>hx.below hb) (fun _ _ _ hf hn hx=>hx.frs hf (fun o u h=>(hn o u h).1) (fun o u h=>(hn o u h).1))
theorem lay_one {w:World} {a:Fq} {n:Bool} {A:Option Addr} {l c:Nat} {B:Option Addr} {m d:Nat} (hz:IntN w n A l c a.z) (hq:NatN w B m d a.q):RatV w a [.bool n,.slice A l c,.slice B m d]:=⟨n,A,l,c,B,m,d,rfl,hz,hq⟩
theorem Lay.one {α:Type} {R:α→List Value→Prop} {x:α} {vs:List Value} (h:R x vs):Lay R [x] vs:=⟨vs,[],h,by simp,rfl⟩
set_option maxRecDepth 100000 in
set_option maxHeartbeats 8000000 in
theorem gaps_any {w:World} {A:Option Addr} {la ca:Nat} {rs:List (Fq×Fq)} (hr:RtsAt w A la ca rs) (hfq:∀ r∈rs,FqB r.1∧FqB r.2) (hla:la≤1000) :
 Calls Tryz.prog 20 #[.slice A la ca] w fun e w'=>RatsE (gapl rs) e w'∧Below w.heap.size w w':=by
 obtain ⟨i0,hi,hz0,hz1,hz2⟩:=info_parts info_rat
 have Hrl:=Lib.hid hr.length
 have HRs:=Lib.hid hr
 have Hfq:=Lib.hid hfq
 clear hr
 obtain ⟨GL,hGL⟩:∃ G,G=gapl rs:=⟨_,rfl⟩
 rw [← hGL]
 unfold gapl at hGL
 have HG:=Lib.hid hGL
 clear hGL
 go_enter Tryz.func20,Tryz.ntmps20
 go_wp2_with fail
 refine (separate_any HRs.out hfq hla).mono ?_
 rintro e w1 ⟨he,hb1⟩
 have Hb:=Lib.hid hb1
 clear hb1 hfq
 by_cases hs:Sepa rs
 rotate_left
 ·have he2:=he.not hs
  subst he2
  have EG:=Lib.hid (show GL=[] by rw [HG.out,if_neg hs])
  clear he hs
  go_wp2_with fail
  go_ret
  rw [EG.out]
  exact ⟨⟨_,_,_,rfl,rfl,Nat.le_refl _,.inl ⟨rfl,rfl,rfl⟩⟩,Hb.out⟩
 have he2:=he.get hs
 subst he2
 have hG:=HG.out
 rw [if_pos hs] at hG
 replace HG:=Lib.hid hG
 clear he hs hG
 by_cases h0:la=0
 ·subst h0
  have EG:=Lib.hid (show GL=[⟨0,1⟩] by rw [HG.out,if_pos Hrl.out])
  go_wp2_with fail
  refine (rof_any 0 _ (by unfold I64;omega)).mono ?_
  rintro e w2 ⟨⟨n2,A2,l2,c2,B2,m2,d2,rfl,h2,k2⟩,hb2⟩
  have jb:=below_new w2 (.cells #[.bool n2,.slice A2 l2 c2,.slice B2 m2 d2] 35)
  have kb:=Blk.new w2 35 #[.bool n2,.slice A2 l2 c2,.slice B2 m2 d2]
  have FX:=Lib.hid (show RatsE GL (.returned (.slice (some ⟨w2.heap.size,0,none⟩) 1 1)) (w2.alloc (.cells #[.bool n2,.slice A2 l2 c2,.slice B2 m2 d2] 35)) from by
   rw [EG.out]
   refine ⟨_,_,_,rfl,rfl,Nat.le_refl _,.inr ⟨_,0,rfl,kb.lt,fun i x hx=>?_⟩⟩
   match i,hx with
   | 0,hx =>
     have e:x=⟨0,1⟩:=by simpa using hx.symm
     subst e
     exact ⟨_,(lay_one (a:=⟨0,1⟩) h2 k2).below jb,fun j v hv=>by rw [show 0+0*3+j=j by omega];exact newrow_cells w2 [.bool n2,.slice A2 l2 c2,.slice B2 m2 d2] _ j v hv⟩
   | i+1,hx=>simp at hx)
  replace Hb:=Lib.hid (Hb.out.trans ((hb2.trans (jb.mono hb2.size)).mono Hb.out.size))
  clear hb2 jb kb h2 k2
  go_wp2
  go_ret
  exact ⟨FX.out,Hb.out⟩
 have g1:((la:Int) == 0)=false:=by rw [beq_eq_false_iff_ne];omega
 have hG:=HG.out
 rw [if_neg (by rw [Hrl.out];exact h0),Hrl.out] at hG
 replace HG:=Lib.hid hG
 clear hG
 obtain ⟨b,o,rfl,hb0,hv0⟩:∃ b o,A=some ⟨b,o,none⟩∧b<w.heap.size∧Vals w b o rs:=by
  rcases HRs.out.elems with ⟨h1,_⟩ | h
  ·omega
  ·exact h
 have Hv:=Lib.hid hv0
 have hl1:0<la:=by omega
 have wl:IntKind.i64.wrap ((la:Int)+1)=((la+1:Nat):Int):=by rw [Int.natCast_add];exact IntWalk.i64_in _ (by omega)
 have hb0':b<w1.heap.size:=Nat.lt_of_lt_of_le hb0 Hb.out.size
 obtain ⟨n,A1,l1,c1,B1,m1,d1,n',A2,l2,c2,B2,m2,d2,e0,e1,e2,_,_,_,z1,z2,_,_⟩:=hv0.get (k:=0) (by rw [Hrl.out];omega)
 obtain ⟨fa,_⟩:=getD_fqb Hfq.out (k:=0) (by rw [Hrl.out];omega)
 clear hv0
 go_wp2_with (at_make;refine wpList_make_own _ 56 35 3 i0 ratZero Tryz.underlying56 hi hz0 hz1 (by rw [hz2];omega) rfl rat_nd (by decide) rfl _ _ rfl (la+1) rfl (by first | rfl | (simp;done)) (by omega) ?_)
 obtain ⟨B0,hB0⟩:∃ B,B=w1.heap.size:=⟨_,rfl⟩
 rw [← hB0]
 intro w2 ho hb2 hs2
 have hwB:w.heap.size≤B0:=by rw [hB0];exact Hb.out.size
 have hbB:b<B0:=by omega
 have hB2:B0≤w2.heap.size:=by omega
 have Hb2:=Lib.hid (Hb.out.trans (hb2.mono hwB))
 have hb2':Below B0 w1 w2:=hb2.mono (by omega)
 have c0:=(hb2'.cell (p:=⟨b,o+0*6,none⟩) hbB).trans ((Hb.out.cell (p:=⟨b,o+0*6,none⟩) hb0).trans e0)
 have c1':=(hb2'.cell (p:=⟨b,o+0*6+1,none⟩) hbB).trans ((Hb.out.cell (p:=⟨b,o+0*6+1,none⟩) hb0).trans e1)
 have c2':=(hb2'.cell (p:=⟨b,o+0*6+2,none⟩) hbB).trans ((Hb.out.cell (p:=⟨b,o+0*6+2,none⟩) hb0).trans e2)
 rw [Nat.zero_mul,Nat.add_zero] at c0 c1' c2'
 have Z1:=Lib.hid (z1.below Hb2.out)
 have Z2:=Lib.hid (z2.below Hb2.out)
 have HO:=Lib.hid ho
 have Hbs:=Lib.hid hb2'
 clear e0 e1 e2 z1 z2 ho hb2 hb2' hB0
 go_wp2_with fail
 refine wp_region_held_drew (S:=fun w'=>w'.cell? ⟨b,o,none⟩=some (.bool n)∧w'.cell? ⟨b,o+1,none⟩=some (.slice A1 l1 c1)∧w'.cell? ⟨b,o+2,none⟩=some (.slice B1 m1 d1)) (by kernel_rfl) (by (try dsimp only);go_keep) (fun hHeld=>?_)
 (refine tk (i:=0) (v:=?_) rfl rfl (Or.inl ⟨by rfl,?_⟩) ?_;rotate_left;(focus (intro w hSw;(try dsimp only at hSw);go_simp;(try with_reducible rfl)));(simp only [put_lit,List.set]))
 (refine tk (i:=1) (v:=?_) rfl rfl (Or.inl ⟨by rfl,?_⟩) ?_;rotate_left;(focus (intro w hSw;(try dsimp only at hSw);go_simp;(try with_reducible rfl)));(simp only [put_lit,List.set]))
 (refine tk (i:=2) (v:=?_) rfl rfl (Or.inl ⟨by rfl,?_⟩) ?_;rotate_left;(focus (intro w hSw;(try dsimp only at hSw);go_simp;(try with_reducible rfl)));(simp only [put_lit,List.set]))
 (refine tk (i:=3) (v:=?_) rfl rfl (Or.inl ⟨by rfl,?_⟩) ?_;rotate_left;(focus (intro w hSw;(try dsimp only at hSw);go_simp;(try with_reducible rfl)));(simp only [put_lit,List.set]))
 (refine tk (i:=4) (v:=?_) rfl rfl (Or.inl ⟨by rfl,?_⟩) ?_;rotate_left;(focus (intro w hSw;(try dsimp only at hSw);go_simp;(try with_reducible rfl)));(simp only [put_lit,List.set]))
 (refine wpAnyH_ready (rs:=[5]) (by kernel_rfl) (by simp) ?_;refine AllReadyH.cons rfl (fun K hK=>?_) AllReadyH.nil;go_simp)
 refine (rof_any 1 _ (by unfold I64;omega)).mono ?_
 rintro e w4 ⟨⟨n4,A4,l4,c4,B4,m4,d4,rfl,h4,k4⟩,hb4⟩
 have G4:=Lib.hid ((Below.trans Bel.go (hb4.mono (by simp<;>omega))):Below w2.heap.size w2 w4)
 have H4:=Lib.hid (And.intro h4 k4)
 obtain ⟨hcx,hfx⟩:=bcellS hb4;refine hK.out _ _ ?_ (fun _=>?_);(focus (((try dsimp only);repeat' apply And.intro)<;>(rw [hcx _ (by go_simp)];go_simp)));clear hHeld hK K hcx hfx;rename_i hHeld
 clear h4 k4 hb4
 (refine wpAnyH_ready (rs:=[6]) (by kernel_rfl) (by simp) ?_;refine AllReadyH.cons rfl (fun K hK=>?_) AllReadyH.nil;go_simp)
 refine (rsub_any _ _ _ _ _ _ _ _ _ _ _ _ _ _ _ _ _ _ _ ((Z1.out.below G4.out).below Bel.go) ((Z2.out.below G4.out).below Bel.go) (H4.out.1.below Bel.go) (H4.out.2.below Bel.go) fa.fz fa.fq fa.p fit_one fit_onen Nat.one_pos).mono ?_
 rintro e w5 ⟨⟨n5,A5,l5,c5,B5,m5,d5,rfl,h5,k5⟩,hb5⟩
 have G5:=Lib.hid (G4.out.trans (((Below.trans Bel.go (hb5.mono (by simp<;>omega))):Below w4.heap.size w4 w5).mono G4.out.size))
 have R5:=Lib.hid (lay_one (a:=(rs.getD 0 r00).1.sub ⟨1,1⟩) h5 k5)
 obtain ⟨hcx,hfx⟩:=bcellS hb5;refine hK.out _ _ ?_ (fun _=>?_);(focus (((try dsimp only);repeat' apply And.intro)<;>(rw [hcx _ (by go_simp)];go_simp)));clear hHeld hK K hcx hfx;rename_i hHeld
 clear h5 k5 hb5 H4
 refine wpAnyH_ready (rs:=[7]) (by kernel_rfl) (by simp) ?_;refine AllReadyH.cons rfl (fun K hK=>?_) AllReadyH.nil;go_simp;refine hK.out _ _ ?_ (fun _=>?_);(focus ((try dsimp only);go_keep));clear hHeld hK K;rename_i hHeld;(try (simp only [put_lit,List.set]))
 have G6:=Lib.hid (G5.out.trans ((below_new w5 (.cells #[.bool n5,.slice A5 l5 c5,.slice B5 m5 d5] 35)).mono G5.out.size))
 have R6:=Lib.hid (R5.out.below (below_new w5 (.cells #[.bool n5,.slice A5 l5 c5,.slice B5 m5 d5] 35)))
 obtain ⟨us,hus⟩:∃ us:List Value,us=[]:=⟨_,rfl⟩
 refine wpAnyH_ready (rs:=[8]) (by kernel_rfl) (by simp) ?_;refine AllReadyH.cons rfl (fun K hK=>?_) AllReadyH.nil;rw [if_pos (by rfl)];refine oper_append_own (.tmp 17) (.tmp 24) 56 35 rfl 3 i0 ratZero Tryz.underlying56 hi hz0 hz1 (by rw [hz2];omega) rfl Nd (fun _ h=>h) rat_nd (by decide) B0 _ us _ rfl (by rw [hus];exact HO.out.below G6.out) (by have:=G6.out.size;simp at this ⊢;omega) ⟨_,0,none⟩ 1 1 rfl rfl (addr0 (newrow_cells _ _ _)) R6.out.nd (.inl (by decide)) (by rw [hus];simp) 25 rfl ?_;intro v2 w9 hgr
 have hb9:=hgr.below (by have:=G6.out.size;simp at this ⊢;omega);refine hK.out _ _ ?_ (fun _=>?_);(focus (((try dsimp only);repeat' apply And.intro)<;>(rw [hb9.cell hbB];go_simp)));clear hHeld hK K;rename_i hHeld;(try (simp only [put_lit,List.set]))
 have HI:=Lib.hid (show GapI rs 0 B0 v2 w9 from ⟨_,hgr.1,rat_grown hgr (xs:=[]) (show us=[] from hus) (.one R6.out)⟩)
 have Hb9:=Lib.hid (Hb2.out.trans ((G6.out.mono Hb2.out.size).trans (hb9.mono hwB)))
 have hB9:B0≤w9.heap.size:=by have:=hb9.size;have:=G6.out.size;simp at *;omega
 clear hgr hb9 hus R5 R6 G4 G5 G6 HO Z1 Z2 hB2
 (refine tk (i:=9) (v:=?_) rfl rfl (Or.inl ⟨by rfl,?_⟩) ?_;rotate_left;(focus (intro w hSw;(try dsimp only at hSw);go_simp;(try with_reducible rfl)));(simp only [put_lit,List.set]))
 refine wpAnyH_done (by kernel_rfl) ?_ _
 clear hHeld c0 c1' c2' Hb2 Hbs fa hs2
 have HB9:=Lib.hid hB9
 clear hB9
 go_wp2_with fail
 go_loopw [3,4] (fun s3 s4 wr=>∃ k kk:Nat,kk=k+1∧kk≤la∧s4=.int .i64 (kk:Int)∧GapI rs k B0 s3 wr∧Below w.heap.size w wr∧B0≤wr.heap.size) (fun _ s4 _=>la-(intOf s4).toNat)
 case atStart=>exact ⟨0,1,rfl,hl1,rfl,HI.out,Hb9.out,HB9.out⟩
 case round =>
  obtain ⟨k,kk,hkk,hkl,rfl,hgi,hbw,hbr⟩:=hrel
  have HI:=Lib.hid hgi
  have Hbw:=Lib.hid hbw
  have HBr:=Lib.hid hbr
  clear hgi
  by_cases hlt:kk<la
  ·have Hkl:=Lib.hid hlt
   have ka:(kk:Int)<(la:Int):=by omega
   have e1:(kk:Int)-1=(k:Int):=by omega
   have i1:IntKind.i64.wrap (k:Int)=(k:Int):=IntWalk.i64_in _ (by omega)
   have i2:IntKind.i64.wrap ((kk:Int)+1)=(kk:Int)+1:=IntWalk.i64_in _ (by omega)
   have kb:(k:Int)<(la:Int):=by omega
   obtain ⟨_,_,_,_,_,_,_,n,A1,l1,c1,B1,m1,d1,_,_,_,e3,e4,e5,_,_,z3,z4⟩:=Hv.out.get (k:=k) (by rw [Hrl.out];omega)
   obtain ⟨n3,A3,l3,c3,B3,m3,d3,_,_,_,_,_,_,_,f0,f1,f2,_,_,_,y1,y2,_,_⟩:=Hv.out.get (k:=kk) (by rw [Hrl.out];omega)
   obtain ⟨_,fa⟩:=getD_fqb Hfq.out (k:=k) (by rw [Hrl.out];omega)
   obtain ⟨fb,_⟩:=getD_fqb Hfq.out (k:=kk) (by rw [Hrl.out];omega)
   have x3:=(hbw.cell (p:=⟨b,o+k*6+3,none⟩) hb0).trans e3
   have x4:=(hbw.cell (p:=⟨b,o+k*6+4,none⟩) hb0).trans e4
   have x5:=(hbw.cell (p:=⟨b,o+k*6+5,none⟩) hb0).trans e5
   have x0:=(hbw.cell (p:=⟨b,o+kk*6,none⟩) hb0).trans f0
   have x1:=(hbw.cell (p:=⟨b,o+kk*6+1,none⟩) hb0).trans f1
   have x2:=(hbw.cell (p:=⟨b,o+kk*6+2,none⟩) hb0).trans f2
   have hbr':b<wr.heap.size:=by omega
   have Z:=Lib.hid (And.intro (And.intro (z3.below hbw) (z4.below hbw)) (And.intro (y1.below hbw) (y2.below hbw)))
   have HKK:=Lib.hid hkk
   clear e3 e4 e5 f0 f1 f2 z3 z4 y1 y2 hbw hbr hkl hlt hkk
   go_wp2_with fail
   refine wp_region_held_drew (S:=fun w'=>w'.cell? ⟨b,o+k*6+3,none⟩=some (.bool n)∧w'.cell? ⟨b,o+k*6+4,none⟩=some (.slice A1 l1 c1)∧w'.cell? ⟨b,o+k*6+5,none⟩=some (.slice B1 m1 d1)∧w'.cell? ⟨b,o+kk*6,none⟩=some (.bool n3)∧w'.cell? ⟨b,o+kk*6+1,none⟩=some (.slice A3 l3 c3)∧w'.cell? ⟨b,o+kk*6+2,none⟩=some (.slice B3 m3 d3)) (by kernel_rfl) (by (try dsimp only);go_keep) (fun hHeld=>?_)
   (refine tk (i:=0) (v:=?_) rfl rfl (Or.inl ⟨by rfl,?_⟩) ?_;rotate_left;(focus (intro w hSw;(try dsimp only at hSw);go_simp;(try with_reducible rfl)));(simp only [put_lit,List.set]))
   (refine tk (i:=1) (v:=?_) rfl rfl (Or.inl ⟨by rfl,?_⟩) ?_;rotate_left;(focus (intro w hSw;(try dsimp only at hSw);go_simp;(try with_reducible rfl)));(simp only [put_lit,List.set]))
   (refine tk (i:=2) (v:=?_) rfl rfl (Or.inl ⟨by rfl,?_⟩) ?_;rotate_left;(focus (intro w hSw;(try dsimp only at hSw);go_simp;(try with_reducible rfl)));(simp only [put_lit,List.set]))
   (refine tk (i:=3) (v:=?_) rfl rfl (Or.inl ⟨by rfl,?_⟩) ?_;rotate_left;(focus (intro w hSw;(try dsimp only at hSw);go_simp;(try with_reducible rfl)));(simp only [put_lit,List.set]))
   (refine tk (i:=4) (v:=?_) rfl rfl (Or.inl ⟨by rfl,?_⟩) ?_;rotate_left;(focus (intro w hSw;(try dsimp only at hSw);go_simp;(try with_reducible rfl)));(simp only [put_lit,List.set]))
   (refine tk (i:=5) (v:=?_) rfl rfl (Or.inl ⟨by rfl,?_⟩) ?_;rotate_left;(focus (intro w hSw;(try dsimp only at hSw);go_simp;(try with_reducible rfl)));(simp only [put_lit,List.set]))
   (refine tk (i:=6) (v:=?_) rfl rfl (Or.inl ⟨by rfl,?_⟩) ?_;rotate_left;(focus (intro w hSw;(try dsimp only at hSw);go_simp;(try with_reducible rfl)));(simp only [put_lit,List.set]))
   (refine tk (i:=7) (v:=?_) rfl rfl (Or.inl ⟨by rfl,?_⟩) ?_;rotate_left;(focus (intro w hSw;(try dsimp only at hSw);go_simp;(try with_reducible rfl)));(simp only [put_lit,List.set]))
   (refine tk (i:=8) (v:=?_) rfl rfl (Or.inl ⟨by rfl,?_⟩) ?_;rotate_left;(focus (intro w hSw;(try dsimp only at hSw);go_simp;(try with_reducible rfl)));(simp only [put_lit,List.set]))
   (refine tk (i:=9) (v:=?_) rfl rfl (Or.inl ⟨by rfl,?_⟩) ?_;rotate_left;(focus (intro w hSw;(try dsimp only at hSw);go_simp;(try with_reducible rfl)));(simp only [put_lit,List.set]))
   (refine tk (i:=10) (v:=?_) rfl rfl (Or.inl ⟨by rfl,?_⟩) ?_;rotate_left;(focus (intro w hSw;(try dsimp only at hSw);go_simp;(try with_reducible rfl)));(simp only [put_lit,List.set]))
   (refine tk (i:=11) (v:=?_) rfl rfl (Or.inl ⟨by rfl,?_⟩) ?_;rotate_left;(focus (intro w hSw;(try dsimp only at hSw);go_simp;(try with_reducible rfl)));(simp only [put_lit,List.set]))
   (refine wpAnyH_ready (rs:=[12]) (by kernel_rfl) (by simp) ?_;refine AllReadyH.cons rfl (fun K hK=>?_) AllReadyH.nil;go_simp)
   refine (mid_any _ _ _ _ _ _ _ _ _ _ _ _ _ _ _ _ _ _ _ (Z.out.1.1.below Bel.go) (Z.out.1.2.below Bel.go) (Z.out.2.1.below Bel.go) (Z.out.2.2.below Bel.go) fa.fz fa.fq fa.p fb.fz fb.fq fb.p).mono ?_
   rintro e w5 ⟨⟨n5,A5,l5,c5,B5,m5,d5,rfl,h5,k5⟩,hb5⟩
   have G5:=Lib.hid ((Below.trans Bel.go (hb5.mono (by simp<;>omega))):Below wr.heap.size wr w5)
   have R5:=Lib.hid (lay_one (a:=(rs.getD k r00).2.mid (rs.getD kk r00).1) h5 k5)
   obtain ⟨hcx,hfx⟩:=bcellS hb5;refine hK.out _ _ ?_ (fun _=>?_);(focus (((try dsimp only);repeat' apply And.intro)<;>(rw [hcx _ (by go_simp)];go_simp)));clear hHeld hK K hcx hfx;rename_i hHeld
   clear h5 k5 hb5
   refine wpAnyH_ready (rs:=[13]) (by kernel_rfl) (by simp) ?_;refine AllReadyH.cons rfl (fun K hK=>?_) AllReadyH.nil;go_simp;refine hK.out _ _ ?_ (fun _=>?_);(focus ((try dsimp only);go_keep));clear hHeld hK K;rename_i hHeld;(try (simp only [put_lit,List.set]))
   have G6:=Lib.hid (G5.out.trans ((below_new w5 (.cells #[.bool n5,.slice A5 l5 c5,.slice B5 m5 d5] 35)).mono G5.out.size))
   have R6:=Lib.hid (R5.out.below (below_new w5 (.cells #[.bool n5,.slice A5 l5 c5,.slice B5 m5 d5] 35)))
   obtain ⟨us,ho,hl⟩:=HI.out.below G6.out
   have hul:=gap_len hl
   refine wpAnyH_ready (rs:=[14]) (by kernel_rfl) (by simp) ?_;refine AllReadyH.cons rfl (fun K hK=>?_) AllReadyH.nil;rw [if_pos (by rfl)];refine oper_append_own (.tmp 32) (.tmp 45) 56 35 rfl 3 i0 ratZero Tryz.underlying56 hi hz0 hz1 (by rw [hz2];omega) rfl Nd (fun _ h=>h) rat_nd (by decide) B0 _ us _ rfl (ho) (by have:=G6.out.size;have:=HBr.out;simp at *;omega) ⟨_,0,none⟩ 1 1 rfl rfl (addr0 (newrow_cells _ _ _)) R6.out.nd (.inl (by decide)) (by rw [hul];simp;omega) 46 rfl ?_;intro v2 w9 hgr
   have hb9:=hgr.below (by have:=G6.out.size;have:=HBr.out;simp at *;omega);refine hK.out _ _ ?_ (fun _=>?_);(focus (((try dsimp only);repeat' apply And.intro)<;>(rw [hb9.cell hbB];go_simp)));clear hHeld hK K;rename_i hHeld;(try (simp only [put_lit,List.set]))
   have HI2:=Lib.hid (show GapI rs (k+1) B0 v2 w9 from ⟨_,hgr.1,by
    have h:=rat_grown hgr hl (.one R6.out)
    rw [HKK.out] at h
    exact h⟩)
   have Hb9:=Lib.hid (Hbw.out.trans ((G6.out.mono Hbw.out.size).trans (hb9.mono hwB)))
   have HB9:=Lib.hid (show B0≤w9.heap.size by have:=hb9.size;have:=G6.out.size;have:=HBr.out;simp at *;omega)
   clear hgr hb9 R5 R6 G5 G6 HI Z ho hl hul
   (refine tk (i:=15) (v:=?_) rfl rfl (Or.inl ⟨by rfl,?_⟩) ?_;rotate_left;(focus (intro w hSw;(try dsimp only at hSw);go_simp;(try with_reducible rfl)));(simp only [put_lit,List.set]))
   refine wpAnyH_done (by kernel_rfl) ?_ _
   clear hHeld x0 x1 x2 x3 x4 x5
   go_wp2_with fail
   go_roundw
   case rel=>exact ⟨k+1,kk+1,by rw [HKK.out],Hkl.out,by go_num,HI2.out,Hb9.out,HB9.out⟩
   case measure=>have:=Hkl.out;simp [intOf];omega
  ·have hk2:kk=la:=by omega
   subst hk2
   have t1:¬ (kk:Int)<(kk:Int):=by omega
   have e1:(kk:Int)-1=(k:Int):=by omega
   have i1:IntKind.i64.wrap (k:Int)=(k:Int):=IntWalk.i64_in _ (by omega)
   have kb:(k:Int)<(kk:Int):=by omega
   obtain ⟨_,_,_,_,_,_,_,n,A1,l1,c1,B1,m1,d1,_,_,_,e3,e4,e5,_,_,z3,z4⟩:=Hv.out.get (k:=k) (by rw [Hrl.out];omega)
   obtain ⟨_,fa⟩:=getD_fqb Hfq.out (k:=k) (by rw [Hrl.out];omega)
   have x3:=(hbw.cell (p:=⟨b,o+k*6+3,none⟩) hb0).trans e3
   have x4:=(hbw.cell (p:=⟨b,o+k*6+4,none⟩) hb0).trans e4
   have x5:=(hbw.cell (p:=⟨b,o+k*6+5,none⟩) hb0).trans e5
   have hbr':b<wr.heap.size:=by omega
   have Z:=Lib.hid (And.intro (z3.below hbw) (z4.below hbw))
   have EG:=Lib.hid (show GL=gapp rs k ++ [(rs.getD k r00).2.add ⟨1,1⟩] by rw [HG.out,show kk-1=k by omega])
   have hk100:k≤1000:=by omega
   clear e3 e4 e5 z3 z4 hbw hbr hlt hkk hkl
   go_wp2_with fail
   refine wp_region_held_drew (S:=fun w'=>w'.cell? ⟨b,o+k*6+3,none⟩=some (.bool n)∧w'.cell? ⟨b,o+k*6+4,none⟩=some (.slice A1 l1 c1)∧w'.cell? ⟨b,o+k*6+5,none⟩=some (.slice B1 m1 d1)) (by kernel_rfl) (by (try dsimp only);go_keep) (fun hHeld=>?_)
   (refine tk (i:=0) (v:=?_) rfl rfl (Or.inl ⟨by rfl,?_⟩) ?_;rotate_left;(focus (intro w hSw;(try dsimp only at hSw);go_simp;(try with_reducible rfl)));(simp only [put_lit,List.set]))
   (refine tk (i:=1) (v:=?_) rfl rfl (Or.inl ⟨by rfl,?_⟩) ?_;rotate_left;(focus (intro w hSw;(try dsimp only at hSw);go_simp;(try with_reducible rfl)));(simp only [put_lit,List.set]))
   (refine tk (i:=2) (v:=?_) rfl rfl (Or.inl ⟨by rfl,?_⟩) ?_;rotate_left;(focus (intro w hSw;(try dsimp only at hSw);go_simp;(try with_reducible rfl)));(simp only [put_lit,List.set]))
   (refine tk (i:=3) (v:=?_) rfl rfl (Or.inl ⟨by rfl,?_⟩) ?_;rotate_left;(focus (intro w hSw;(try dsimp only at hSw);go_simp;(try with_reducible rfl)));(simp only [put_lit,List.set]))
   (refine tk (i:=4) (v:=?_) rfl rfl (Or.inl ⟨by rfl,?_⟩) ?_;rotate_left;(focus (intro w hSw;(try dsimp only at hSw);go_simp;(try with_reducible rfl)));(simp only [put_lit,List.set]))
   (refine tk (i:=5) (v:=?_) rfl rfl (Or.inl ⟨by rfl,?_⟩) ?_;rotate_left;(focus (intro w hSw;(try dsimp only at hSw);go_simp;(try with_reducible rfl)));(simp only [put_lit,List.set]))
   (refine tk (i:=6) (v:=?_) rfl rfl (Or.inl ⟨by rfl,?_⟩) ?_;rotate_left;(focus (intro w hSw;(try dsimp only at hSw);go_simp;(try with_reducible rfl)));(simp only [put_lit,List.set]))
   (refine tk (i:=7) (v:=?_) rfl rfl (Or.inl ⟨by rfl,?_⟩) ?_;rotate_left;(focus (intro w hSw;(try dsimp only at hSw);go_simp;(try with_reducible rfl)));(simp only [put_lit,List.set]))
   (refine wpAnyH_ready (rs:=[8]) (by kernel_rfl) (by simp) ?_;refine AllReadyH.cons rfl (fun K hK=>?_) AllReadyH.nil;go_simp)
   refine (rof_any 1 _ (by unfold I64;omega)).mono ?_
   rintro e w4 ⟨⟨n4,A4,l4,c4,B4,m4,d4,rfl,h4,k4⟩,hb4⟩
   have G4:=Lib.hid ((Below.trans Bel.go (hb4.mono (by simp<;>omega))):Below wr.heap.size wr w4)
   have H4:=Lib.hid (And.intro h4 k4)
   obtain ⟨hcx,hfx⟩:=bcellS hb4;refine hK.out _ _ ?_ (fun _=>?_);(focus (((try dsimp only);repeat' apply And.intro)<;>(rw [hcx _ (by go_simp)];go_simp)));clear hHeld hK K hcx hfx;rename_i hHeld
   clear h4 k4 hb4
   (refine wpAnyH_ready (rs:=[9]) (by kernel_rfl) (by simp) ?_;refine AllReadyH.cons rfl (fun K hK=>?_) AllReadyH.nil;go_simp)
   refine (radd_any _ _ _ _ _ _ _ _ _ _ _ _ _ _ _ _ _ _ _ ((Z.out.1.below G4.out).below Bel.go) ((Z.out.2.below G4.out).below Bel.go) (H4.out.1.below Bel.go) (H4.out.2.below Bel.go) fa.fz fa.fq fa.p fit_one fit_onen Nat.one_pos).mono ?_
   rintro e w5 ⟨⟨n5,A5,l5,c5,B5,m5,d5,rfl,h5,k5⟩,hb5⟩
   have G5:=Lib.hid (G4.out.trans (((Below.trans Bel.go (hb5.mono (by simp<;>omega))):Below w4.heap.size w4 w5).mono G4.out.size))
   have R5:=Lib.hid (lay_one (a:=(rs.getD k r00).2.add ⟨1,1⟩) h5 k5)
   obtain ⟨hcx,hfx⟩:=bcellS hb5;refine hK.out _ _ ?_ (fun _=>?_);(focus (((try dsimp only);repeat' apply And.intro)<;>(rw [hcx _ (by go_simp)];go_simp)));clear hHeld hK K hcx hfx;rename_i hHeld
   clear h5 k5 hb5 H4
   refine wpAnyH_ready (rs:=[10]) (by kernel_rfl) (by simp) ?_;refine AllReadyH.cons rfl (fun K hK=>?_) AllReadyH.nil;go_simp;refine hK.out _ _ ?_ (fun _=>?_);(focus ((try dsimp only);go_keep));clear hHeld hK K;rename_i hHeld;(try (simp only [put_lit,List.set]))
   have G6:=Lib.hid (G5.out.trans ((below_new w5 (.cells #[.bool n5,.slice A5 l5 c5,.slice B5 m5 d5] 35)).mono G5.out.size))
   have R6:=Lib.hid (R5.out.below (below_new w5 (.cells #[.bool n5,.slice A5 l5 c5,.slice B5 m5 d5] 35)))
   obtain ⟨us,ho,hl⟩:=HI.out.below G6.out
   have hul:=gap_len hl
   refine wpAnyH_ready (rs:=[11]) (by kernel_rfl) (by simp) ?_;refine AllReadyH.cons rfl (fun K hK=>?_) AllReadyH.nil;rw [if_pos (by rfl)];refine oper_append_own (.tmp 47) (.tmp 57) 56 35 rfl 3 i0 ratZero Tryz.underlying56 hi hz0 hz1 (by rw [hz2];omega) rfl Nd (fun _ h=>h) rat_nd (by decide) B0 _ us _ rfl (ho) (by have:=G6.out.size;have:=HBr.out;simp at *;omega) ⟨_,0,none⟩ 1 1 rfl rfl (addr0 (newrow_cells _ _ _)) R6.out.nd (.inl (by decide)) (by rw [hul];simp;omega) 58 rfl ?_;intro v2 w9 hgr
   have hb9:=hgr.below (by have:=G6.out.size;have:=HBr.out;simp at *;omega);refine hK.out _ _ ?_ (fun _=>?_);(focus (((try dsimp only);repeat' apply And.intro)<;>(rw [hb9.cell hbB];go_simp)));clear hHeld hK K;rename_i hHeld;(try (simp only [put_lit,List.set]))
   have FX:=Lib.hid (show RatsE GL (.returned v2) w9 by
    rw [EG.out]
    obtain ⟨A9,l9,c9,e9,h9⟩:=hgr.1.sle (by decide) (rat_grown hgr hl (.one R6.out)) fun x vs hx=>hx.len
    exact ⟨A9,l9,c9,by rw [e9],h9⟩)
   have Hb9:=Lib.hid (Hbw.out.trans ((G6.out.mono Hbw.out.size).trans (hb9.mono hwB)))
   clear hgr hb9 R5 R6 G4 G5 G6 HI Z ho hl hul
   (refine tk (i:=12) (v:=?_) rfl rfl (Or.inl ⟨by rfl,?_⟩) ?_;rotate_left;(focus (intro w hSw;(try dsimp only at hSw);go_simp;(try with_reducible rfl)));(simp only [put_lit,List.set]))
   refine wpAnyH_done (by kernel_rfl) ?_ _
   clear hHeld x3 x4 x5
   go_wp2
   go_ret
   exact ⟨FX.out,Hb9.out⟩
end Go.Proofs.YtppggpfcdgilmaaGreat
namespace Go.Proofs.YtppggpfcdgilmaaGreat
open Go.RowKit
section
variable {a:Fq}
theorem sub_one (a:Fq):a.sub ⟨1,1⟩=(⟨a.z-(a.q:Int),a.q⟩:Fq).nf:=by
 show (⟨_,_⟩:Fq)=⟨rz (a.z-(a.q:Int)) a.q,rq (a.z-(a.q:Int)) a.q⟩
 unfold rz rq
 simp
theorem add_one (a:Fq):a.add ⟨1,1⟩=(⟨a.z+(a.q:Int),a.q⟩:Fq).nf:=by
 show (⟨_,_⟩:Fq)=⟨rz (a.z+(a.q:Int)) a.q,rq (a.z+(a.q:Int)) a.q⟩
 unfold rz rq
 simp
theorem sub_one_v (h:0<a.q):(a.sub ⟨1,1⟩).v=a.v-1:=by
 rw [sub_one,(Fq.nf_v (a:=⟨a.z-(a.q:Int),a.q⟩) h).1]
 unfold Fq.v
 have hr:(0:Rat)<((a.q:Nat):Rat):=by exact_mod_cast h
 show (((a.z-(a.q:Int):Int)):Rat) / ((a.q:Nat):Rat)=_
 rw [Rat.intCast_sub,Rat.intCast_natCast,Rat.div_def,Rat.div_def]
 generalize ((a.q:Nat):Rat)=y at *
 grind
theorem add_one_v (h:0<a.q):(a.add ⟨1,1⟩).v=a.v+1:=by
 rw [add_one,(Fq.nf_v (a:=⟨a.z+(a.q:Int),a.q⟩) h).1]
 unfold Fq.v
 have hr:(0:Rat)<((a.q:Nat):Rat):=by exact_mod_cast h
 show (((a.z+(a.q:Int):Int)):Rat) / ((a.q:Nat):Rat)=_
 rw [Rat.intCast_add,Rat.intCast_natCast,Rat.div_def,Rat.div_def]
 generalize ((a.q:Nat):Rat)=y at *
 grind
theorem sub_one_q (h:0<a.q):0<(a.sub ⟨1,1⟩).q:=by rw [sub_one];exact (Fq.nf_v (a:=(⟨a.z-(a.q:Int),a.q⟩:Fq)) h).2
theorem add_one_q (h:0<a.q):0<(a.add ⟨1,1⟩).q:=by rw [add_one];exact (Fq.nf_v (a:=(⟨a.z+(a.q:Int),a.q⟩:Fq)) h).2
def gapv (rs:List (Fq×Fq)) (i:Nat):Fq:=if i=0 then (rs.getD 0 r00).1.sub ⟨1,1⟩ else (rs.getD (i-1) r00).2.mid (rs.getD i r00).1
theorem gapp_get (rs:List (Fq×Fq)):∀ k i,i≤k→(gapp rs k).getD i ⟨0,1⟩=gapv rs i
 | 0,i,hi=>by
   obtain rfl:i=0:=by omega
   rfl
 | k+1,i,hi=>by
   have hl:=gapp_len rs k
   rw [List.getD_eq_getElem?_getD]
   rcases Nat.lt_or_ge i (k+1) with h | h
   ·rw [gapp,List.getElem?_append_left (by omega),← List.getD_eq_getElem?_getD]
    exact gapp_get rs k i (by omega)
   ·obtain rfl:i=k+1:=by omega
    rw [gapp,List.getElem?_append_right (by omega),hl,Nat.sub_self]
    rfl
end
end Go.Proofs.YtppggpfcdgilmaaGreat
namespace Go.Proofs.YtppggpfcdgilmaaGreat
open Go Go.RowKit
theorem w2_atI (w:World):I64At (w.alloc (.cells #[.int .i64 (-2),.int .i64 0,.int .i64 1] 2)) (some ⟨w.heap.size,0,none⟩) 3 3 w2:=by
 refine ⟨rfl,by omega,.inr ⟨w.heap.size,0,rfl,by simp,fun j hj=>?_⟩⟩
 match j,hj with
 | 0,_=>simp [w2]
 | 1,_=>simp [w2]
 | 2,_=>simp [w2]
theorem w2_trimI:ptrim w2=w2:=by decide
set_option maxHeartbeats 1000000 in
theorem awake16_any (w:World) :
 Calls Tryz.prog 10 #[] w fun e w'=>e=.returned (.bool true)∧Below w.heap.size w w':=by
 have jb:=below_new w (.cells #[.int .i64 (-2),.int .i64 0,.int .i64 1] 2)
 have hat:=w2_atI w
 have Hb:=Lib.hid jb
 clear jb
 go_enter Tryz.func10,Tryz.ntmps10
 go_wp2_with fail
 refine (pof_any _ _ _ _ _ hat (by intro c hc;simp [w2] at hc;rcases hc with rfl | rfl | rfl<;>(unfold I64;omega)) (by omega)).mono ?_
 rintro e w1 ⟨A1,l1,c1,rfl,h1,hb1⟩
 rw [show ptrim w2=w2 from w2_trimI] at h1
 have hl1:l1≤3:=by have:=h1.length;have e:w2.length=3:=rfl;omega
 replace Hb:=Lib.hid (Hb.out.trans (hb1.mono Hb.out.size))
 have h9:=p9_w2
 clear hb1 hat
 go_wp2_with fail
 refine (roots_any ikN _ _ _ w2 _ h1 h9.cp.fit.smp (fun _=>h9.q) (fun h=>SqF.of9 h9 h) (by omega)).mono ?_
 rintro e w2' ⟨⟨A2,l2,c2,rfl,h2⟩,hb2⟩
 obtain rfl:l2=2:=by rw [← h2.length];exact proots_w2
 replace Hb:=Lib.hid (Hb.out.trans (hb2.mono Hb.out.size))
 clear hb2 h1 h2
 go_wp2
 go_ret
 exact ⟨rfl,Hb.out⟩
structure Quad (W:World) (g:Nat) (x0 x1 x2 x3:Int):Prop where
 c0:W.cell? ⟨g,0,none⟩=some (.int .i8 x0)
 c1:W.cell? ⟨g,1,none⟩=some (.int .i8 x1)
 c2:W.cell? ⟨g,2,none⟩=some (.int .i8 x2)
 c3:W.cell? ⟨g,3,none⟩=some (.int .i8 x3)
 lt:g<W.heap.size
theorem Quad.move {W W':World} {g:Nat} {x0 x1 x2 x3:Int} (h:Quad W g x0 x1 x2 x3) (hb:Below W.heap.size W W'):Quad W' g x0 x1 x2 x3 :=
 ⟨(hb.cell (p:=⟨g,0,none⟩) h.lt).trans h.c0,(hb.cell (p:=⟨g,1,none⟩) h.lt).trans h.c1,(hb.cell (p:=⟨g,2,none⟩) h.lt).trans h.c2,(hb.cell (p:=⟨g,3,none⟩) h.lt).trans h.c3,Nat.lt_of_lt_of_le h.lt hb.size⟩
theorem Quad.make (W:World) (x0 x1 x2 x3:Int) (t:TypeId):Quad (W.alloc (.cells #[.int .i8 x0,.int .i8 x1,.int .i8 x2,.int .i8 x3] t)) W.heap.size x0 x1 x2 x3:=⟨by go_simp,by go_simp,by go_simp,by go_simp,by simp⟩
theorem rt_fqb {p d:Int} (hp:I8 p) (hd:I8 d):FqB ⟨rtz p d,rtq p d⟩:=by
 obtain ⟨h1,h2,h3⟩:=at_ok hp hd
 exact ⟨h1.pos,h2,h3⟩
end Go.Proofs.YtppggpfcdgilmaaGreat
namespace Go.Proofs.YtppggpfcdgilmaaGreat
open Go Go.RowKit
def fq8 (p d:Int):Fq:=⟨rtz p d,rtq p d⟩
theorem fq8_b {p d:Int} (hp:I8 p) (hd:I8 d):FqB (fq8 p d):=rt_fqb hp hd
theorem less_v (p d p' d':Int) (w:World) (hp:I8 p) (hd:I8 d) (hp':I8 p') (hd':I8 d') :
  Calls Tryz.prog 45 #[.agg #[.int .i8 p,.int .i8 d],.agg #[.int .i8 p',.int .i8 d']] w fun e w'=>e=.returned (.bool (decide ((fq8 p d).v<(fq8 p' d').v)))∧Below w.heap.size w w' :=
 (less15_any p d p' d' w hp hd hp' hd').mono fun e w' ⟨he,hb⟩=>⟨he.trans (by
   have:decide (frn p d*frd d'<frn p' d'*frd d)=decide ((fq8 p d).v<(fq8 p' d').v):=decide_eq_decide.2 ((rt_pt hp hd hp' hd').trans (rt_iff hp hd hp' hd')).symm
   rw [this]),hb⟩
set_option maxRecDepth 100000 in
set_option maxHeartbeats 1000000 in
theorem point_any (a b c d:Int) (w:World) (ha:I8 a) (hb:I8 b) (hc:I8 c) (hd:I8 d) :
  Calls Tryz.prog 23 #[.agg #[.int .i8 a,.int .i8 b,.int .i8 c,.int .i8 d]] w fun e w'=>e=.returned (.bool (decide ((fq8 a b).v=(fq8 c d).v)))∧Below w.heap.size w w':=by
 have jb:=below_new w (.cells #[.int .i8 a,.int .i8 b,.int .i8 c,.int .i8 d] 55)
 have Q:=Lib.hid (Quad.make w a b c d 55)
 have Hb:=Lib.hid jb
 clear jb
 go_enter Tryz.func23,Tryz.ntmps23
 go_wp2_with fail
 refine (less_v a b c d _ ha hb hc hd).mono ?_
 rintro e w1 ⟨rfl,hb1⟩
 replace Q:=Lib.hid (Q.out.move hb1)
 replace Hb:=Lib.hid (Hb.out.trans (hb1.mono Hb.out.size))
 clear hb1
 have q0:=Q.out.c0
 have q1:=Q.out.c1
 have q2:=Q.out.c2
 have q3:=Q.out.c3
 by_cases h1:(fq8 a b).v<(fq8 c d).v
 ·rw [decide_eq_true h1]
  have FIN:=Lib.hid (show decide ((fq8 a b).v=(fq8 c d).v)=false from decide_eq_false fun e=>by rw [e] at h1;exact absurd h1 (Rat.lt_irrefl))
  clear h1
  go_wp2
  go_ret
  exact ⟨by rw [FIN.out];rfl,Hb.out⟩
 ·rw [decide_eq_false h1]
  have H1:=Lib.hid h1
  clear h1
  go_wp2_with fail
  refine (less_v c d a b _ hc hd ha hb).mono ?_
  rintro e w2 ⟨rfl,hb2⟩
  replace Hb:=Lib.hid (Hb.out.trans (hb2.mono Hb.out.size))
  clear hb2 q0 q1 q2 q3 Q
  by_cases h2:(fq8 c d).v<(fq8 a b).v
  ·rw [decide_eq_true h2]
   have FIN:=Lib.hid (show decide ((fq8 a b).v=(fq8 c d).v)=false from decide_eq_false fun e=>by rw [e] at h2;exact absurd h2 (Rat.lt_irrefl))
   clear h2
   go_wp2
   go_ret
   exact ⟨by rw [FIN.out];rfl,Hb.out⟩
  ·rw [decide_eq_false h2]
   have FIN:=Lib.hid (show decide ((fq8 a b).v=(fq8 c d).v)=true from decide_eq_true (Rat.le_antisymm (Rat.not_lt.1 h2) (Rat.not_lt.1 H1.out)))
   clear h2
   go_wp2
   go_ret
   exact ⟨by rw [FIN.out];rfl,Hb.out⟩
def ivf (qs:List (Int×Int×Int×Int)):List (Fq×Fq):=qs.map fun q=>(fq8 q.1 q.2.1,fq8 q.2.2.1 q.2.2.2)
theorem ivf_get {qs:List (Int×Int×Int×Int)} {k:Nat} (hk:k<qs.length):(ivf qs).getD k r00=(fq8 (qs.getD k (0,0,0,0)).1 (qs.getD k (0,0,0,0)).2.1,fq8 (qs.getD k (0,0,0,0)).2.2.1 (qs.getD k (0,0,0,0)).2.2.2):=by
 unfold ivf
 rw [List.getD_eq_getElem?_getD,List.getElem?_map,List.getElem?_eq_getElem hk,List.getD_eq_getElem?_getD,List.getElem?_eq_getElem hk]
 rfl
theorem ivf_fqb {w:World} {A:Option Addr} {la ca:Nat} {qs:List (Int×Int×Int×Int)} (h:IvAt w A la ca qs):∀ r∈ivf qs,FqB r.1∧FqB r.2:=fun r hr=>by
 obtain ⟨q,hq,rfl⟩:=List.mem_map.1 hr
 obtain ⟨h0,h1,h2,h3⟩:=h.i8 q hq
 exact ⟨fq8_b h0 h1,fq8_b h2 h3⟩
theorem IvAt.get {w:World} {A:Option Addr} {la ca:Nat} {qs:List (Int×Int×Int×Int)} (h:IvAt w A la ca qs) {k:Nat} (hk:k<la):∃ b o,A=some ⟨b,o,none⟩∧b<w.heap.size:=by
 rcases h.cells with h0 | ⟨b,o,e,hb,_⟩
 ·omega
 ·exact ⟨b,o,e,hb⟩
theorem IvAt.at {w:World} {b o la ca:Nat} {qs:List (Int×Int×Int×Int)} (h:IvAt w (some ⟨b,o,none⟩) la ca qs) {k:Nat} (hk:k<la):∃ q0 q1 q2 q3,I8 q0∧I8 q1∧I8 q2∧I8 q3∧w.cell? ⟨b,o+k*4,none⟩=some (.int .i8 q0)∧w.cell? ⟨b,o+k*4+1,none⟩=some (.int .i8 q1)∧w.cell? ⟨b,o+k*4+2,none⟩=some (.int .i8 q2)∧w.cell? ⟨b,o+k*4+3,none⟩=some (.int .i8 q3)∧(ivf qs).getD k r00=(fq8 q0 q1,fq8 q2 q3):=by
 rcases h.cells with h0 | ⟨b',o',e,hb,hc⟩
 ·omega
 ·cases e
  obtain ⟨c0,c1,c2,c3⟩:=hc k hk
  have hkl:k<qs.length:=by rw [h.length];exact hk
  have hm:qs.getD k (0,0,0,0)∈qs:=by
   rw [List.getD_eq_getElem?_getD,List.getElem?_eq_getElem hkl]
   exact List.getElem_mem _
  obtain ⟨h0,h1,h2,h3⟩:=h.i8 _ hm
  exact ⟨_,_,_,_,h0,h1,h2,h3,c0,c1,c2,c3,ivf_get hkl⟩
set_option maxRecDepth 100000 in
set_option maxHeartbeats 8000000 in
theorem sep16_any {w:World} {A:Option Addr} {la ca:Nat} {qs:List (Int×Int×Int×Int)} (h:IvAt w A la ca qs) (hla:la≤1000) :
  Calls Tryz.prog 21 #[.slice A la ca] w fun e w'=>BoolE (Sepa (ivf qs)) e∧Below w.heap.size w w':=by
 have HIs:=Lib.hid h
 have Hrl:=Lib.hid (show (ivf qs).length=la by unfold ivf;rw [List.length_map];exact h.length)
 clear h
 go_enter Tryz.func21,Tryz.ntmps21
 go_wp2_with fail
 go_loopw [3] (fun s3 wr=>∃ k:Nat,k≤la∧s3=.int .i64 (k:Int)∧(∀ i,i<k→spOK (ivf qs) i)∧Below w.heap.size w wr) (fun s3 _=>la-(intOf s3).toNat)
 case atStart=>exact ⟨0,Nat.zero_le _,rfl,fun i hi=>absurd hi (Nat.not_lt_zero _),Bel.go⟩
 case round =>
  obtain ⟨k,hk,rfl,hst,hbw⟩:=hrel
  have Hst:=Lib.hid hst
  have HI:=Lib.hid (HIs.out.below hbw)
  have Hbw:=Lib.hid hbw
  clear hst hbw
  by_cases hlt:k<la
  ·have Hkl:=Lib.hid hlt
   obtain ⟨b,o,rfl,hbl⟩:=HI.out.get hlt
   obtain ⟨k0,k1,k2,k3,a0,a1,a2,a3,c0,c1,c2,c3,hr⟩:=HI.out.at hlt
   have Hr:=Lib.hid hr
   have p1:=(fq8_b a0 a1).p
   have p2:=(fq8_b a2 a3).p
   have ka:(k:Int)<(la:Int):=by omega
   have w1:IntKind.i64.wrap ((k:Int)+1)=(k:Int)+1:=IntWalk.i64_in _ (by have:=Hkl.out;omega)
   clear hk hr
   go_wp2_with fail
   refine wp_region_held_drew (S:=fun w'=>w'.cell? ⟨b,o+k*4,none⟩=some (.int .i8 k0)∧w'.cell? ⟨b,o+k*4+1,none⟩=some (.int .i8 k1)∧w'.cell? ⟨b,o+k*4+2,none⟩=some (.int .i8 k2)∧w'.cell? ⟨b,o+k*4+3,none⟩=some (.int .i8 k3)) (by kernel_rfl) (by (try dsimp only);go_keep) (fun hHeld=>?_)
   (refine tk (i:=0) (v:=?_) rfl rfl (Or.inl ⟨by rfl,?_⟩) ?_;rotate_left;(focus (intro w hSw;(try dsimp only at hSw);go_simp;(try with_reducible rfl)));(simp only [put_lit,List.set]))
   (refine tk (i:=1) (v:=?_) rfl rfl (Or.inl ⟨by rfl,?_⟩) ?_;rotate_left;(focus (intro w hSw;(try dsimp only at hSw);go_simp;(try with_reducible rfl)));(simp only [put_lit,List.set]))
   (refine tk (i:=2) (v:=?_) rfl rfl (Or.inl ⟨by rfl,?_⟩) ?_;rotate_left;(focus (intro w hSw;(try dsimp only at hSw);go_simp;(try with_reducible rfl)));(simp only [put_lit,List.set]))
   (refine tk (i:=3) (v:=?_) rfl rfl (Or.inl ⟨by rfl,?_⟩) ?_;rotate_left;(focus (intro w hSw;(try dsimp only at hSw);go_simp;(try with_reducible rfl)));(simp only [put_lit,List.set]))
   (refine tk (i:=4) (v:=?_) rfl rfl (Or.inl ⟨by rfl,?_⟩) ?_;rotate_left;(focus (intro w hSw;(try dsimp only at hSw);go_simp;(try with_reducible rfl)));(simp only [put_lit,List.set]))
   (refine tk (i:=5) (v:=?_) rfl rfl (Or.inl ⟨by rfl,?_⟩) ?_;rotate_left;(focus (intro w hSw;(try dsimp only at hSw);go_simp;(try with_reducible rfl)));(simp only [put_lit,List.set]))
   (refine tk (i:=6) (v:=?_) rfl rfl (Or.inl ⟨by rfl,?_⟩) ?_;rotate_left;(focus (intro w hSw;(try dsimp only at hSw);go_simp;(try with_reducible rfl)));(simp only [put_lit,List.set]))
   (refine tk (i:=7) (v:=?_) rfl rfl (Or.inl ⟨by rfl,?_⟩) ?_;rotate_left;(focus (intro w hSw;(try dsimp only at hSw);go_simp;(try with_reducible rfl)));(simp only [put_lit,List.set]))
   (refine tk (i:=8) (v:=?_) rfl rfl (Or.inl ⟨by rfl,?_⟩) ?_;rotate_left;(focus (intro w hSw;(try dsimp only at hSw);go_simp;(try with_reducible rfl)));(simp only [put_lit,List.set]))
   (refine tk (i:=9) (v:=?_) rfl rfl (Or.inl ⟨by rfl,?_⟩) ?_;rotate_left;(focus (intro w hSw;(try dsimp only at hSw);go_simp;(try with_reducible rfl)));(simp only [put_lit,List.set]))
   (refine wpAnyH_ready (rs:=[10]) (by kernel_rfl) (by simp) ?_;refine AllReadyH.cons rfl (fun K hK=>?_) AllReadyH.nil;go_simp)
   refine (less_v k2 k3 k0 k1 _ a2 a3 a0 a1).mono ?_
   rintro e w5 ⟨rfl,hb5⟩
   have hbz:Below wr.heap.size wr w5:=(Below.trans Bel.go (hb5.mono (by simp<;>omega)));replace HI:=Lib.hid (HI.out.below hbz);replace Hbw:=Lib.hid (Hbw.out.trans (hbz.mono Hbw.out.size));replace hbl:=Nat.lt_of_lt_of_le hbl hbz.size;clear hbz
   obtain ⟨hcx,hfx⟩:=bcellS hb5;refine hK.out _ _ ?_ (fun _=>?_);(focus (((try dsimp only);repeat' apply And.intro)<;>(rw [hcx _ (by go_simp)];go_simp)));clear hHeld hK K hcx hfx;rename_i hHeld;clear hb5
   clear c0 c1 c2 c3
   refine wpAnyH_done (by kernel_rfl) ?_ _
   obtain ⟨c0,c1,c2,c3⟩:=hHeld
   by_cases g0:(fq8 k2 k3).v<(fq8 k0 k1).v
   ·rw [decide_eq_true g0]
    have FIN:=Lib.hid (show ¬ Sepa (ivf qs) from fun h=>(by have h1:=(h k (by rw [Hrl.out];exact Hkl.out)).1;rw [Hr.out] at h1;have h2:fcmp (fq8 k0 k1) (fq8 k2 k3)≤0:=h1;have:=(fcmp_pos p1 p2).2 g0;omega))
    clear g0
    (go_wp2_with fail;go_ret;exact ⟨.no FIN.out,Hbw.out⟩)
   rw [decide_eq_false g0]
   have G0:=Lib.hid (show fcmp (fq8 k0 k1) (fq8 k2 k3)≤0 by rcases Int.lt_or_le 0 (fcmp (fq8 k0 k1) (fq8 k2 k3)) with c | c;exact absurd ((fcmp_pos p1 p2).1 c) g0;exact c)
   clear g0
   by_cases hk0:k=0
   ·subst hk0
    have b2:((0:Int) == 0)=true:=rfl
    have FIN:=Lib.hid (show spOK (ivf qs) 0 from ⟨by rw [Hr.out];exact G0.out,fun h=>absurd h (Nat.lt_irrefl _)⟩)
    go_wp2_with fail
    go_roundw
    case rel=>exact ⟨1,Hkl.out,rfl,fun i hi=>(by obtain rfl:i=0:=(by omega);exact FIN.out),Hbw.out⟩
    case measure=>have:=Hkl.out;simp [intOf];omega
   ·obtain ⟨j,hj⟩:∃ j,k=j+1:=⟨k-1,by omega⟩
    have b2:((k:Int) == 0)=false:=by rw [beq_eq_false_iff_ne];omega
    have e1:(k:Int)-1=(j:Int):=by omega
    have i1:IntKind.i64.wrap (j:Int)=(j:Int):=IntWalk.i64_in _ (by have:=Hkl.out;omega)
    have ja:(j:Int)<(la:Int):=by omega
    have jl:j<la:=by omega
    obtain ⟨j0,j1,j2,j3,b0,b1,b2',b3,d0,d1,d2,d3,hp⟩:=HI.out.at jl
    have p3:=(fq8_b b0 b1).p
    have p4:=(fq8_b b2' b3).p
    have ST:=Lib.hid (show nxOK (fq8 j0 j1,fq8 j2 j3) (fq8 k0 k1,fq8 k2 k3)→spOK (ivf qs) k from fun h=>⟨by rw [Hr.out];exact G0.out,fun _=>by rw [show k-1=j by omega,hp,Hr.out];exact h⟩)
    have NX:=Lib.hid (show ¬ nxOK (fq8 j0 j1,fq8 j2 j3) (fq8 k0 k1,fq8 k2 k3)→¬ Sepa (ivf qs) from fun h h2=>h (by
     have h3:=(h2 k (by rw [Hrl.out];exact Hkl.out)).2 (by omega)
     rw [show k-1=j by omega,hp,Hr.out] at h3
     exact h3))
    clear hp hj hk0 G0
    go_wp2_with fail
    refine wp_region_held_drew (S:=fun w'=>w'.cell? ⟨b,o+k*4,none⟩=some (.int .i8 k0)∧w'.cell? ⟨b,o+k*4+1,none⟩=some (.int .i8 k1)∧w'.cell? ⟨b,o+k*4+2,none⟩=some (.int .i8 k2)∧w'.cell? ⟨b,o+k*4+3,none⟩=some (.int .i8 k3)∧w'.cell? ⟨b,o+j*4,none⟩=some (.int .i8 j0)∧w'.cell? ⟨b,o+j*4+1,none⟩=some (.int .i8 j1)∧w'.cell? ⟨b,o+j*4+2,none⟩=some (.int .i8 j2)∧w'.cell? ⟨b,o+j*4+3,none⟩=some (.int .i8 j3)) (by kernel_rfl) (by (try dsimp only);go_keep) (fun hHeld=>?_)
    (refine tk (i:=0) (v:=?_) rfl rfl (Or.inl ⟨by rfl,?_⟩) ?_;rotate_left;(focus (intro w hSw;(try dsimp only at hSw);go_simp;(try with_reducible rfl)));(simp only [put_lit,List.set]))
    (refine tk (i:=1) (v:=?_) rfl rfl (Or.inl ⟨by rfl,?_⟩) ?_;rotate_left;(focus (intro w hSw;(try dsimp only at hSw);go_simp;(try with_reducible rfl)));(simp only [put_lit,List.set]))
    (refine tk (i:=2) (v:=?_) rfl rfl (Or.inl ⟨by rfl,?_⟩) ?_;rotate_left;(focus (intro w hSw;(try dsimp only at hSw);go_simp;(try with_reducible rfl)));(simp only [put_lit,List.set]))
    (refine tk (i:=3) (v:=?_) rfl rfl (Or.inl ⟨by rfl,?_⟩) ?_;rotate_left;(focus (intro w hSw;(try dsimp only at hSw);go_simp;(try with_reducible rfl)));(simp only [put_lit,List.set]))
    (refine tk (i:=4) (v:=?_) rfl rfl (Or.inl ⟨by rfl,?_⟩) ?_;rotate_left;(focus (intro w hSw;(try dsimp only at hSw);go_simp;(try with_reducible rfl)));(simp only [put_lit,List.set]))
    (refine tk (i:=5) (v:=?_) rfl rfl (Or.inl ⟨by rfl,?_⟩) ?_;rotate_left;(focus (intro w hSw;(try dsimp only at hSw);go_simp;(try with_reducible rfl)));(simp only [put_lit,List.set]))
    (refine tk (i:=6) (v:=?_) rfl rfl (Or.inl ⟨by rfl,?_⟩) ?_;rotate_left;(focus (intro w hSw;(try dsimp only at hSw);go_simp;(try with_reducible rfl)));(simp only [put_lit,List.set]))
    (refine tk (i:=7) (v:=?_) rfl rfl (Or.inl ⟨by rfl,?_⟩) ?_;rotate_left;(focus (intro w hSw;(try dsimp only at hSw);go_simp;(try with_reducible rfl)));(simp only [put_lit,List.set]))
    (refine tk (i:=8) (v:=?_) rfl rfl (Or.inl ⟨by rfl,?_⟩) ?_;rotate_left;(focus (intro w hSw;(try dsimp only at hSw);go_simp;(try with_reducible rfl)));(simp only [put_lit,List.set]))
    (refine tk (i:=9) (v:=?_) rfl rfl (Or.inl ⟨by rfl,?_⟩) ?_;rotate_left;(focus (intro w hSw;(try dsimp only at hSw);go_simp;(try with_reducible rfl)));(simp only [put_lit,List.set]))
    (refine tk (i:=10) (v:=?_) rfl rfl (Or.inl ⟨by rfl,?_⟩) ?_;rotate_left;(focus (intro w hSw;(try dsimp only at hSw);go_simp;(try with_reducible rfl)));(simp only [put_lit,List.set]))
    (refine wpAnyH_ready (rs:=[11]) (by kernel_rfl) (by simp) ?_;refine AllReadyH.cons rfl (fun K hK=>?_) AllReadyH.nil;go_simp)
    refine (less_v k0 k1 j2 j3 _ a0 a1 b2' b3).mono ?_
    rintro e w6 ⟨rfl,hb6⟩
    have hbz:Below w5.heap.size w5 w6:=(Below.trans Bel.go (hb6.mono (by simp<;>omega)));replace HI:=Lib.hid (HI.out.below hbz);replace Hbw:=Lib.hid (Hbw.out.trans (hbz.mono Hbw.out.size));replace hbl:=Nat.lt_of_lt_of_le hbl hbz.size;clear hbz
    obtain ⟨hcx,hfx⟩:=bcellS hb6;refine hK.out _ _ ?_ (fun _=>?_);(focus (((try dsimp only);repeat' apply And.intro)<;>(rw [hcx _ (by go_simp)];go_simp)));clear hHeld hK K hcx hfx;rename_i hHeld;clear hb6
    clear c0 c1 c2 c3 d0 d1 d2 d3
    refine wpAnyH_done (by kernel_rfl) ?_ _
    obtain ⟨c0,c1,c2,c3,d0,d1,d2,d3⟩:=hHeld
    by_cases g1:(fq8 k0 k1).v<(fq8 j2 j3).v
    ·rw [decide_eq_true g1]
     have FIN:=Lib.hid (NX.out fun h=>(by have h1:fcmp (fq8 j2 j3) (fq8 k0 k1)≤0:=h.1;have:=(fcmp_pos p4 p1).2 g1;omega))
     clear g1
     (go_wp2_with fail;go_ret;exact ⟨.no FIN.out,Hbw.out⟩)
    rw [decide_eq_false g1]
    have G1:=Lib.hid (show fcmp (fq8 j2 j3) (fq8 k0 k1)≤0 by rcases Int.lt_or_le 0 (fcmp (fq8 j2 j3) (fq8 k0 k1)) with c | c;exact absurd ((fcmp_pos p4 p1).1 c) g1;exact c)
    clear g1
    go_wp2_with fail
    refine wp_region_held_drew (S:=fun w'=>w'.cell? ⟨b,o+k*4,none⟩=some (.int .i8 k0)∧w'.cell? ⟨b,o+k*4+1,none⟩=some (.int .i8 k1)∧w'.cell? ⟨b,o+k*4+2,none⟩=some (.int .i8 k2)∧w'.cell? ⟨b,o+k*4+3,none⟩=some (.int .i8 k3)∧w'.cell? ⟨b,o+j*4,none⟩=some (.int .i8 j0)∧w'.cell? ⟨b,o+j*4+1,none⟩=some (.int .i8 j1)∧w'.cell? ⟨b,o+j*4+2,none⟩=some (.int .i8 j2)∧w'.cell? ⟨b,o+j*4+3,none⟩=some (.int .i8 j3)) (by kernel_rfl) (by (try dsimp only);go_keep) (fun hHeld=>?_)
    (refine tk (i:=0) (v:=?_) rfl rfl (Or.inl ⟨by rfl,?_⟩) ?_;rotate_left;(focus (intro w hSw;(try dsimp only at hSw);go_simp;(try with_reducible rfl)));(simp only [put_lit,List.set]))
    (refine tk (i:=1) (v:=?_) rfl rfl (Or.inl ⟨by rfl,?_⟩) ?_;rotate_left;(focus (intro w hSw;(try dsimp only at hSw);go_simp;(try with_reducible rfl)));(simp only [put_lit,List.set]))
    (refine tk (i:=2) (v:=?_) rfl rfl (Or.inl ⟨by rfl,?_⟩) ?_;rotate_left;(focus (intro w hSw;(try dsimp only at hSw);go_simp;(try with_reducible rfl)));(simp only [put_lit,List.set]))
    (refine tk (i:=3) (v:=?_) rfl rfl (Or.inl ⟨by rfl,?_⟩) ?_;rotate_left;(focus (intro w hSw;(try dsimp only at hSw);go_simp;(try with_reducible rfl)));(simp only [put_lit,List.set]))
    (refine tk (i:=4) (v:=?_) rfl rfl (Or.inl ⟨by rfl,?_⟩) ?_;rotate_left;(focus (intro w hSw;(try dsimp only at hSw);go_simp;(try with_reducible rfl)));(simp only [put_lit,List.set]))
    (refine tk (i:=5) (v:=?_) rfl rfl (Or.inl ⟨by rfl,?_⟩) ?_;rotate_left;(focus (intro w hSw;(try dsimp only at hSw);go_simp;(try with_reducible rfl)));(simp only [put_lit,List.set]))
    (refine tk (i:=6) (v:=?_) rfl rfl (Or.inl ⟨by rfl,?_⟩) ?_;rotate_left;(focus (intro w hSw;(try dsimp only at hSw);go_simp;(try with_reducible rfl)));(simp only [put_lit,List.set]))
    (refine tk (i:=7) (v:=?_) rfl rfl (Or.inl ⟨by rfl,?_⟩) ?_;rotate_left;(focus (intro w hSw;(try dsimp only at hSw);go_simp;(try with_reducible rfl)));(simp only [put_lit,List.set]))
    (refine tk (i:=8) (v:=?_) rfl rfl (Or.inl ⟨by rfl,?_⟩) ?_;rotate_left;(focus (intro w hSw;(try dsimp only at hSw);go_simp;(try with_reducible rfl)));(simp only [put_lit,List.set]))
    (refine tk (i:=9) (v:=?_) rfl rfl (Or.inl ⟨by rfl,?_⟩) ?_;rotate_left;(focus (intro w hSw;(try dsimp only at hSw);go_simp;(try with_reducible rfl)));(simp only [put_lit,List.set]))
    (refine tk (i:=10) (v:=?_) rfl rfl (Or.inl ⟨by rfl,?_⟩) ?_;rotate_left;(focus (intro w hSw;(try dsimp only at hSw);go_simp;(try with_reducible rfl)));(simp only [put_lit,List.set]))
    (refine wpAnyH_ready (rs:=[11]) (by kernel_rfl) (by simp) ?_;refine AllReadyH.cons rfl (fun K hK=>?_) AllReadyH.nil;go_simp)
    refine (less_v j2 j3 k0 k1 _ b2' b3 a0 a1).mono ?_
    rintro e w7 ⟨rfl,hb7⟩
    have hbz:Below w6.heap.size w6 w7:=(Below.trans Bel.go (hb7.mono (by simp<;>omega)));replace HI:=Lib.hid (HI.out.below hbz);replace Hbw:=Lib.hid (Hbw.out.trans (hbz.mono Hbw.out.size));replace hbl:=Nat.lt_of_lt_of_le hbl hbz.size;clear hbz
    by_cases g2:(fq8 j2 j3).v<(fq8 k0 k1).v
    ·rw [decide_eq_true g2]
     have FIN:=Lib.hid (ST.out ⟨G1.out,fun h=>absurd ((fcmp_zero p4 p1).1 h) (fun e=>by rw [e] at g2;exact absurd g2 Rat.lt_irrefl)⟩)
     clear g2
     obtain ⟨hcx,hfx⟩:=bcellS hb7;refine hK.out _ _ ?_ (fun _=>?_);(focus (((try dsimp only);repeat' apply And.intro)<;>(rw [hcx _ (by go_simp)];go_simp)));clear hHeld hK K hcx hfx;rename_i hHeld;clear hb7
     (refine tk (i:=12) (v:=?_) rfl rfl (Or.inl ⟨by rfl,?_⟩) ?_;rotate_left;(focus (intro w hSw;(try dsimp only at hSw);go_simp;(try with_reducible rfl)));(simp only [put_lit,List.set]))
     (refine tk (i:=13) (v:=?_) rfl rfl (Or.inl ⟨by rfl,?_⟩) ?_;rotate_left;(focus (intro w hSw;(try dsimp only at hSw);go_simp;(try with_reducible rfl)));(simp only [put_lit,List.set]))
     (refine take_at (i:=14) (oi:=_) (v:=undef) rfl rfl (by kernel_rfl) (by kernel_rfl) (by kernel_rfl) (fun _ _ _ h=>h) (Or.inr ⟨by rfl,rfl⟩) (by assumption) ?_;(simp only [put_lit,List.set]))
     (refine take_at (i:=15) (oi:=_) (v:=undef) rfl rfl (by kernel_rfl) (by kernel_rfl) (by kernel_rfl) (fun _ _ _ h=>h) (Or.inr ⟨by rfl,rfl⟩) (by assumption) ?_;(simp only [put_lit,List.set]))
     (refine take_at (i:=16) (oi:=_) (v:=undef) rfl rfl (by kernel_rfl) (by kernel_rfl) (by kernel_rfl) (fun _ _ _ h=>h) (Or.inr ⟨by rfl,rfl⟩) (by assumption) ?_;(simp only [put_lit,List.set]))
     (refine take_at (i:=17) (oi:=_) (v:=undef) rfl rfl (by kernel_rfl) (by kernel_rfl) (by kernel_rfl) (fun _ _ _ h=>h) (Or.inr ⟨by rfl,rfl⟩) (by assumption) ?_;(simp only [put_lit,List.set]))
     (refine take_at (i:=18) (oi:=_) (v:=undef) rfl rfl (by kernel_rfl) (by kernel_rfl) (by kernel_rfl) (fun _ _ _ h=>h) (Or.inr ⟨by rfl,rfl⟩) (by assumption) ?_;(simp only [put_lit,List.set]))
     (refine take_at (i:=19) (oi:=_) (v:=undef) rfl rfl (by kernel_rfl) (by kernel_rfl) (by kernel_rfl) (fun _ _ _ h=>h) (Or.inr ⟨by rfl,rfl⟩) (by assumption) ?_;(simp only [put_lit,List.set]))
     (refine take_at (i:=20) (oi:=_) (v:=undef) rfl rfl (by kernel_rfl) (by kernel_rfl) (by kernel_rfl) (fun _ _ _ h=>h) (Or.inr ⟨by rfl,rfl⟩) (by assumption) ?_;(simp only [put_lit,List.set]))
     (refine take_at (i:=21) (oi:=_) (v:=undef) rfl rfl (by kernel_rfl) (by kernel_rfl) (by kernel_rfl) (fun _ _ _ h=>h) (Or.inr ⟨by rfl,rfl⟩) (by assumption) ?_;(simp only [put_lit,List.set]))
     (refine take_at (i:=22) (oi:=_) (v:=undef) rfl rfl (by kernel_rfl) (by kernel_rfl) (by kernel_rfl) (fun _ _ _ h=>h) (Or.inr ⟨by rfl,rfl⟩) (by assumption) ?_;(simp only [put_lit,List.set]))
     (refine take_at (i:=23) (oi:=_) (v:=undef) rfl rfl (by kernel_rfl) (by kernel_rfl) (by kernel_rfl) (fun _ _ _ h=>h) (Or.inr ⟨by rfl,rfl⟩) (by assumption) ?_;(simp only [put_lit,List.set]))
     (refine take_at (i:=24) (oi:=_) (v:=undef) rfl rfl (by kernel_rfl) (by kernel_rfl) (by kernel_rfl) (fun _ _ _ h=>h) (Or.inr ⟨by rfl,rfl⟩) (by assumption) ?_;(simp only [put_lit,List.set]))
     (refine take_at (i:=25) (oi:=_) (v:=undef) rfl rfl (by kernel_rfl) (by kernel_rfl) (by kernel_rfl) (fun _ _ _ h=>h) (Or.inr ⟨by rfl,rfl⟩) (by assumption) ?_;(simp only [put_lit,List.set]))
     (refine take_at (i:=26) (oi:=_) (v:=undef) rfl rfl (by kernel_rfl) (by kernel_rfl) (by kernel_rfl) (fun _ _ _ h=>h) (Or.inr ⟨by rfl,rfl⟩) (by assumption) ?_;(simp only [put_lit,List.set]))
     (refine tk (i:=27) (v:=?_) rfl rfl (Or.inl ⟨by rfl,?_⟩) ?_;rotate_left;(focus (intro w hSw;(try dsimp only at hSw);go_simp;(try with_reducible rfl)));(simp only [put_lit,List.set]))
     refine wpAnyH_done (by kernel_rfl) ?_ _
     clear hHeld c0 c1 c2 c3 d0 d1 d2 d3 ST NX
     go_wp2_with fail
     go_roundw;(case rel=>exact ⟨k+1,Hkl.out,by go_num,fun i hi=>(by by_cases hi2:i<k;exact Hst.out i hi2;obtain rfl:i=k:=(by omega);exact FIN.out),Hbw.out⟩);(case measure=>have:=Hkl.out;simp [intOf];omega)
    rw [decide_eq_false g2]
    have G2:=Lib.hid (show fcmp (fq8 j2 j3) (fq8 k0 k1)=0 by have h1:=G1.out;have h2:=mt (fcmp_neg p4 p1).1 g2;omega)
    clear g2
    obtain ⟨hcx,hfx⟩:=bcellS hb7;refine hK.out _ _ ?_ (fun _=>?_);(focus (((try dsimp only);repeat' apply And.intro)<;>(rw [hcx _ (by go_simp)];go_simp)));clear hHeld hK K hcx hfx;rename_i hHeld;clear hb7
    (refine tk (i:=12) (v:=?_) rfl rfl (Or.inl ⟨by rfl,?_⟩) ?_;rotate_left;(focus (intro w hSw;(try dsimp only at hSw);go_simp;(try with_reducible rfl)));(simp only [put_lit,List.set]))
    (refine tk (i:=13) (v:=?_) rfl rfl (Or.inl ⟨by rfl,?_⟩) ?_;rotate_left;(focus (intro w hSw;(try dsimp only at hSw);go_simp;(try with_reducible rfl)));(simp only [put_lit,List.set]))
    (refine tk (i:=14) (v:=?_) rfl rfl (Or.inl ⟨by rfl,?_⟩) ?_;rotate_left;(focus (intro w hSw;(try dsimp only at hSw);go_simp;(try with_reducible rfl)));(simp only [put_lit,List.set]))
    (refine tk (i:=15) (v:=?_) rfl rfl (Or.inl ⟨by rfl,?_⟩) ?_;rotate_left;(focus (intro w hSw;(try dsimp only at hSw);go_simp;(try with_reducible rfl)));(simp only [put_lit,List.set]))
    (refine tk (i:=16) (v:=?_) rfl rfl (Or.inl ⟨by rfl,?_⟩) ?_;rotate_left;(focus (intro w hSw;(try dsimp only at hSw);go_simp;(try with_reducible rfl)));(simp only [put_lit,List.set]))
    (refine tk (i:=17) (v:=?_) rfl rfl (Or.inl ⟨by rfl,?_⟩) ?_;rotate_left;(focus (intro w hSw;(try dsimp only at hSw);go_simp;(try with_reducible rfl)));(simp only [put_lit,List.set]))
    (refine wpAnyH_ready (rs:=[18]) (by kernel_rfl) (by simp) ?_;refine AllReadyH.cons rfl (fun K hK=>?_) AllReadyH.nil;go_simp)
    refine (point_any k0 k1 k2 k3 _ a0 a1 a2 a3).mono ?_
    rintro e w8 ⟨rfl,hb8⟩
    have hbz:Below w7.heap.size w7 w8:=(Below.trans Bel.go (hb8.mono (by simp<;>omega)));replace HI:=Lib.hid (HI.out.below hbz);replace Hbw:=Lib.hid (Hbw.out.trans (hbz.mono Hbw.out.size));replace hbl:=Nat.lt_of_lt_of_le hbl hbz.size;clear hbz
    by_cases g3:(fq8 k0 k1).v=(fq8 k2 k3).v
    ·rw [decide_eq_true g3]
     have FIN:=Lib.hid (NX.out fun h=>(h.2 G2.out).2 ((fcmp_zero p1 p2).2 g3))
     clear g3
     obtain ⟨hcx,hfx⟩:=bcellS hb8;refine hK.out _ _ ?_ (fun _=>?_);(focus (((try dsimp only);repeat' apply And.intro)<;>(rw [hcx _ (by go_simp)];go_simp)));clear hHeld hK K hcx hfx;rename_i hHeld;clear hb8
     (refine tk (i:=19) (v:=?_) rfl rfl (Or.inl ⟨by rfl,?_⟩) ?_;rotate_left;(focus (intro w hSw;(try dsimp only at hSw);go_simp;(try with_reducible rfl)));(simp only [put_lit,List.set]))
     (refine take_at (i:=20) (oi:=_) (v:=undef) rfl rfl (by kernel_rfl) (by kernel_rfl) (by kernel_rfl) (fun _ _ _ h=>h) (Or.inr ⟨by rfl,rfl⟩) (by assumption) ?_;(simp only [put_lit,List.set]))
     (refine take_at (i:=21) (oi:=_) (v:=undef) rfl rfl (by kernel_rfl) (by kernel_rfl) (by kernel_rfl) (fun _ _ _ h=>h) (Or.inr ⟨by rfl,rfl⟩) (by assumption) ?_;(simp only [put_lit,List.set]))
     (refine take_at (i:=22) (oi:=_) (v:=undef) rfl rfl (by kernel_rfl) (by kernel_rfl) (by kernel_rfl) (fun _ _ _ h=>h) (Or.inr ⟨by rfl,rfl⟩) (by assumption) ?_;(simp only [put_lit,List.set]))
     (refine take_at (i:=23) (oi:=_) (v:=undef) rfl rfl (by kernel_rfl) (by kernel_rfl) (by kernel_rfl) (fun _ _ _ h=>h) (Or.inr ⟨by rfl,rfl⟩) (by assumption) ?_;(simp only [put_lit,List.set]))
     (refine take_at (i:=24) (oi:=_) (v:=undef) rfl rfl (by kernel_rfl) (by kernel_rfl) (by kernel_rfl) (fun _ _ _ h=>h) (Or.inr ⟨by rfl,rfl⟩) (by assumption) ?_;(simp only [put_lit,List.set]))
     (refine take_at (i:=25) (oi:=_) (v:=undef) rfl rfl (by kernel_rfl) (by kernel_rfl) (by kernel_rfl) (fun _ _ _ h=>h) (Or.inr ⟨by rfl,rfl⟩) (by assumption) ?_;(simp only [put_lit,List.set]))
     (refine tk (i:=26) (v:=?_) rfl rfl (Or.inl ⟨by rfl,?_⟩) ?_;rotate_left;(focus (intro w hSw;(try dsimp only at hSw);go_simp;(try with_reducible rfl)));(simp only [put_lit,List.set]))
     (refine tk (i:=27) (v:=?_) rfl rfl (Or.inl ⟨by rfl,?_⟩) ?_;rotate_left;(focus (intro w hSw;(try dsimp only at hSw);go_simp;(try with_reducible rfl)));(simp only [put_lit,List.set]))
     refine wpAnyH_done (by kernel_rfl) ?_ _
     clear hHeld c0 c1 c2 c3 d0 d1 d2 d3 ST NX
     (go_wp2_with fail;go_ret;exact ⟨.no FIN.out,Hbw.out⟩)
    rw [decide_eq_false g3]
    have G3:=Lib.hid (show fcmp (fq8 k0 k1) (fq8 k2 k3)≠0 from fun h=>g3 ((fcmp_zero p1 p2).1 h))
    clear g3
    obtain ⟨hcx,hfx⟩:=bcellS hb8;refine hK.out _ _ ?_ (fun _=>?_);(focus (((try dsimp only);repeat' apply And.intro)<;>(rw [hcx _ (by go_simp)];go_simp)));clear hHeld hK K hcx hfx;rename_i hHeld;clear hb8
    (refine tk (i:=19) (v:=?_) rfl rfl (Or.inl ⟨by rfl,?_⟩) ?_;rotate_left;(focus (intro w hSw;(try dsimp only at hSw);go_simp;(try with_reducible rfl)));(simp only [put_lit,List.set]))
    (refine tk (i:=20) (v:=?_) rfl rfl (Or.inl ⟨by rfl,?_⟩) ?_;rotate_left;(focus (intro w hSw;(try dsimp only at hSw);go_simp;(try with_reducible rfl)));(simp only [put_lit,List.set]))
    (refine tk (i:=21) (v:=?_) rfl rfl (Or.inl ⟨by rfl,?_⟩) ?_;rotate_left;(focus (intro w hSw;(try dsimp only at hSw);go_simp;(try with_reducible rfl)));(simp only [put_lit,List.set]))
    (refine tk (i:=22) (v:=?_) rfl rfl (Or.inl ⟨by rfl,?_⟩) ?_;rotate_left;(focus (intro w hSw;(try dsimp only at hSw);go_simp;(try with_reducible rfl)));(simp only [put_lit,List.set]))
    (refine tk (i:=23) (v:=?_) rfl rfl (Or.inl ⟨by rfl,?_⟩) ?_;rotate_left;(focus (intro w hSw;(try dsimp only at hSw);go_simp;(try with_reducible rfl)));(simp only [put_lit,List.set]))
    (refine tk (i:=24) (v:=?_) rfl rfl (Or.inl ⟨by rfl,?_⟩) ?_;rotate_left;(focus (intro w hSw;(try dsimp only at hSw);go_simp;(try with_reducible rfl)));(simp only [put_lit,List.set]))
    (refine wpAnyH_ready (rs:=[25]) (by kernel_rfl) (by simp) ?_;refine AllReadyH.cons rfl (fun K hK=>?_) AllReadyH.nil;go_simp)
    refine (point_any j0 j1 j2 j3 _ b0 b1 b2' b3).mono ?_
    rintro e w9 ⟨rfl,hb9⟩
    have hbz:Below w8.heap.size w8 w9:=(Below.trans Bel.go (hb9.mono (by simp<;>omega)));replace HI:=Lib.hid (HI.out.below hbz);replace Hbw:=Lib.hid (Hbw.out.trans (hbz.mono Hbw.out.size));replace hbl:=Nat.lt_of_lt_of_le hbl hbz.size;clear hbz
    by_cases g4:(fq8 j0 j1).v=(fq8 j2 j3).v
    ·rw [decide_eq_true g4]
     have FIN:=Lib.hid (NX.out fun h=>(h.2 G2.out).1 ((fcmp_zero p3 p4).2 g4))
     clear g4
     obtain ⟨hcx,hfx⟩:=bcellS hb9;refine hK.out _ _ ?_ (fun _=>?_);(focus (((try dsimp only);repeat' apply And.intro)<;>(rw [hcx _ (by go_simp)];go_simp)));clear hHeld hK K hcx hfx;rename_i hHeld;clear hb9
     (refine tk (i:=26) (v:=?_) rfl rfl (Or.inl ⟨by rfl,?_⟩) ?_;rotate_left;(focus (intro w hSw;(try dsimp only at hSw);go_simp;(try with_reducible rfl)));(simp only [put_lit,List.set]))
     (refine tk (i:=27) (v:=?_) rfl rfl (Or.inl ⟨by rfl,?_⟩) ?_;rotate_left;(focus (intro w hSw;(try dsimp only at hSw);go_simp;(try with_reducible rfl)));(simp only [put_lit,List.set]))
     refine wpAnyH_done (by kernel_rfl) ?_ _
     clear hHeld c0 c1 c2 c3 d0 d1 d2 d3 ST NX
     (go_wp2_with fail;go_ret;exact ⟨.no FIN.out,Hbw.out⟩)
    rw [decide_eq_false g4]
    have FIN:=Lib.hid (ST.out ⟨G1.out,fun _=>⟨fun h=>g4 ((fcmp_zero p3 p4).1 h),G3.out⟩⟩)
    clear g4
    obtain ⟨hcx,hfx⟩:=bcellS hb9;refine hK.out _ _ ?_ (fun _=>?_);(focus (((try dsimp only);repeat' apply And.intro)<;>(rw [hcx _ (by go_simp)];go_simp)));clear hHeld hK K hcx hfx;rename_i hHeld;clear hb9
    (refine tk (i:=26) (v:=?_) rfl rfl (Or.inl ⟨by rfl,?_⟩) ?_;rotate_left;(focus (intro w hSw;(try dsimp only at hSw);go_simp;(try with_reducible rfl)));(simp only [put_lit,List.set]))
    (refine tk (i:=27) (v:=?_) rfl rfl (Or.inl ⟨by rfl,?_⟩) ?_;rotate_left;(focus (intro w hSw;(try dsimp only at hSw);go_simp;(try with_reducible rfl)));(simp only [put_lit,List.set]))
    refine wpAnyH_done (by kernel_rfl) ?_ _
    clear hHeld c0 c1 c2 c3 d0 d1 d2 d3 ST NX
    go_wp2_with fail
    go_roundw;(case rel=>exact ⟨k+1,Hkl.out,by go_num,fun i hi=>(by by_cases hi2:i<k;exact Hst.out i hi2;obtain rfl:i=k:=(by omega);exact FIN.out),Hbw.out⟩);(case measure=>have:=Hkl.out;simp [intOf];omega)
  ·have ka:¬ (k:Int)<(la:Int):=by omega
   have FIN:=Lib.hid (show Sepa (ivf qs) from fun i hi=>Hst.out i (by rw [Hrl.out] at hi;omega))
   go_wp2_with fail
   go_ret
   exact ⟨.yes FIN.out,Hbw.out⟩
end Go.Proofs.YtppggpfcdgilmaaGreat
namespace Go.Proofs.YtppggpfcdgilmaaGreat
open Go Go.RowKit
section
variable {rs:List (Fq×Fq)} {k i:Nat}
theorem gapl_not (h:¬ Sepa rs):gapl rs=[]:=by unfold gapl;rw [if_neg h]
theorem gapl_len (h:Sepa rs):(gapl rs).length=rs.length+1:=by
 unfold gapl
 rw [if_pos h]
 split
 ·rename_i h0
  rw [h0];rfl
 ·have:=gapp_len rs (rs.length-1)
  rw [List.length_append,this]
  simp
  omega
theorem gapl_at (h:Sepa rs) (hi:i≤rs.length) (h0:0<rs.length):(gapl rs).getD i ⟨0,1⟩=if i=rs.length then (rs.getD (rs.length-1) r00).2.add ⟨1,1⟩ else gapv rs i:=by
 have hgl:=gapp_len rs (rs.length-1)
 unfold gapl
 rw [if_pos h,if_neg (by omega)]
 by_cases c:i=rs.length
 ·rw [if_pos c,List.getD_eq_getElem?_getD,List.getElem?_append_right (by omega),hgl,show i-(rs.length-1+1)=0 by omega]
  rfl
 ·rw [if_neg c,List.getD_eq_getElem?_getD,List.getElem?_append_left (by omega),← List.getD_eq_getElem?_getD]
  exact gapp_get _ _ _ (by omega)
theorem half_le {a b:Rat} (h:a≤b):a≤(a+b) / 2∧(a+b) / 2≤b:=⟨by grind,by grind⟩
theorem half_ne {a b:Rat} (h:a≠b):(a+b) / 2≠a∧(a+b) / 2≠b:=⟨by grind,by grind⟩
theorem sepa_le (hs:Sepa rs) (hq:∀ j,j<rs.length→0<(rs.getD j r00).1.q∧0<(rs.getD j r00).2.q) (hk:k+1<rs.length) :
  (rs.getD k r00).2.v≤(rs.getD (k+1) r00).1.v∧((rs.getD k r00).2.v=(rs.getD (k+1) r00).1.v→(rs.getD k r00).1.v≠(rs.getD k r00).2.v∧(rs.getD (k+1) r00).1.v≠(rs.getD (k+1) r00).2.v):=by
 obtain ⟨h1,h2⟩:=(hs (k+1) hk).2 (Nat.succ_pos k)
 rw [Nat.add_sub_cancel] at h1 h2
 obtain ⟨a1,a2⟩:=hq k (by omega)
 obtain ⟨b1,b2⟩:=hq (k+1) hk
 refine ⟨?_,fun e=>?_⟩
 ·rcases Int.lt_or_le 0 (fcmp (rs.getD k r00).2 (rs.getD (k+1) r00).1) with c | c
  ·omega
  ·exact Rat.not_lt.1 fun h=>absurd ((fcmp_pos a2 b1).2 h) (by omega)
 ·obtain ⟨c1,c2⟩:=h2 ((fcmp_zero a2 b1).2 e)
  exact ⟨fun h=>c1 ((fcmp_zero a1 a2).2 h),fun h=>c2 ((fcmp_zero b1 b2).2 h)⟩
theorem gap_lo (hs:Sepa rs) (hq:∀ j,j<rs.length→0<(rs.getD j r00).1.q∧0<(rs.getD j r00).2.q) (hk:k<rs.length) :
  0<((gapl rs).getD k ⟨0,1⟩).q∧((gapl rs).getD k ⟨0,1⟩).v≤(rs.getD k r00).1.v∧((rs.getD k r00).1.v=(rs.getD k r00).2.v→((gapl rs).getD k ⟨0,1⟩).v≠(rs.getD k r00).1.v):=by
 rw [gapl_at hs (by omega) (by omega),if_neg (by omega)]
 unfold gapv
 split
 ·rename_i h0
  subst h0
  obtain ⟨a1,a2⟩:=hq 0 hk
  have hv:=sub_one_v a1
  refine ⟨sub_one_q a1,by rw [hv];grind,fun _=>by rw [hv];grind⟩
 ·obtain ⟨j,rfl⟩:∃ j,k=j+1:=⟨k-1,by omega⟩
  rw [Nat.add_sub_cancel]
  obtain ⟨a1,a2⟩:=hq j (by omega)
  obtain ⟨b1,b2⟩:=hq (j+1) hk
  obtain ⟨hv,hp⟩:=Fq.mid_v a2 b1
  obtain ⟨h1,h2⟩:=sepa_le hs hq hk
  refine ⟨hp,by rw [hv];exact (half_le h1).2,fun e=>?_⟩
  rw [hv]
  exact (half_ne fun c=>(h2 c).2 e).2
theorem gap_hi (hs:Sepa rs) (hq:∀ j,j<rs.length→0<(rs.getD j r00).1.q∧0<(rs.getD j r00).2.q) (hk:k<rs.length) :
  0<((gapl rs).getD (k+1) ⟨0,1⟩).q∧(rs.getD k r00).2.v≤((gapl rs).getD (k+1) ⟨0,1⟩).v∧((rs.getD k r00).1.v=(rs.getD k r00).2.v→((gapl rs).getD (k+1) ⟨0,1⟩).v≠(rs.getD k r00).2.v):=by
 rw [gapl_at hs (by omega) (by omega)]
 obtain ⟨a1,a2⟩:=hq k hk
 split
 ·rename_i h0
  rw [show rs.length-1=k by omega]
  have hv:=add_one_v a2
  refine ⟨add_one_q a2,by rw [hv];grind,fun _=>by rw [hv];grind⟩
 ·unfold gapv
  rw [if_neg (Nat.succ_ne_zero k),Nat.add_sub_cancel]
  obtain ⟨b1,b2⟩:=hq (k+1) (by omega)
  obtain ⟨hv,hp⟩:=Fq.mid_v a2 b1
  obtain ⟨h1,h2⟩:=sepa_le hs hq (show k+1<rs.length by omega)
  refine ⟨hp,by rw [hv];exact (half_le h1).1,fun e=>?_⟩
  rw [hv]
  exact (half_ne fun c=>(h2 c).1 e).1
theorem Sz.mid {a b:Fq} {m n:Nat} (ha:Sz m a) (hb:Sz n b):Sz (m+n+2) (a.mid b):=by
 obtain ⟨h1,h2⟩:=ha.two hb
 have h3:BB^(m+n+1)*2≤BB^(m+n+2):=by
  rw [show m+n+2=(m+n+1)+1 by omega,Nat.pow_succ]
  exact Nat.mul_le_mul_left _ (by rw [BB_eq];decide)
 refine Sz.red (a.z*(b.q:Int)+b.z*(a.q:Int)) (a.q*b.q*2) (Nat.mul_pos (Nat.mul_pos ha.p hb.p) (by decide)) ?_ ?_
 ·omega
 ·exact Nat.le_trans (Nat.mul_le_mul_right 2 h2) h3
theorem sz_one:Sz 0 ⟨1,1⟩:=⟨Nat.one_pos,by simp,by simp⟩
theorem Sz.up {a:Fq} {m n:Nat} (h:Sz m a) (hmn:m≤n):Sz n a:=by
 have h1:BB^m≤BB^n:=Nat.pow_le_pow_right (by rw [BB_eq];decide) hmn
 exact ⟨h.p,Nat.le_trans h.z h1,Nat.le_trans h.q h1⟩
theorem gapl_sz (hs:Sepa rs) (hq:∀ j,j<rs.length→Sz 1 (rs.getD j r00).1∧Sz 1 (rs.getD j r00).2) (h0:0<rs.length) (hi:i≤rs.length):Sz 4 ((gapl rs).getD i ⟨0,1⟩):=by
 rw [gapl_at hs hi h0]
 split
 ·exact ((hq (rs.length-1) (by omega)).2.add sz_one).up (by omega)
 ·unfold gapv
  split
  ·exact ((hq 0 h0).1.sub sz_one).up (by omega)
  ·exact ((hq (i-1) (by omega)).2.mid (hq i (by omega)).1).up (by omega)
theorem fq8_sz {p d:Int} (hp:I8 p) (hd:I8 d):Sz 1 (fq8 p d):=by
 obtain ⟨g,_,_,_,h1,h2,h3⟩:=rt_bd hp hd
 have h4:128≤BB^1:=by rw [BB_eq];decide
 exact ⟨h2,Nat.le_trans h1 h4,Nat.le_trans h3 h4⟩
end
section
variable {w w':World} {g l c:Nat}
theorem sp_len {r:Fq×Fq} {vs:List Value} (h:RtV w r vs):vs.length=6:=by
 obtain ⟨n,A,l,c,B,m,d,n',A',l',c',B',m',d',e,_⟩:=h
 rw [e];rfl
theorem sp_nd {r:Fq×Fq} {vs:List Value} (h:RtV w r vs):∀ u∈vs,Nd u:=by
 obtain ⟨n,A,l,c,B,m,d,n',A',l',c',B',m',d',e,_⟩:=h
 intro u hu
 rw [e] at hu
 simp at hu
 rcases hu with rfl | rfl | rfl | rfl | rfl | rfl
 ·exact nd_bool _
 ·exact nd_slice _ _ _
 ·exact nd_slice _ _ _
 ·exact nd_bool _
 ·exact nd_slice _ _ _
 ·exact nd_slice _ _ _
theorem sp_rts {t base:Nat} {v:Value} {us:List Value} {rs:List (Fq×Fq)} (h:OwnE Nd 6 t base w v us) (hl:Lay (RtV w) rs us):∃ A l c,v=.slice A l c∧RtsAt w A l c rs:=by
 obtain ⟨A,l,c,e,hs⟩:=h.sle (by decide) hl fun x vs hx=>sp_len hx
 exact ⟨A,l,c,e,hs.length,hs.cap,hs.elems⟩
theorem sp_ndz:∀ j,j<6→Nd (rootZero.cells[j]!):=fun j hj=>by
 match j,hj with
 | 0,_=>exact nd_bool _
 | 1,_=>exact nd_slice _ _ _
 | 2,_=>exact nd_slice _ _ _
 | 3,_=>exact nd_bool _
 | 4,_=>exact nd_slice _ _ _
 | 5,_=>exact nd_slice _ _ _
theorem sp_lay {B:Nat} {t:TypeId} {v v':Value} {us vs:List Value} {xs ys:List (Fq×Fq)} (h:GrE Nd 6 t B w v us vs v' w') (hl:Lay (RtV w) xs us) (hy:Lay (RtV w) ys vs):Lay (RtV w') (xs ++ ys) (us ++ vs):=by
 have hm:∀ x vs,RtV w x vs→RtV w' x vs:=by
  rcases h.2 with ⟨g,n,n',cap,_,_,_,_,hc,hf⟩ | ⟨hb,_⟩
  ·exact fun x vs hx=>hx.frs hf (fun o u hu=>(hc o u hu).1) (fun o u hu=>(hc o u hu).1)
  ·exact fun x vs hx=>hx.below hb
 exact (hl.mono hm).appl (hy.mono hm)
def SpI (rs:List (Fq×Fq)) (k B:Nat) (v:Value) (w:World):Prop:=∃ us,OwnE Nd 6 38 B w v us∧Lay (RtV w) (rs.take k) us∧us.length=k*6
theorem SpI.below {rs:List (Fq×Fq)} {k B:Nat} {v:Value} (h:SpI rs k B v w) (hb:Below w.heap.size w w'):SpI rs k B v w':=by
 obtain ⟨us,h1,h2,h3⟩:=h
 exact ⟨us,h1.below hb,h2.mono fun x vs hx=>hx.below hb,h3⟩
theorem SpI.next {rs:List (Fq×Fq)} {k B:Nat} {v v':Value} {us vs:List Value} (hk:k<rs.length) (h:GrE Nd 6 38 B w v us vs v' w') (hl:Lay (RtV w) (rs.take k) us) (hu:us.length=k*6) (hy:RtV w (rs.getD k r00) vs):SpI rs (k+1) B v' w':=by
 refine ⟨us ++ vs,h.1,?_,by rw [List.length_append,hu,sp_len hy,Nat.add_mul,Nat.one_mul]⟩
 have e:rs.take (k+1)=rs.take k ++ [rs.getD k r00]:=by
  rw [List.take_add_one,List.getD_eq_getElem?_getD,List.getElem?_eq_getElem hk]
  rfl
 rw [e]
 exact sp_lay h hl ⟨vs,[],hy,by simp,rfl⟩
end
end Go.Proofs.YtppggpfcdgilmaaGreat
namespace Go.Proofs.YtppggpfcdgilmaaGreat
open Go Go.RowKit
theorem sl_getr {w:World} {A:Option Addr} {l c:Nat} {gs:List Fq} (h:SlE 3 RatV w A l c gs) {k:Nat} (hk:k<l) :
  ∃ b o n A1 l1 c1 B m d,A=some ⟨b,o,none⟩∧b<w.heap.size∧w.cell? ⟨b,o+k*3,none⟩=some (.bool n)∧w.cell? ⟨b,o+k*3+1,none⟩=some (.slice A1 l1 c1)∧w.cell? ⟨b,o+k*3+2,none⟩=some (.slice B m d)∧IntN w n A1 l1 c1 (gs.getD k ⟨0,1⟩).z∧NatN w B m d (gs.getD k ⟨0,1⟩).q:=by
 rcases h.elems with ⟨h0,_⟩ | ⟨b,o,e,hb,hv⟩
 ·omega
 ·have hkl:k<gs.length:=by rw [h.length];exact hk
  have eg:gs[k]?=some (gs.getD k ⟨0,1⟩):=by rw [List.getD_eq_getElem?_getD,List.getElem?_eq_getElem hkl];rfl
  obtain ⟨vs,⟨n,A1,l1,c1,B,m,d,ev,h1,h2⟩,hc⟩:=hv k _ eg
  subst ev
  exact ⟨b,o,n,A1,l1,c1,B,m,d,e,hb,hc 0 _ rfl,hc 1 _ rfl,hc 2 _ rfl,h1,h2⟩
theorem sl_below {w w':World} {A:Option Addr} {l c:Nat} {gs:List Fq} (h:SlE 3 RatV w A l c gs) (hb:Below w.heap.size w w'):SlE 3 RatV w' A l c gs:=h.below hb fun _ _ hx=>hx.below hb
theorem IvAt.sz {w:World} {A:Option Addr} {la ca:Nat} {qs:List (Int×Int×Int×Int)} (h:IvAt w A la ca qs):∀ j,j<(ivf qs).length→Sz 1 ((ivf qs).getD j r00).1∧Sz 1 ((ivf qs).getD j r00).2:=fun j hj=>by
 have hj':j<qs.length:=by unfold ivf at hj;rwa [List.length_map] at hj
 have hm:qs.getD j (0,0,0,0)∈qs:=by
  rw [List.getD_eq_getElem?_getD,List.getElem?_eq_getElem hj']
  exact List.getElem_mem _
 obtain ⟨h0,h1,h2,h3⟩:=h.i8 _ hm
 rw [ivf_get hj']
 exact ⟨fq8_sz h0 h1,fq8_sz h2 h3⟩
set_option maxRecDepth 100000 in
set_option maxHeartbeats 16000000 in
theorem law_separates (A:Option Addr) (la ca:Nat) (qs:List (Int×Int×Int×Int)) (w:World) (h:IvAt w A la ca qs) (hlm:la≤9223372036854775807) :
  Calls Tryz.prog 5 #[.slice A la ca] w fun e w'=>e=.returned (.bool true)∧Below w.heap.size w w':=by
 obtain ⟨i0,hi,hz0,hz1,hz2⟩:=info_parts info_root
 have HI:=Lib.hid h
 have Hrl:=Lib.hid (show (ivf qs).length=la by unfold ivf;rw [List.length_map];exact h.length)
 have Hfq:=Lib.hid (ivf_fqb h)
 have Hsz:=Lib.hid h.sz
 clear h
 go_enter Tryz.func5,Tryz.ntmps5
 go_wp2_with fail
 refine (awake16_any _).mono ?_
 rintro e w1 ⟨rfl,hb1⟩
 replace HI:=Lib.hid (HI.out.below hb1)
 have Hb:=Lib.hid hb1
 clear hb1
 by_cases h5:5<la
 ·have g5:(5:Int)<(la:Int):=by omega
  go_wp2_with fail
  refine (awake16_any _).mono ?_
  rintro e w2 ⟨rfl,hb2⟩
  replace Hb:=Lib.hid (Hb.out.trans (hb2.mono Hb.out.size))
  clear hb2
  go_wp2
  go_ret
  exact ⟨rfl,Hb.out⟩
 have g5:¬ (5:Int)<(la:Int):=by omega
 obtain ⟨B0,hB0⟩:∃ B,B=w1.heap.size:=⟨_,rfl⟩
 have HB0:=Lib.hid hB0
 have HBb:=Lib.hid (show ∀ b o,A=some ⟨b,o,none⟩→0<la→b<B0 from fun b o e hl=>by
  obtain ⟨b',o',e',hb'⟩:=HI.out.get hl
  rw [e] at e'
  cases e'
  rw [hB0]
  exact hb')
 clear hB0
 go_wp2_with fail
 go_loopw [3,4] (fun s3 s4 wr=>∃ k:Nat,k≤la∧s4=.int .i64 (k:Int)∧SpI (ivf qs) k B0 s3 wr∧Below w1.heap.size w1 wr) (fun _ s4 _=>la-(intOf s4).toNat)
 case atStart=>exact ⟨0,Nat.zero_le _,rfl,⟨[],OwnE.nil _ _ _ _ _,rfl,rfl⟩,Bel.go⟩
 case round =>
  obtain ⟨k,hk,rfl,hsp,hbw⟩:=hrel
  have HSp:=Lib.hid hsp
  replace HI:=Lib.hid (HI.out.below hbw)
  have Hbw:=Lib.hid hbw
  have HBr:=Lib.hid (show B0≤wr.heap.size by rw [HB0.out];exact hbw.size)
  clear hsp hbw
  by_cases hlt:k<la
  ·have Hkl:=Lib.hid hlt
   obtain ⟨b,o,rfl,hbl⟩:=HI.out.get hlt
   obtain ⟨k0,k1,k2,k3,a0,a1,a2,a3,c0,c1,c2,c3,hr⟩:=HI.out.at hlt
   have Hr:=Lib.hid hr
   have ka:(k:Int)<(la:Int):=by omega
   have w0:IntKind.i64.wrap ((k:Int)+1)=(k:Int)+1:=IntWalk.i64_in _ (by have:=Hkl.out;omega)
   clear hk hr
   go_wp2_with fail
   refine wp_region_held_drew (S:=fun w'=>w'.cell? ⟨b,o+k*4,none⟩=some (.int .i8 k0)∧w'.cell? ⟨b,o+k*4+1,none⟩=some (.int .i8 k1)∧w'.cell? ⟨b,o+k*4+2,none⟩=some (.int .i8 k2)∧w'.cell? ⟨b,o+k*4+3,none⟩=some (.int .i8 k3)) (by kernel_rfl) (by (try dsimp only);go_keep) (fun hHeld=>?_)
   (refine tk (i:=0) (v:=?_) rfl rfl (Or.inl ⟨by rfl,?_⟩) ?_;rotate_left;(focus (intro w hSw;(try dsimp only at hSw);go_simp;(try with_reducible rfl)));(simp only [put_lit,List.set]))
   (refine tk (i:=1) (v:=?_) rfl rfl (Or.inl ⟨by rfl,?_⟩) ?_;rotate_left;(focus (intro w hSw;(try dsimp only at hSw);go_simp;(try with_reducible rfl)));(simp only [put_lit,List.set]))
   (refine tk (i:=2) (v:=?_) rfl rfl (Or.inl ⟨by rfl,?_⟩) ?_;rotate_left;(focus (intro w hSw;(try dsimp only at hSw);go_simp;(try with_reducible rfl)));(simp only [put_lit,List.set]))
   (refine tk (i:=3) (v:=?_) rfl rfl (Or.inl ⟨by rfl,?_⟩) ?_;rotate_left;(focus (intro w hSw;(try dsimp only at hSw);go_simp;(try with_reducible rfl)));(simp only [put_lit,List.set]))
   (refine tk (i:=4) (v:=?_) rfl rfl (Or.inl ⟨by rfl,?_⟩) ?_;rotate_left;(focus (intro w hSw;(try dsimp only at hSw);go_simp;(try with_reducible rfl)));(simp only [put_lit,List.set]))
   (refine tk (i:=5) (v:=?_) rfl rfl (Or.inl ⟨by rfl,?_⟩) ?_;rotate_left;(focus (intro w hSw;(try dsimp only at hSw);go_simp;(try with_reducible rfl)));(simp only [put_lit,List.set]))
   (refine tk (i:=7) (v:=?_) rfl rfl (Or.inl ⟨by rfl,?_⟩) ?_;rotate_left;(focus (intro w hSw;(try dsimp only at hSw);go_simp;(try with_reducible rfl)));(simp only [put_lit,List.set]))
   (refine tk (i:=8) (v:=?_) rfl rfl (Or.inl ⟨by rfl,?_⟩) ?_;rotate_left;(focus (intro w hSw;(try dsimp only at hSw);go_simp;(try with_reducible rfl)));(simp only [put_lit,List.set]))
   (refine tk (i:=9) (v:=?_) rfl rfl (Or.inl ⟨by rfl,?_⟩) ?_;rotate_left;(focus (intro w hSw;(try dsimp only at hSw);go_simp;(try with_reducible rfl)));(simp only [put_lit,List.set]))
   (refine tk (i:=10) (v:=?_) rfl rfl (Or.inl ⟨by rfl,?_⟩) ?_;rotate_left;(focus (intro w hSw;(try dsimp only at hSw);go_simp;(try with_reducible rfl)));(simp only [put_lit,List.set]))
   (refine tk (i:=11) (v:=?_) rfl rfl (Or.inl ⟨by rfl,?_⟩) ?_;rotate_left;(focus (intro w hSw;(try dsimp only at hSw);go_simp;(try with_reducible rfl)));(simp only [put_lit,List.set]))
   (refine wpAnyH_ready (rs:=[6]) (by kernel_rfl) (by simp) ?_;refine AllReadyH.cons rfl (fun K hK=>?_) AllReadyH.nil;go_simp)
   refine (rat15_any k0 k1 _ a0 a1).mono ?_
   rintro e w4 ⟨⟨n4,A4,l4,c4,B4,m4,d4,rfl,h4,q4⟩,hb4⟩
   have hbz:Below wr.heap.size wr w4:=(Below.trans Bel.go (hb4.mono (by simp<;>omega)))
   replace Hbw:=Lib.hid (Hbw.out.trans (hbz.mono Hbw.out.size))
   have G4:=Lib.hid hbz
   have H4:=Lib.hid (And.intro h4 q4)
   clear h4 q4 hbz
   obtain ⟨hcx,hfx⟩:=bcellS hb4;refine hK.out _ _ ?_ (fun _=>?_);(focus (((try dsimp only);repeat' apply And.intro)<;>(rw [hcx _ (by go_simp)];go_simp)));clear hHeld hK K hcx hfx;rename_i hHeld;clear hb4
   clear c0 c1 c2 c3
   have hbl4:b<w4.heap.size:=Nat.lt_of_lt_of_le hbl G4.out.size
   have hh:=hHeld
   obtain ⟨c0,c1,c2,c3⟩:w4.cell? ⟨b,o+k*4,none⟩=some (.int .i8 k0)∧w4.cell? ⟨b,o+k*4+1,none⟩=some (.int .i8 k1)∧w4.cell? ⟨b,o+k*4+2,none⟩=some (.int .i8 k2)∧w4.cell? ⟨b,o+k*4+3,none⟩=some (.int .i8 k3):=hh
   (refine wpAnyH_ready (rs:=[12]) (by kernel_rfl) (by simp) ?_;refine AllReadyH.cons rfl (fun K hK=>?_) AllReadyH.nil;go_simp)
   refine (rat15_any k2 k3 _ a2 a3).mono ?_
   rintro e w5 ⟨⟨n5,A5,l5,c5,B5,m5,d5,rfl,h5,q5⟩,hb5⟩
   have hbz:Below w4.heap.size w4 w5:=(Below.trans Bel.go (hb5.mono (by simp<;>omega)))
   replace Hbw:=Lib.hid (Hbw.out.trans (hbz.mono Hbw.out.size))
   replace G4:=Lib.hid (G4.out.trans (hbz.mono G4.out.size))
   replace H4:=Lib.hid (And.intro (H4.out.1.below hbz) (H4.out.2.below hbz))
   have H5:=Lib.hid (And.intro h5 q5)
   clear h5 q5 hbz
   obtain ⟨hcx,hfx⟩:=bcellS hb5;refine hK.out _ _ ?_ (fun _=>?_);(focus (((try dsimp only);repeat' apply And.intro)<;>(rw [hcx _ (by go_simp)];go_simp)));clear hHeld hK K hcx hfx;rename_i hHeld;clear hb5
   clear c0 c1 c2 c3
   have hbl5:b<w5.heap.size:=Nat.lt_of_lt_of_le hbl G4.out.size
   have hh:=hHeld
   obtain ⟨c0,c1,c2,c3⟩:w5.cell? ⟨b,o+k*4,none⟩=some (.int .i8 k0)∧w5.cell? ⟨b,o+k*4+1,none⟩=some (.int .i8 k1)∧w5.cell? ⟨b,o+k*4+2,none⟩=some (.int .i8 k2)∧w5.cell? ⟨b,o+k*4+3,none⟩=some (.int .i8 k3):=hh
   (refine tk (i:=13) (v:=?_) rfl rfl (Or.inl ⟨by rfl,?_⟩) ?_;rotate_left;(focus (intro w hSw;(try dsimp only at hSw);go_simp;(try with_reducible rfl)));(simp only [put_lit,List.set]))
   refine wpAnyH_ready (rs:=[14]) (by kernel_rfl) (by simp) ?_;refine AllReadyH.cons rfl (fun K hK=>?_) AllReadyH.nil;go_simp;refine hK.out _ _ ?_ (fun _=>?_);(focus ((try dsimp only);go_keep));clear hHeld hK K;rename_i hHeld;(try (simp only [put_lit,List.set]))
   have o6:=below_new w5 (.cells #[.bool n4,.slice A4 l4 c4,.slice B4 m4 d4,.bool n5,.slice A5 l5 c5,.slice B5 m5 d5] 38)
   have G6:=Lib.hid (G4.out.trans (o6.mono G4.out.size))
   have R6:=Lib.hid (show RtV (w5.alloc (.cells #[.bool n4,.slice A4 l4 c4,.slice B4 m4 d4,.bool n5,.slice A5 l5 c5,.slice B5 m5 d5] 38)) ((ivf qs).getD k r00) [.bool n4,.slice A4 l4 c4,.slice B4 m4 d4,.bool n5,.slice A5 l5 c5,.slice B5 m5 d5] by rw [Hr.out];exact ⟨n4,A4,l4,c4,B4,m4,d4,n5,A5,l5,c5,B5,m5,d5,rfl,H4.out.1.below o6,H4.out.2.below o6,H5.out.1.below o6,H5.out.2.below o6⟩)
   obtain ⟨us,ho,hl,hul⟩:=HSp.out.below G6.out
   have Hul:=Lib.hid hul
   clear hul o6
   refine wpAnyH_ready (rs:=[15]) (by kernel_rfl) (by simp) ?_;refine AllReadyH.cons rfl (fun K hK=>?_) AllReadyH.nil;rw [if_pos (by rfl)];refine oper_append_own (.tmp 23) (.tmp 37) 48 38 rfl 6 i0 rootZero Tryz.underlying48 hi hz0 hz1 (by rw [hz2];omega) rfl Nd (fun _ h=>h) sp_ndz (by decide) B0 _ us _ rfl (ho) (by have:=G6.out.size;have:=HBr.out;simp at *;omega) ⟨_,0,none⟩ 1 1 rfl rfl (addr0 (newrow_cells _ _ _)) (sp_nd R6.out) (.inl (by decide)) (by rw [Hul.out];simp;have:=Hkl.out;omega) 38 rfl ?_;intro v2 w9 hgr
   have hb9:=hgr.below (by have:=G6.out.size;have:=HBr.out;simp at *;omega);refine hK.out _ _ ?_ (fun _=>?_);(focus (((try dsimp only);repeat' apply And.intro)<;>(rw [hb9.cell (HBb.out _ _ rfl (by have:=Hkl.out;omega))];go_simp)));clear hHeld hK K;rename_i hHeld;(try (simp only [put_lit,List.set]))
   have HN:=Lib.hid (SpI.next (by rw [Hrl.out];exact Hkl.out) hgr hl Hul.out R6.out)
   (refine tk (i:=16) (v:=?_) rfl rfl (Or.inl ⟨by rfl,?_⟩) ?_;rotate_left;(focus (intro w hSw;(try dsimp only at hSw);go_simp;(try with_reducible rfl)));(simp only [put_lit,List.set]))
   refine wpAnyH_done (by kernel_rfl) ?_ _
   replace Hbw:=Lib.hid (Hbw.out.trans (((below_new w5 _).mono Hbw.out.size).trans (by rw [← HB0.out];exact hb9)))
   clear hgr hb9 hHeld c0 c1 c2 c3 hl ho Hul G4 H4 H5 R6 HSp
   go_wp2_with fail
   go_roundw
   case rel=>exact ⟨k+1,Hkl.out,by go_num,HN.out,Hbw.out⟩
   case measure=>have:=Hkl.out;simp [intOf];omega
  ·have t1:¬ (k:Int)<(la:Int):=by omega
   obtain rfl:la=k:=by omega
   have e:(ivf qs).take la=ivf qs:=List.take_of_length_le (by rw [Hrl.out];exact Nat.le_refl _)
   obtain ⟨us,ho,hl,_⟩:=HSp.out
   rw [e] at hl
   obtain ⟨A3,l3,c3,rfl,hrt⟩:=sp_rts ho hl
   obtain rfl:la=l3:=by rw [← hrt.length];exact Hrl.out.symm
   have HT:=Lib.hid hrt
   replace Hb:=Lib.hid (Hb.out.trans (Hbw.out.mono Hb.out.size))
   clear hrt hl ho e HSp hk hlt Hbw HBr HB0
   go_wp2_with fail
   refine (gaps_any HT.out Hfq.out (by omega)).mono ?_
   rintro e w4 ⟨⟨A4,l4,c4,rfl,h4⟩,hb4⟩
   have Hl4:=Lib.hid h4.length
   have HG:=Lib.hid h4
   replace HT:=Lib.hid (HT.out.below hb4)
   replace HI:=Lib.hid (HI.out.below hb4)
   replace Hb:=Lib.hid (Hb.out.trans (hb4.mono Hb.out.size))
   clear h4 hb4
   go_wp2_with fail
   refine (sep16_any HI.out (by omega)).mono ?_
   rintro e w5 ⟨⟨v,rfl,hv⟩,hb5⟩
   replace HG:=Lib.hid (sl_below HG.out hb5)
   replace HT:=Lib.hid (HT.out.below hb5)
   replace HI:=Lib.hid (HI.out.below hb5)
   replace Hb:=Lib.hid (Hb.out.trans (hb5.mono Hb.out.size))
   clear hb5
   by_cases hs:Sepa (ivf qs)
   ·obtain rfl:v=true:=hv.2 hs
    have el4:l4=la+1:=by rw [← Hl4.out,gapl_len hs,Hrl.out]
    have b1:((l4:Int) != (la:Int)+1)=false:=by rw [el4];simp
    have El4:=Lib.hid el4
    clear el4
    have Hs:=Lib.hid hs
    have w0:IntKind.i64.wrap ((la:Int)+1)=(la:Int)+1:=IntWalk.i64_in _ (by omega)
    clear hs hv t1
    go_wp2_with fail
    go_loopw [6,7,8] (fun s6 s7 s8 wr=>∃ k:Nat,k≤la∧s6=.int .i64 (k:Int)∧Below w5.heap.size w5 wr) (fun s6 _ _ _=>la-(intOf s6).toNat)
    case atStart=>exact ⟨0,Nat.zero_le _,rfl,Bel.go⟩
    case round =>
     obtain ⟨k,hk,rfl,hbw⟩:=hrel
     replace HG:=Lib.hid (sl_below HG.out hbw)
     replace HT:=Lib.hid (HT.out.below hbw)
     replace HI:=Lib.hid (HI.out.below hbw)
     have Hbw:=Lib.hid hbw
     clear hbw
     by_cases hlt:k<la
     ·have Hkl:=Lib.hid hlt
      have hkr:k<(ivf qs).length:=by rw [Hrl.out];exact hlt
      obtain ⟨b,o,rfl,hbb⟩:=HI.out.get hlt
      obtain ⟨k0,k1,k2,k3,a0,a1,a2,a3,c0,c1',c2',c3',hr⟩:=HI.out.at hlt
      obtain ⟨bg,og,n1,A1,l1,c1,B1,m1,d1,rfl,hbg,e0,e1,e2,z1,z2⟩:=sl_getr HG.out (k:=k) (by have:=El4.out;omega)
      obtain ⟨bg',og',n2,A2,l2,c2,B2,m2,d2,eb,_,f0,f1,f2,y1,y2⟩:=sl_getr HG.out (k:=k+1) (by have:=El4.out;omega)
      cases eb
      obtain ⟨bl,ol,rfl,hbl,hv⟩:∃ b o,A3=some ⟨b,o,none⟩∧b<wr.heap.size∧Vals wr b o (ivf qs):=by
       rcases HT.out.elems with ⟨h0,_⟩ | h
       ·omega
       ·exact h
      obtain ⟨n3,A5,l5,c5,B5,m5,d5,n6,A6,l6,c6,B6,m6,d6,g0,g1,g2,g3,g4,g5',x1,x2,x3,x4⟩:=hv.get hkr
      rw [hr] at x1 x2 x3 x4
      have X:=Lib.hid (And.intro (And.intro x1 x2) (And.intro x3 x4))
      have Z:=Lib.hid (And.intro (And.intro z1 z2) (And.intro y1 y2))
      have Hr:=Lib.hid hr
      have hpos:∀ j,j<(ivf qs).length→0<((ivf qs).getD j r00).1.q∧0<((ivf qs).getD j r00).2.q:=fun j hj=>⟨(Hsz.out j hj).1.p,(Hsz.out j hj).2.p⟩
      have hlo:=gap_lo Hs.out hpos hkr
      have hhi:=gap_hi Hs.out hpos hkr
      have sz1:=gapl_sz Hs.out Hsz.out (i:=k) (by rw [Hrl.out];omega) (by rw [Hrl.out];omega)
      have sz2:=gapl_sz Hs.out Hsz.out (i:=k+1) (by rw [Hrl.out];omega) (by rw [Hrl.out];omega)
      rw [hr] at hlo hhi
      obtain ⟨ga,hga⟩:∃ g,g=(gapl (ivf qs)).getD k ⟨0,1⟩:=⟨_,rfl⟩
      obtain ⟨gb,hgb⟩:∃ g,g=(gapl (ivf qs)).getD (k+1) ⟨0,1⟩:=⟨_,rfl⟩
      rw [← hga] at hlo sz1 Z
      rw [← hgb] at hhi sz2 Z
      have F1:=fq8_b a0 a1
      have F2:=fq8_b a2 a3
      have Lo:=Lib.hid hlo
      have Hi:=Lib.hid hhi
      have t1:(k:Int)<(la:Int):=by omega
      have t2:(k:Int)<(l4:Int):=by have:=El4.out;omega
      have t4:(0:Int)≤(k:Int)+1:=by omega
      have t3:(k:Int)+1<(l4:Int):=by have:=El4.out;omega
      have w1':IntKind.i64.wrap ((k:Int)+1)=(k:Int)+1:=IntWalk.i64_in _ (by omega)
      clear z1 z2 y1 y2 x1 x2 x3 x4 hr hv hlo hhi hpos hga hgb
      go_wp2_with fail
      refine wp_region_held_drew (S:=fun w'=>w'.cell? ⟨bg,og+k*3,none⟩=some (.bool n1)∧w'.cell? ⟨bg,og+k*3+1,none⟩=some (.slice A1 l1 c1)∧w'.cell? ⟨bg,og+k*3+2,none⟩=some (.slice B1 m1 d1)∧w'.cell? ⟨bg,og+(k+1)*3,none⟩=some (.bool n2)∧w'.cell? ⟨bg,og+(k+1)*3+1,none⟩=some (.slice A2 l2 c2)∧w'.cell? ⟨bg,og+(k+1)*3+2,none⟩=some (.slice B2 m2 d2)∧w'.cell? ⟨bl,ol+k*6,none⟩=some (.bool n3)∧w'.cell? ⟨bl,ol+k*6+1,none⟩=some (.slice A5 l5 c5)∧w'.cell? ⟨bl,ol+k*6+2,none⟩=some (.slice B5 m5 d5)∧w'.cell? ⟨bl,ol+k*6+3,none⟩=some (.bool n6)∧w'.cell? ⟨bl,ol+k*6+4,none⟩=some (.slice A6 l6 c6)∧w'.cell? ⟨bl,ol+k*6+5,none⟩=some (.slice B6 m6 d6)) (by kernel_rfl) (by (try dsimp only);go_keep) (fun hHeld=>?_)
      (refine tk (i:=0) (v:=?_) rfl rfl (Or.inl ⟨by rfl,?_⟩) ?_;rotate_left;(focus (intro w hSw;(try dsimp only at hSw);go_simp;(try with_reducible rfl)));(simp only [put_lit,List.set]))
      (refine tk (i:=1) (v:=?_) rfl rfl (Or.inl ⟨by rfl,?_⟩) ?_;rotate_left;(focus (intro w hSw;(try dsimp only at hSw);go_simp;(try with_reducible rfl)));(simp only [put_lit,List.set]))
      (refine tk (i:=2) (v:=?_) rfl rfl (Or.inl ⟨by rfl,?_⟩) ?_;rotate_left;(focus (intro w hSw;(try dsimp only at hSw);go_simp;(try with_reducible rfl)));(simp only [put_lit,List.set]))
      (refine tk (i:=3) (v:=?_) rfl rfl (Or.inl ⟨by rfl,?_⟩) ?_;rotate_left;(focus (intro w hSw;(try dsimp only at hSw);go_simp;(try with_reducible rfl)));(simp only [put_lit,List.set]))
      (refine tk (i:=4) (v:=?_) rfl rfl (Or.inl ⟨by rfl,?_⟩) ?_;rotate_left;(focus (intro w hSw;(try dsimp only at hSw);go_simp;(try with_reducible rfl)));(simp only [put_lit,List.set]))
      (refine tk (i:=5) (v:=?_) rfl rfl (Or.inl ⟨by rfl,?_⟩) ?_;rotate_left;(focus (intro w hSw;(try dsimp only at hSw);go_simp;(try with_reducible rfl)));(simp only [put_lit,List.set]))
      (refine tk (i:=6) (v:=?_) rfl rfl (Or.inl ⟨by rfl,?_⟩) ?_;rotate_left;(focus (intro w hSw;(try dsimp only at hSw);go_simp;(try with_reducible rfl)));(simp only [put_lit,List.set]))
      (refine tk (i:=7) (v:=?_) rfl rfl (Or.inl ⟨by rfl,?_⟩) ?_;rotate_left;(focus (intro w hSw;(try dsimp only at hSw);go_simp;(try with_reducible rfl)));(simp only [put_lit,List.set]))
      (refine tk (i:=8) (v:=?_) rfl rfl (Or.inl ⟨by rfl,?_⟩) ?_;rotate_left;(focus (intro w hSw;(try dsimp only at hSw);go_simp;(try with_reducible rfl)));(simp only [put_lit,List.set]))
      (refine tk (i:=10) (v:=?_) rfl rfl (Or.inl ⟨by rfl,?_⟩) ?_;rotate_left;(focus (intro w hSw;(try dsimp only at hSw);go_simp;(try with_reducible rfl)));(simp only [put_lit,List.set]))
      (refine tk (i:=11) (v:=?_) rfl rfl (Or.inl ⟨by rfl,?_⟩) ?_;rotate_left;(focus (intro w hSw;(try dsimp only at hSw);go_simp;(try with_reducible rfl)));(simp only [put_lit,List.set]))
      (refine tk (i:=12) (v:=?_) rfl rfl (Or.inl ⟨by rfl,?_⟩) ?_;rotate_left;(focus (intro w hSw;(try dsimp only at hSw);go_simp;(try with_reducible rfl)));(simp only [put_lit,List.set]))
      (refine tk (i:=13) (v:=?_) rfl rfl (Or.inl ⟨by rfl,?_⟩) ?_;rotate_left;(focus (intro w hSw;(try dsimp only at hSw);go_simp;(try with_reducible rfl)));(simp only [put_lit,List.set]))
      (refine tk (i:=14) (v:=?_) rfl rfl (Or.inl ⟨by rfl,?_⟩) ?_;rotate_left;(focus (intro w hSw;(try dsimp only at hSw);go_simp;(try with_reducible rfl)));(simp only [put_lit,List.set]))
      (refine tk (i:=15) (v:=?_) rfl rfl (Or.inl ⟨by rfl,?_⟩) ?_;rotate_left;(focus (intro w hSw;(try dsimp only at hSw);go_simp;(try with_reducible rfl)));(simp only [put_lit,List.set]))
      (refine tk (i:=16) (v:=?_) rfl rfl (Or.inl ⟨by rfl,?_⟩) ?_;rotate_left;(focus (intro w hSw;(try dsimp only at hSw);go_simp;(try with_reducible rfl)));(simp only [put_lit,List.set]))
      (refine tk (i:=17) (v:=?_) rfl rfl (Or.inl ⟨by rfl,?_⟩) ?_;rotate_left;(focus (intro w hSw;(try dsimp only at hSw);go_simp;(try with_reducible rfl)));(simp only [put_lit,List.set]))
      (refine tk (i:=18) (v:=?_) rfl rfl (Or.inl ⟨by rfl,?_⟩) ?_;rotate_left;(focus (intro w hSw;(try dsimp only at hSw);go_simp;(try with_reducible rfl)));(simp only [put_lit,List.set]))
      (refine tk (i:=19) (v:=?_) rfl rfl (Or.inl ⟨by rfl,?_⟩) ?_;rotate_left;(focus (intro w hSw;(try dsimp only at hSw);go_simp;(try with_reducible rfl)));(simp only [put_lit,List.set]))
      (refine wpAnyH_ready (rs:=[9]) (by kernel_rfl) (by simp) ?_;refine AllReadyH.cons rfl (fun K hK=>?_) AllReadyH.nil;go_simp)
      refine (rcmp_any _ _ _ _ _ _ _ _ _ _ _ _ _ _ _ _ _ _ _ (Z.out.1.1.below Bel.go).at_ (Z.out.1.2.below Bel.go).at_ (X.out.1.1.below Bel.go).at_ (X.out.1.2.below Bel.go).at_ (Nat.pos_iff_ne_zero.1 sz1.p) (Nat.pos_iff_ne_zero.1 F1.p) (sz1.fz (by rw [FW_eq];decide)) (sz1.fq (by rw [FW_eq];decide)) F1.fz F1.fq).mono ?_
      rintro e w7 ⟨rfl,hb7⟩
      obtain ⟨C1,hC1⟩:∃ C,C=cmpz (ga.z*((fq8 k0 k1).q:Int)) ((fq8 k0 k1).z*(ga.q:Int)):=⟨_,rfl⟩
      rw [← hC1]
      have HC1:=Lib.hid (show C1=fcmp ga (fq8 k0 k1) from hC1)
      have hbz:Below wr.heap.size wr w7:=(Below.trans Bel.go (hb7.mono (by simp<;>omega)))
      replace Hbw:=Lib.hid (Hbw.out.trans (hbz.mono Hbw.out.size))
      replace HG:=Lib.hid (sl_below HG.out hbz)
      replace HT:=Lib.hid (HT.out.below hbz)
      replace HI:=Lib.hid (HI.out.below hbz)
      replace Z:=Lib.hid (And.intro (And.intro (Z.out.1.1.below hbz) (Z.out.1.2.below hbz)) (And.intro (Z.out.2.1.below hbz) (Z.out.2.2.below hbz)))
      replace X:=Lib.hid (And.intro (And.intro (X.out.1.1.below hbz) (X.out.1.2.below hbz)) (And.intro (X.out.2.1.below hbz) (X.out.2.2.below hbz)))
      have c0:=(hbz.cell (p:=⟨b,o+k*4,none⟩) hbb).trans c0
      have c1':=(hbz.cell (p:=⟨b,o+k*4+1,none⟩) hbb).trans c1'
      have c2':=(hbz.cell (p:=⟨b,o+k*4+2,none⟩) hbb).trans c2'
      have c3':=(hbz.cell (p:=⟨b,o+k*4+3,none⟩) hbb).trans c3'
      have hbb7:b<w7.heap.size:=Nat.lt_of_lt_of_le hbb hbz.size
      clear hC1 hbz
      obtain ⟨hcx,hfx⟩:=bcellS hb7;refine hK.out _ _ ?_ (fun _=>?_);(focus (((try dsimp only);repeat' apply And.intro)<;>(rw [hcx _ (by go_simp)];go_simp)));clear hHeld hK K hcx hfx;rename_i hHeld;clear hb7
      (refine wpAnyH_ready (rs:=[20]) (by kernel_rfl) (by simp) ?_;refine AllReadyH.cons rfl (fun K hK=>?_) AllReadyH.nil;go_simp)
      refine (rcmp_any _ _ _ _ _ _ _ _ _ _ _ _ _ _ _ _ _ _ _ (Z.out.2.1.below Bel.go).at_ (Z.out.2.2.below Bel.go).at_ (X.out.2.1.below Bel.go).at_ (X.out.2.2.below Bel.go).at_ (Nat.pos_iff_ne_zero.1 sz2.p) (Nat.pos_iff_ne_zero.1 F2.p) (sz2.fz (by rw [FW_eq];decide)) (sz2.fq (by rw [FW_eq];decide)) F2.fz F2.fq).mono ?_
      rintro e w8 ⟨rfl,hb8⟩
      obtain ⟨C2,hC2⟩:∃ C,C=cmpz (gb.z*((fq8 k2 k3).q:Int)) ((fq8 k2 k3).z*(gb.q:Int)):=⟨_,rfl⟩
      rw [← hC2]
      have HC2:=Lib.hid (show C2=fcmp gb (fq8 k2 k3) from hC2)
      have hbz:Below w7.heap.size w7 w8:=(Below.trans Bel.go (hb8.mono (by simp<;>omega)))
      replace Hbw:=Lib.hid (Hbw.out.trans (hbz.mono Hbw.out.size))
      have c0:=(hbz.cell (p:=⟨b,o+k*4,none⟩) hbb7).trans c0
      have c1':=(hbz.cell (p:=⟨b,o+k*4+1,none⟩) hbb7).trans c1'
      have c2':=(hbz.cell (p:=⟨b,o+k*4+2,none⟩) hbb7).trans c2'
      have c3':=(hbz.cell (p:=⟨b,o+k*4+3,none⟩) hbb7).trans c3'
      clear hC2 hbz X Z
      obtain ⟨hcx,hfx⟩:=bcellS hb8;refine hK.out _ _ ?_ (fun _=>?_);(focus (((try dsimp only);repeat' apply And.intro)<;>(rw [hcx _ (by go_simp)];go_simp)));clear hHeld hK K hcx hfx;rename_i hHeld;clear hb8
      (refine tk (i:=21) (v:=?_) rfl rfl (Or.inl ⟨by rfl,?_⟩) ?_;rotate_left;(focus (intro w hSw;(try dsimp only at hSw);go_simp;(try with_reducible rfl)));(simp only [put_lit,List.set]))
      (refine tk (i:=22) (v:=?_) rfl rfl (Or.inl ⟨by rfl,?_⟩) ?_;rotate_left;(focus (intro w hSw;(try dsimp only at hSw);go_simp;(try with_reducible rfl)));(simp only [put_lit,List.set]))
      refine wpAnyH_done (by kernel_rfl) ?_ _
      clear hHeld e0 e1 e2 f0 f1 f2 g0 g1 g2 g3 g4 g5'
      have j1:¬ 0<C1:=fun h=>by
       rw [HC1.out] at h
       exact absurd ((fcmp_pos Lo.out.1 F1.p).1 h) (Rat.not_lt.2 Lo.out.2.1)
      have j2:¬ C2<0:=fun h=>by
       rw [HC2.out] at h
       exact absurd ((fcmp_neg Hi.out.1 F2.p).1 h) (Rat.not_lt.2 Hi.out.2.1)
      have b3:decide (0<C1)=false:=decide_eq_false j1
      have b4:decide (C2<0)=false:=decide_eq_false j2
      clear j1 j2
      go_wp2_with fail
      refine (point_any k0 k1 k2 k3 _ a0 a1 a2 a3).mono ?_
      rintro e w9 ⟨rfl,hb9⟩
      replace Hbw:=Lib.hid (Hbw.out.trans (hb9.mono Hbw.out.size))
      clear hb9 c0 c1' c2' c3'
      by_cases hp:(fq8 k0 k1).v=(fq8 k2 k3).v
      ·rw [decide_eq_true hp]
       have b5:(C1 == 0)=false:=by rw [beq_eq_false_iff_ne];intro h;rw [HC1.out] at h;exact Lo.out.2.2 hp ((fcmp_zero Lo.out.1 F1.p).1 h)
       have b6:(C2 == 0)=false:=by rw [beq_eq_false_iff_ne];intro h;rw [HC2.out] at h;exact Hi.out.2.2 hp ((fcmp_zero Hi.out.1 F2.p).1 h)
       clear hp
       go_wp2_with fail
       go_roundw
       case rel=>exact ⟨k+1,Hkl.out,by go_num,Hbw.out⟩
       case measure=>have:=Hkl.out;simp [intOf];omega
      ·rw [decide_eq_false hp]
       clear hp
       go_wp2_with fail
       go_roundw
       case rel=>exact ⟨k+1,Hkl.out,by go_num,Hbw.out⟩
       case measure=>have:=Hkl.out;simp [intOf];omega
     ·have t1:¬ (k:Int)<(la:Int):=by omega
      replace Hb:=Lib.hid (Hb.out.trans (Hbw.out.mono Hb.out.size))
      go_wp2
      go_ret
      exact ⟨rfl,Hb.out⟩
   ·obtain rfl:v=false:=by
     cases v
     ·rfl
     ·exact absurd (hv.1 rfl) hs
    obtain rfl:l4=0:=by rw [← Hl4.out,gapl_not hs];rfl
    clear hs hv
    go_wp2
    go_ret
    exact ⟨rfl,Hb.out⟩
end Go.Proofs.YtppggpfcdgilmaaGreat
namespace Go.Proofs.YtppggpfcdgilmaaGreat
open Go.ChangeShapes Go.WideShapes Go.ChangeAt Go.RowKit
set_option maxRecDepth 100000 in
theorem separates_lifted (os:Os) (started:os.Started) (H:Type) (enc:TypeId×Value→H) :
  ReturnsInHanded {} Tryz.checked os 5 .any (Rows.isolateSeparatesSpec.pre6 enc Tryz.prog Tryz.f5 Rows.isolateSeparatesRow.domain false) (Rows.isolateSeparatesSpec.post enc Tryz.prog Tryz.f5 false true false false):=by
 refine returnsInHanded_of_change (C:=Tryz.checked) (show ownKnob Tryz.prog.godebug=none by kernel_rfl) started (by kernel_rfl) Tryz.func5
  (ChangeSpec.witness6 (enc:=enc) (C:=Tryz.checked) false ⟨#[],#[.slice none 0 0],[]⟩ 8 (by kernel_rfl) (by kernel_rfl) (by kernel_rfl) (by kernel_rfl)) ?_
 intro W base args ds gs before hval0 hW hcnd _
 exact lifted_ivs _ Tryz.f5 Tryz.params5 rfl enc _ rfl (fun _=>rfl) (fun A len cap p w h hl=>law_separates A len cap p w h hl) W args ds gs before hval0 hW
theorem isolateSeparates_holds:Rows.IsolateSeparatesSaid :=
 OpenClaim.holds_of_wide 5 Tryz.f5 rfl rfl rfl rfl rfl rfl rfl ⟨rfl,rfl,rfl,rfl,rfl⟩ rfl rfl rfl rfl rfl (by kernel_rfl) Tryz.func5 (by kernel_rfl)
  (of_decide_eq_true (by kernel_rfl)) (by unfold Func.isWrapper;first | (rw [if_pos (by decide +kernel)];kernel_rfl) | (rw [if_neg (by decide +kernel)];exact ⟨rfl,rfl⟩))
  (fun os started H enc _=>separates_lifted os started H enc)
#print axioms isolateSeparates_holds
end Go.Proofs.YtppggpfcdgilmaaGreat
