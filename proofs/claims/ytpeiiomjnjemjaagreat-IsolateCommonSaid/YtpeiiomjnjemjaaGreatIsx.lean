/- The walk of isolate's split: the bisection with what it finds. -/
import Derived.Test.YtpeiiomjnjemjaaGreatSrc
import Derived.Test.YtpeiiomjnjemjaaGreatIsp
import Derived.Test.YtpeiiomjnjemjaaGreatStg
namespace Go.Proofs.YtpeiiomjnjemjaaGreat
open Go Go.RowKit
def RtV (w:World) (r:Fq×Fq) (vs:List Value):Prop :=
 ∃ n A l c B m d n' A' l' c' B' m' d',vs=[.bool n,.slice A l c,.slice B m d,.bool n',.slice A' l' c',.slice B' m' d']/\IntN w n A l c r.1.z/\NatN w B m d r.1.q/\IntN w n' A' l' c' r.2.z/\NatN w B' m' d' r.2.q
theorem RtV.below {w w':World} {r:Fq×Fq} {vs:List Value} (h:RtV w r vs) (hb:Below w.heap.size w w'):RtV w' r vs:=by
 obtain ⟨n,A,l,c,B,m,d,n',A',l',c',B',m',d',e,h1,h2,h3,h4⟩:=h
 exact ⟨n,A,l,c,B,m,d,n',A',l',c',B',m',d',e,h1.below hb,h2.below hb,h3.below hb,h4.below hb⟩
theorem RtV.frs {g g':Nat} {W W':World} {r:Fq×Fq} {vs:List Value} (h:RtV W r vs) (hf:FrS g g' W W') (k1:NdB W g) (k2:NdB W g'):RtV W' r vs:=by
 obtain ⟨n,A,l,c,B,m,d,n',A',l',c',B',m',d',e,h1,h2,h3,h4⟩:=h
 exact ⟨n,A,l,c,B,m,d,n',A',l',c',B',m',d',e,h1.frs hf k1 k2,h2.frs hf k1 k2,h3.frs hf k1 k2,h4.frs hf k1 k2⟩
theorem RtV.len {w:World} {r:Fq×Fq} {vs:List Value} (h:RtV w r vs):vs.length=6:=by
 obtain ⟨n,A,l,c,B,m,d,n',A',l',c',B',m',d',e,h1,h2,h3,h4⟩:=h
 rw[e];rfl
theorem RtV.nd {w:World} {r:Fq×Fq} {vs:List Value} (h:RtV w r vs):∀ v∈vs,Nd v:=by
 obtain ⟨n,A,l,c,B,m,d,n',A',l',c',B',m',d',e,h1,h2,h3,h4⟩:=h
 intro v hv
 rw[e] at hv
 simp only[List.mem_cons,List.not_mem_nil,or_false] at hv
 rcases hv with rfl | rfl | rfl | rfl | rfl | rfl
 ·exact nd_bool _
 ·exact nd_slice _ _ _
 ·exact nd_slice _ _ _
 ·exact nd_bool _
 ·exact nd_slice _ _ _
 ·exact nd_slice _ _ _
theorem RtV.mk {w:World} {n:Bool} {A:Option Addr} {l c:Nat} {B:Option Addr} {m d:Nat} {n':Bool} {A':Option Addr} {l' c':Nat} {B':Option Addr} {m' d':Nat} {r:Fq×Fq} (h1:IntN w n A l c r.1.z) (h2:NatN w B m d r.1.q) (h3:IntN w n' A' l' c' r.2.z) (h4:NatN w B' m' d' r.2.q) :
  RtV w r [.bool n,.slice A l c,.slice B m d,.bool n',.slice A' l' c',.slice B' m' d']:=⟨n,A,l,c,B,m,d,n',A',l',c',B',m',d',rfl,h1,h2,h3,h4⟩
def Vals (w:World) (g o:Nat) (rs:List (Fq×Fq)):Prop:=∀ (i:Nat) (r:Fq×Fq),rs[i]?=some r->∃ vs,RtV w r vs/\∀ (j:Nat) (v:Value),vs[j]?=some v->w.cell? ⟨g,o+i*6+j,none⟩=some v
theorem Vals.below {w w':World} {g o:Nat} {rs:List (Fq×Fq)} (h:Vals w g o rs) (hg:g<w.heap.size) (hb:Below w.heap.size w w'):Vals w' g o rs:=fun i r hr=>by
 obtain ⟨vs,h1,h2⟩:=h i r hr
 exact ⟨vs,h1.below hb,fun j v hv=>(hb.cell (p:=⟨g,o+i*6+j,none⟩) hg).trans (h2 j v hv)⟩
theorem vals_app {w w':World} {g g':Nat} {rs:List (Fq×Fq)} {r:Fq×Fq} {vs:List Value} (h:Vals w g 0 rs) (hr:RtV w' r vs) (hmv:∀ r vs,RtV w r vs->RtV w' r vs) (hc:∀ j,j<rs.length*6->w'.cell? ⟨g',j,none⟩=w.cell? ⟨g,j,none⟩)
  (hn:∀ (j:Nat) (v:Value),vs[j]?=some v->w'.cell? ⟨g',rs.length*6+j,none⟩=some v):Vals w' g' 0 (rs ++ [r]):=fun i x hx=>by
 rcases Nat.lt_or_ge i rs.length with hi | hi
 ·rw[List.getElem?_append_left hi] at hx
  obtain ⟨us,h1,h2⟩:=h i x hx
  refine ⟨us,hmv _ _ h1,fun j v hv=>?_⟩
  have hj:j<6:=by rw[<- h1.len];exact (List.getElem?_eq_some_iff.1 hv).1
  rw[hc _ (by omega)]
  exact h2 j v hv
 ·have hi2:i=rs.length:=by
   have:=(List.getElem?_eq_some_iff.1 hx).1
   rw[List.length_append,List.length_singleton] at this
   omega
  subst hi2
  rw[List.getElem?_append_right (Nat.le_refl _),Nat.sub_self] at hx
  cases hx
  exact ⟨vs,hr,fun j v hv=>by rw[Nat.zero_add];exact hn j v hv⟩
theorem blk_setCellsV {g t N:Nat}:∀ {cs:Array Value} (_:∀ j,j<N->∃ v,cs[j]?=some v/\Nd v) (_:cs.size=N) (vs:List Value) (_:∀ v∈vs,Nd v) (o:Nat) (_:o+vs.length<=N) {W:World} (_:Blk W g t cs),
  ∃ cs',Blk (W.setCells g o vs) g t cs'/\cs'.size=N/\(∀ j,j<N->∃ v,cs'[j]?=some v/\Nd v)/\(∀ (j:Nat) (v:Value),vs[j]?=some v->cs'[o+j]?=some v)/\∀ j,j<o->cs'[j]?=cs[j]?
 | cs,hc,hs,[],_,_,_,_,hk=>⟨cs,hk,hs,hc,fun j v hv=>by simp at hv,fun _ _=>rfl⟩
 | cs,hc,hs,v :: vs,hv,o,ho,W,hk=>by
   simp only[List.length_cons] at ho
   obtain ⟨cs',h1,h2,h3,h4,h5⟩:=blk_setCellsV (cs:=cs.setIfInBounds o v) (fun j hj=>by
    rcases Nat.decEq j o with hne | heq
    ·rw[Array.getElem?_setIfInBounds_ne (by omega)];exact hc j hj
    ·subst heq
     exact ⟨v,by rw[Array.getElem?_setIfInBounds_self_of_lt (by omega)],hv v (List.mem_cons_self ..)⟩) (by simpa using hs) vs (fun u hu=>hv u (List.mem_cons_of_mem _ hu)) (o+1) (by omega) (hk.set_ o v)
   refine ⟨cs',h1,h2,h3,fun j u hu=>?_,fun j hj=>?_⟩
   ·match j,hu with
    | 0,hu =>
      have e:v=u:=by simpa using hu
      rw[Nat.add_zero,h5 o (by omega),Array.getElem?_setIfInBounds_self_of_lt (by omega),e]
    | j+1,hu =>
      rw[show o+(j+1)=o+1+j by omega]
      exact h4 j u (by simpa using hu)
   ·rw[h5 j (by omega),Array.getElem?_setIfInBounds_ne (by omega)]
def FndV (B gs:Nat) (w:World) (F:Value) (rs:List (Fq×Fq)):Prop:=(rs=[]/\F=.slice none 0 0)∨∃ g cap,F=.slice (some ⟨g,0,none⟩) rs.length cap/\ORt w g rs.length cap/\g≠gs/\Vals w g 0 rs/\B<=g
theorem FndV.below {B gs:Nat} {w w':World} {F:Value} {rs:List (Fq×Fq)} (h:FndV B gs w F rs) (hb:Below w.heap.size w w'):FndV B gs w' F rs:=by
 rcases h with h | ⟨g,cap,h1,h2,h3,h4,h5⟩
 ·exact .inl h
 ·exact .inr ⟨g,cap,h1,h2.below hb,h3,h4.below h2.lt hb,h5⟩
theorem FndV.fnd {B gs:Nat} {w:World} {F:Value} {rs:List (Fq×Fq)} (h:FndV B gs w F rs):Fnd gs w F rs.length:=by
 rcases h with ⟨h1,h2⟩ | ⟨g,cap,h1,h2,h3,h4,h5⟩
 ·exact .inl ⟨by rw[h1];rfl,h2⟩
 ·exact .inr ⟨g,cap,h1,h2,h3⟩
theorem FndV.fb_ge {B gs:Nat} {w:World} {F:Value} {rs:List (Fq×Fq)} (h:FndV B gs w F rs) (hB:B<=gs):B<=fbk gs F:=by
 rcases h with ⟨h1,h2⟩ | ⟨g,cap,h1,h2,h3,h4,h5⟩
 ·rw[h2];exact hB
 ·rw[h1];exact h5
theorem FndV.fb_lt {B gs:Nat} {w:World} {F:Value} {rs:List (Fq×Fq)} (h:FndV B gs w F rs) (hg:gs<w.heap.size):fbk gs F<w.heap.size:=by
 rcases h with ⟨h1,h2⟩ | ⟨g,cap,h1,h2,h3,h4,h5⟩
 ·rw[h2];exact hg
 ·rw[h1];exact h2.lt
def GrownV (B gs:Nat) (w:World) (F:Value) (rs:List (Fq×Fq)) (r:Fq×Fq) (F':Value) (w':World):Prop:=∃ g' cap',F'=.slice (some ⟨g',0,none⟩) (rs.length+1) cap'/\ORt w' g' (rs.length+1) cap'/\g'≠gs/\Vals w' g' 0 (rs ++ [r])/\B<=g'/\((∃ g cap,F=.slice (some ⟨g,0,none⟩) rs.length cap/\g'=g/\FrS g g w w')∨(w.heap.size<=g'/\Below w.heap.size w w'))
theorem GrownV.grown {B gs:Nat} {w w':World} {F F':Value} {rs:List (Fq×Fq)} {r:Fq×Fq} (h:GrownV B gs w F rs r F' w'):Grown gs w F rs.length F' w':=by
 obtain ⟨g',cap',h1,h2,h3,_,_,h4⟩:=h
 exact ⟨g',cap',h1,h2,h3,h4⟩
set_option maxHeartbeats 1000000 in
theorem oper_append_rootv {w:World} {o:Oper} {a:Act} {K:Act->World->Prop} {Q:Exit->Act->World->Prop} (s x:Operand)
  (ho:o.op=.call { callee:=.builtin .append,args:=#[s,x],argTypes:=#[34,34] })
  (B gs:Nat) (F:Value) (rs:List (Fq×Fq)) (r:Fq×Fq) (hs:a.eval s=F) (hown:FndV B gs w F rs) (hgs:gs<w.heap.size) (hB:B<=w.heap.size)
  (gx:Nat) (vs:List Value) (hx:a.eval x=.slice (some ⟨gx,0,none⟩) 1 1) (hxc:∀ j v,vs[j]?=some v->w.cell? ⟨gx,j,none⟩=some v) (hr:RtV w r vs) (hn:rs.length+1<=100000000)
  (dd:Nat) (hdd:o.dst=some dd) (h:∀ F' w',GrownV B gs w F rs r F' w'->K (a.put (some dd) F') w') :
  Oper.wp Tryz.prog o a w K Q:=by
 rw[<- hdd] at h
 have hvl:=hr.len
 have hvn:=hr.nd
 obtain ⟨i0,hi,hz0,hz1,hz2⟩:=info_parts info_root
 have hxa:∀ j v,vs[j]?=some v->w.cell? ((⟨gx,0,none⟩:Addr).add j)=some v:=fun j v hj=>by
  rw[Addr.add_lit,Nat.zero_add];exact hxc j v hj
 have hone:∀ u∈vs,u.oneCell'=true:=fun u hu=>(hvn u hu).2
 have hzc:∀ k j,j<k*6->∃ v,(Builtin.zeroCells (Value.cells rootZero) k)[j]?=some v/\Nd v:=fun k j hj=>by
  have e1:(Value.cells rootZero).size=6:=rfl
  unfold Builtin.zeroCells
  rw[Array.getElem?_map,Array.getElem?_range,e1,if_pos hj]
  have h6:j % 6<6:=Nat.mod_lt _ (by omega)
  refine ⟨_,rfl,?_⟩
  show Nd ((Value.cells rootZero)[j % 6]!)
  match j % 6,h6 with
  | 0,_=>exact nd_bool _
  | 1,_=>exact nd_slice _ _ _
  | 2,_=>exact nd_slice _ _ _
  | 3,_=>exact nd_bool _
  | 4,_=>exact nd_slice _ _ _
  | 5,_=>exact nd_slice _ _ _
 have hzs:∀ k,(Builtin.zeroCells (Value.cells rootZero) k).size=k*6:=fun k=>by rw[size_zeroCells];rfl
 have hvj:∀ j,j<6->∃ v,vs[j]?=some v/\Nd v:=fun j hj=>⟨vs[j]'(by omega),List.getElem?_eq_getElem (by omega),hvn _ (List.getElem_mem _)⟩
 rcases hown with ⟨hn0,hF⟩ | ⟨g,cap,hF,hown,hne,hvals,hBg⟩
 ·subst hn0 hF
  have hrun:=run_append_nil (P:=Tryz.prog) (w:=w) 34 o.type 42 i0 rootZero Tryz.underlying34 hi hz0 ⟨gx,0,none⟩ 1 1 vs (by rw[hz1,hvl]) hxa (by omega) (by omega) (by rw[hz2];omega)
  have hge:1<=grownCap w 1 0 42:=grownCap_ge w 1 0 42
  generalize grownCap w 1 0 42=cap' at hrun hge
  unfold Oper.wp
  simp only[execOp,ho,resolve,invoke,builtin]
  simp[hs,hx,hrun,Result.andThen]
  have hbw:Below w.heap.size w (w.drew.alloc (.cells (vs.toArray ++ Builtin.zeroCells (Value.cells rootZero) (cap'-1)) 42)):=((Below.refl _ _).drew).alloc (by simp) _
  refine h _ _ ⟨w.heap.size,cap',rfl,⟨⟨_,Blk.new w.drew _ _,?_,fun j hj=>?_⟩,hge⟩,by omega,fun i x hx=>?_,hB,.inr ⟨Nat.le_refl _,hbw⟩⟩
  ·rw[Array.size_append,List.size_toArray,hzs,hvl];omega
  ·rcases Nat.lt_or_ge j 6 with h1 | h1
   ·obtain ⟨v,e,hv⟩:=hvj j h1
    exact ⟨v,by rw[Array.getElem?_append_left (by simp;omega),List.getElem?_toArray];exact e,hv⟩
   ·obtain ⟨v,e,hv⟩:=hzc (cap'-1) (j-6) (by omega)
    exact ⟨v,by rw[Array.getElem?_append_right (by simp;omega)];simpa [hvl] using e,hv⟩
  ·match i,hx with
   | 0,hx =>
     have e:x=r:=by simpa using hx.symm
     subst e
     refine ⟨vs,hr.below hbw,fun j v hv=>?_⟩
     have hj:j<vs.length:=(List.getElem?_eq_some_iff.1 hv).1
     rw[show 0+0*6+j=j by omega]
     refine ((Blk.new w.drew 42 (vs.toArray ++ Builtin.zeroCells (Value.cells rootZero) (cap'-1))).cell j).trans ?_
     rw[Array.getElem?_append_left (by simpa using hj),List.getElem?_toArray,hv]
   | i+1,hx=>simp at hx
 ·subst hF
  obtain ⟨n,hnl⟩:∃ n,n=rs.length:=⟨_,rfl⟩
  rw[<- hnl] at hown h hs hn
  obtain ⟨cs,hk,hsz,hcs⟩:=hown.blk
  by_cases hrm:n+1<=cap
  ·have hrun:=run_append_room_cells (P:=Tryz.prog) w 34 o.type 42 i0 Tryz.underlying34 hi g 0 n cap ⟨gx,0,none⟩ 1 1 vs (by rw[hz1,hvl]) hxa hone hrm
    (fun j hj=>by
      obtain ⟨v,e,_⟩:=hcs (n*6+j) (by omega)
      rw[hz1,Nat.zero_add,hk.cell,e];rfl)
    (fun j hj=>hk.frozen _)
   rw[hz1,Nat.zero_add] at hrun
   unfold Oper.wp
   simp only[execOp,ho,resolve,invoke,builtin]
   simp[hs,hx,hrun,Result.andThen]
   obtain ⟨cs',b1,b2,b3,b4,b5⟩:=blk_setCellsV hcs hsz vs hvn (n*6) (by omega) hk
   have hfr:FrS g g w (w.setCells g (n*6) vs):=frs_setCells vs (n*6) (FrS.refl _ _ _)
   have hnd:=hown.ndb
   refine h _ _ ⟨g,cap,by rw[hnl],⟨⟨cs',b1,b2,b3⟩,by rw[<- hnl];exact hrm⟩,hne,vals_app hvals (hr.frs hfr hnd hnd) (fun x us hu=>hu.frs hfr hnd hnd) (fun j hj=>?_) (fun j v hv=>?_),hBg,.inl ⟨g,cap,by rw[hnl],rfl,hfr⟩⟩
   ·refine (b1.cell j).trans ?_
    rw[b5 j (by omega)]
    exact (hk.cell j).symm
   ·refine (b1.cell _).trans ?_
    rw[<- hnl]
    exact b4 j v hv
  ·have hne2:n=cap:=by have:=hown.le;omega
   subst hne2
   have hol:∃ olds:List Value,olds=cs.toList:=⟨_,rfl⟩
   obtain ⟨olds,hol⟩:=hol
   have hll:olds.length=n*6:=by rw[hol,Array.length_toList];exact hsz
   have hoj:∀ j,olds[j]?=cs[j]?:=fun j=>by rw[hol,Array.getElem?_toList]
   have hfit:=growslice_fits (need:=n+1) (old:=n) (bytes:=i0.bytes) (by omega) (by rw[hz2];omega)
   have hrun:=run_append_grow (P:=Tryz.prog) w 34 o.type 42 i0 rootZero Tryz.underlying34 hi hz0 ⟨g,0,none⟩ n n olds (by rw[hz1,hll])
    (fun j v hj=>by rw[Addr.add_lit,Nat.zero_add,hk.cell,<- hoj];exact hj)
    ⟨gx,0,none⟩ 1 1 vs (by rw[hz1,hvl]) hxa (by omega) (by omega) hfit
   have hge:=grownCap_ge w (n+1) n 42
   generalize grownCap w (n+1) n 42=cap' at hrun hge
   unfold Oper.wp
   simp only[execOp,ho,resolve,invoke,builtin]
   simp[hs,hx,hrun,Result.andThen]
   obtain ⟨row,hrow⟩:∃ row,row=(olds ++ vs).toArray ++ Builtin.zeroCells (Value.cells rootZero) (cap'-(n+1)):=⟨_,rfl⟩
   have hbw:Below w.heap.size w (w.drew.alloc (.cells row 42)):=((Below.refl _ _).drew).alloc (by simp) _
   have hb2:Blk (w.drew.alloc (.cells row 42)) w.heap.size 42 row:=Blk.new w.drew _ _
   have hro:∀ j v,(olds ++ vs)[j]?=some v->row[j]?=some v:=fun j v hv=>by
    have hj:j<(olds ++ vs).length:=(List.getElem?_eq_some_iff.1 hv).1
    rw[hrow,Array.getElem?_append_left (by simpa using hj),List.getElem?_toArray,hv]
   have hgoal:GrownV B gs w (.slice (some ⟨g,0,none⟩) n n) rs r (.slice (some ⟨w.heap.size,0,none⟩) (n+1) cap') (w.drew.alloc (.cells row 42)):=by
    refine ⟨w.heap.size,cap',by rw[hnl],⟨⟨row,hb2,?_,fun j hj=>?_⟩,by rw[<- hnl];exact hge⟩,by omega,vals_app hvals (hr.below hbw) (fun x us hu=>hu.below hbw) (fun j hj=>?_) (fun j v hv=>?_),hB,.inr ⟨Nat.le_refl _,hbw⟩⟩
    ·rw[hrow,Array.size_append,List.size_toArray,List.length_append,hzs,hvl,hll];omega
    ·rw[hrow]
     rcases Nat.lt_or_ge j (n*6+6) with h1 | h1
     ·rw[Array.getElem?_append_left (by simp;omega),List.getElem?_toArray]
      rcases Nat.lt_or_ge j (n*6) with h2 | h2
      ·rw[List.getElem?_append_left (by omega),hoj]
       exact hcs j h2
      ·rw[List.getElem?_append_right (by omega),hll]
       exact hvj _ (by omega)
     ·rw[Array.getElem?_append_right (by simp;omega)]
      have:=hzc (cap'-(n+1)) (j-(n*6+6)) (by omega)
      simpa [hvl,hll] using this
    ·obtain ⟨v,e,_⟩:=hcs j (by omega)
     refine (hb2.cell j).trans ?_
     rw[hro j v (by rw[List.getElem?_append_left (by omega),hoj];exact e),hk.cell,e]
    ·refine (hb2.cell _).trans ?_
     exact hro _ v (by rw[List.getElem?_append_right (by omega),hll,<- hnl,Nat.add_sub_cancel_left];exact hv)
   rw[hrow] at hgoal
   exact h _ _ (by simpa using hgoal)
theorem GrownV.fin {B gs t:Nat} {rs:List (Fq×Fq)} {r:Fq×Fq} {w0 w w':World} {F F' P C:Value} (h:GrownV B gs w F rs r F' w') (hb:Blk w gs t #[P,C,F]) (hP:NoDigit P) (hC:NoDigit C) (hF:NoDigit F) (hw:Below w0.heap.size w0 w) :
  Blk (w'.setCell ⟨gs,2,none⟩ F') gs t #[P,C,F']/\FndV B gs (w'.setCell ⟨gs,2,none⟩ F') F' (rs ++ [r])/\FrS gs (fbk gs F) w0 (w'.setCell ⟨gs,2,none⟩ F')/\(fbk gs F'=fbk gs F∨w0.heap.size<=fbk gs F'):=by
 have hk:=h.grown.blk hb
 have hnd:NdB w' gs:=blk_ndb hk fun j v hv=>by
  match j,hv with
  | 0,hv=>simp at hv;subst hv;exact hP
  | 1,hv=>simp at hv;subst hv;exact hC
  | 2,hv=>simp at hv;subst hv;exact hF
  | j+3,hv=>simp at hv
 have hfs:FrS gs gs w' (w'.setCell ⟨gs,2,none⟩ F'):=frs_set (FrS.refl _ _ _) _ _
 obtain ⟨g',cap',e,ho,hg,hv,hB,h⟩:=h
 refine ⟨hk.set_ 2 F',.inr ⟨g',cap',by rw[List.length_append];exact e,by rw[List.length_append];exact ho.far hg _,hg,fun i x hx=>?_,hB⟩,?_,?_⟩
 ·obtain ⟨us,h1,h2⟩:=hv i x hx
  exact ⟨us,h1.frs hfs hnd hnd,fun j v hv=>(hfs.cell ho.lt hg hg _).trans (h2 j v hv)⟩
 ·refine FrS.self (FrS.trans (g2:=fbk gs F) (FrS.of_below hw) ?_ (.inl rfl)) 2 F'
  rcases h with ⟨g,cap,eF,eg,hf⟩ | ⟨_,hbb⟩
  ·rw[eF];exact hf.weaken rfl
  ·exact FrS.of_below hbb
 ·rw[e]
  rcases h with ⟨g,cap,eF,eg,hf⟩ | ⟨hle,_⟩
  ·rw[eF];exact .inl eg
  ·exact .inr (Nat.le_trans hw.size hle)
theorem fndv_nd {B gs:Nat} {w:World} {F:Value} {rs:List (Fq×Fq)} (h:FndV B gs w F rs):NoDigit F:=by
 rcases h with ⟨_,e⟩ | ⟨g,cap,e,_⟩
 ·rw[e];exact noDigit_slice _ _ _
 ·rw[e];exact noDigit_slice _ _ _
theorem fndv_ndb {B gs t:Nat} {w:World} {F P C:Value} {rs:List (Fq×Fq)} (hb:Blk w gs t #[P,C,F]) (hP:NoDigit P) (hC:NoDigit C) (h:FndV B gs w F rs):NdB w gs/\NdB w (fbk gs F):=by
 have h1:NdB w gs:=blk_ndb hb fun j v hv=>by
  match j,hv with
  | 0,hv=>simp at hv;subst hv;exact hP
  | 1,hv=>simp at hv;subst hv;exact hC
  | 2,hv=>simp at hv;subst hv;exact fndv_nd h
  | j+3,hv=>simp at hv
 refine ⟨h1,?_⟩
 rcases h with ⟨_,e⟩ | ⟨g,cap,e,ho,_⟩
 ·rw[e];exact h1
 ·rw[e];exact ho.ndb
abbrev mbox (n:Bool) (A:Option Addr) (l c:Nat) (B:Option Addr) (m d:Nat) (N:Int) (zr:Bool):Obj:=.cells #[.bool n,.slice A l c,.slice B m d,.int .i64 N,.bool zr] 66
structure MBox (w:World) (g:Nat) (n:Bool) (A:Option Addr) (l c:Nat) (B:Option Addr) (m d:Nat) (z:Int) (q:Nat) (N:Int) (zr:Bool):Prop where
 r:RBox w g n A l c B m d z q
 c3:w.cell? ⟨g,3,none⟩=some (.int .i64 N)
 c4:w.cell? ⟨g,4,none⟩=some (.bool zr)
section
variable {w w':World} {g:Nat} {n:Bool} {A:Option Addr} {l c:Nat} {B:Option Addr} {m d:Nat} {z:Int} {q:Nat} {N:Int} {zr:Bool}
theorem MBox.make (hz:IntN w n A l c z) (hq:NatN w B m d q):MBox (w.alloc (mbox n A l c B m d N zr)) w.heap.size n A l c B m d z q N zr:=by
 have hb:Blk (w.alloc (mbox n A l c B m d N zr)) w.heap.size 66 #[.bool n,.slice A l c,.slice B m d,.int .i64 N,.bool zr]:=Blk.new _ _ _
 have ho:=below_new w (mbox n A l c B m d N zr)
 exact ⟨⟨hb.cell 0,hb.cell 1,hb.cell 2,hb.frozen 0,hb.frozen 1,hb.frozen 2,by simp,hz.below ho,hq.below ho⟩,hb.cell 3,hb.cell 4⟩
theorem MBox.move (h:MBox w g n A l c B m d z q N zr) (hb:Below w.heap.size w w'):MBox w' g n A l c B m d z q N zr :=
 ⟨h.r.move hb,(hb.cell (p:=⟨g,3,none⟩) h.r.lt).trans h.c3,(hb.cell (p:=⟨g,4,none⟩) h.r.lt).trans h.c4⟩
theorem MBox.frs {k k':Nat} (h:MBox w g n A l c B m d z q N zr) (hf:FrS k k' w w') (h1:NdB w k) (h2:NdB w k') (k1:g≠k) (k2:g≠k'):MBox w' g n A l c B m d z q N zr :=
 ⟨h.r.frs hf h1 h2 k1 k2,(hf.cell h.r.lt k1 k2 _).trans h.c3,(hf.cell h.r.lt k1 k2 _).trans h.c4⟩
end
end Go.Proofs.YtpeiiomjnjemjaaGreat
namespace Go.Proofs.YtpeiiomjnjemjaaGreat
open Go Go.RowKit
def put6 (w:World) (g:Nat) (v0 v1 v2 v3 v4 v5:Value):World:=(((((w.setCell ⟨g,0,none⟩ v0).setCell ⟨g,1,none⟩ v1).setCell ⟨g,2,none⟩ v2).setCell ⟨g,3,none⟩ v3).setCell ⟨g,4,none⟩ v4).setCell ⟨g,5,none⟩ v5
theorem put6_frs (w:World) (g:Nat) (v0 v1 v2 v3 v4 v5:Value):FrS g g w (put6 w g v0 v1 v2 v3 v4 v5):=frs_set (frs_set (frs_set (frs_set (frs_set (frs_set (FrS.refl g g w) 0 v0) 1 v1) 2 v2) 3 v3) 4 v4) 5 v5
structure CpE (a b:Fq) (e:Ending) (w:World):Prop where
 ex:∃ n A l c B m d n' A' l' c' B' m' d',e=.returned (.agg #[.bool n,.slice A l c,.slice B m d,.bool n',.slice A' l' c',.slice B' m' d'])/\IntN w n A l c a.nf.z/\NatN w B m d a.nf.q/\IntN w n' A' l' c' b.nf.z/\NatN w B' m' d' b.nf.q
abbrev rootObj:Obj:=.cells #[.bool false,.slice none 0 0,.slice none 0 0,.bool false,.slice none 0 0,.slice none 0 0] 42
set_option maxRecDepth 100000 in
set_option maxHeartbeats 4000000 in
theorem copy_any (a b:Fq) (n:Bool) (A:Option Addr) (l c:Nat) (B:Option Addr) (m d:Nat) (n':Bool) (A':Option Addr) (l' c':Nat) (B':Option Addr) (m' d':Nat) (w:World) (hz:IntN w n A l c a.z) (hq:NatN w B m d a.q) (hz':IntN w n' A' l' c' b.z) (hq':NatN w B' m' d' b.q) (fz:Fit a.z) (fq:Fit (a.q:Int)) (h0:0<a.q) (fz':Fit b.z) (fq':Fit (b.q:Int)) (h0':0<b.q) :
  Calls Tryz.prog 55 #[.agg #[.bool n,.slice A l c,.slice B m d],.agg #[.bool n',.slice A' l' c',.slice B' m' d']] w fun e w'=>CpE a b e w'/\Below w.heap.size w w':=by
 have o1:=below_new w (rbox n A l c B m d)
 have o2:=below_new (w.alloc (rbox n A l c B m d)) (rbox n' A' l' c' B' m' d')
 have o3:=below_new ((w.alloc (rbox n A l c B m d)).alloc (rbox n' A' l' c' B' m' d')) rootObj
 have b3:Below w.heap.size w (((w.alloc (rbox n A l c B m d)).alloc (rbox n' A' l' c' B' m' d')).alloc rootObj):=(o1.alloc (by simp) _).alloc (by simp;omega) _
 have R1:=((RBox.make hz hq).move o2).move o3
 have R2:=(RBox.make (hz'.below o1) (hq'.below o1)).move o3
 have K3:Blk (((w.alloc (rbox n A l c B m d)).alloc (rbox n' A' l' c' B' m' d')).alloc rootObj) ((w.alloc (rbox n A l c B m d)).alloc (rbox n' A' l' c' B' m' d')).heap.size 42 #[.bool false,.slice none 0 0,.slice none 0 0,.bool false,.slice none 0 0,.slice none 0 0]:=Blk.new _ _ _
 simp only[World.size_alloc] at R2 K3
 have a0:=R1.c0
 have a1:=R1.c1
 have a2:=R1.c2
 have d0:=R2.c0
 have d1:=R2.c1
 have d2:=R2.c2
 replace R1:=Lh R1
 replace R2:=Lh R2
 replace K3:=Lh K3
 have Hb:=Lh b3
 have hl3:=K3.out.lt
 obtain ⟨wb,hwb⟩:∃ wb,wb=((w.alloc (rbox n A l c B m d)).alloc (rbox n' A' l' c' B' m' d')).alloc rootObj:=⟨_,rfl⟩
 clear o1 o2 o3 b3 hz hq hz' hq'
 go_enter Tryz.func55,Tryz.ntmps55
 go_wp2_with fail
 rw[<- hwb] at R1 R2 K3 Hb a0 a1 a2 d0 d1 d2 hl3 ⊢
 clear hwb
 obtain ⟨g1,hg1⟩:∃ g,g=w.heap.size:=⟨_,rfl⟩
 obtain ⟨g2,hg2⟩:∃ g,g=w.heap.size+1:=⟨_,rfl⟩
 obtain ⟨g3,hg3⟩:∃ g,g=w.heap.size+1+1:=⟨_,rfl⟩
 rw[<- hg1] at R1 a0 a1 a2
 rw[<- hg2] at R2 d0 d1 d2
 rw[<- hg3] at K3 hl3
 rw[<- hg3,<- hg2,<- hg1]
 have l1:g1<wb.heap.size:=by omega
 have l2:g2<wb.heap.size:=by omega
 have lg:w.heap.size<=g3:=by omega
 have Hle:=Lh lg
 clear hg1 hg2 hg3 lg
 refine wp_region_lastT (S:=fun w'=>w'.cell? ⟨g1,0,none⟩=some (.bool n)/\w'.cell? ⟨g1,1,none⟩=some (.slice A l c)/\w'.cell? ⟨g1,2,none⟩=some (.slice B m d)/\w'.cell? ⟨g2,0,none⟩=some (.bool n')/\w'.cell? ⟨g2,1,none⟩=some (.slice A' l' c')/\w'.cell? ⟨g2,2,none⟩=some (.slice B' m' d')) (by kernel_rfl) (by kernel_rfl) (by (try dsimp only);go_keep) (fun hHeld=>?_)
 simp only[List.pop_toArray,List.dropLast]
 (refine tq 0 ?_;simp only[put_lit,List.set])
 (refine tq 2 ?_;simp only[put_lit,List.set])
 refine rdy 1 (fun K hK=>?_);go_simp
 refine (rnormal_any _ _ _ _ _ _ _ _ _ _ (R1.out.hz.below Bel.go) (R1.out.hq.below Bel.go) fz fq h0).mono ?_
 rintro e w7 ⟨⟨n7,A7,l7,c7,B7,m7,d7,rfl,h7,k7⟩,hb7⟩
 obtain ⟨hcx,hfx⟩:=bcellS hb7
 replace R2:=Lh (R2.out.move (Below.trans Bel.go (hb7.mono (by simp<;>omega))))
 have hbz:Below wb.heap.size wb w7:=(Below.trans Bel.go (hb7.mono (by simp<;>omega)))
 replace K3:=Lh (K3.out.below hbz K3.out.lt)
 replace Hb:=Lh (Hb.out.trans (hbz.mono Hb.out.size))
 refine hK.out _ _ ?_ (fun _=>?_)
 ·((try dsimp only);repeat' apply And.intro)<;>(rw[hcx _ (by go_simp)];go_simp)
 clear hHeld hK K hcx hfx;rename_i hHeld
 have hs7:=hbz.size
 have H7:=Lh (And.intro h7 k7)
 clear h7 k7 hb7 hbz R1
 refine rdy 3 (fun K hK=>?_);go_simp
 refine (rnormal_any _ _ _ _ _ _ _ _ _ _ (R2.out.hz.below Bel.go) (R2.out.hq.below Bel.go) fz' fq' h0').mono ?_
 rintro e w9 ⟨⟨n9,A9,l9,c9,B9,m9,d9,rfl,h9,k9⟩,hb9⟩
 obtain ⟨hcx,hfx⟩:=bcellS hb9
 have hbz:Below w7.heap.size w7 w9:=(Below.trans Bel.go (hb9.mono (by simp<;>omega)))
 replace K3:=Lh (K3.out.below hbz K3.out.lt)
 replace Hb:=Lh (Hb.out.trans (hbz.mono Hb.out.size))
 replace H7:=Lh (And.intro (H7.out.1.below hbz) (H7.out.2.below hbz))
 refine hK.out _ _ ?_ (fun _=>?_)
 ·((try dsimp only);repeat' apply And.intro)<;>(rw[hcx _ (by go_simp)];go_simp)
 clear hHeld hK K hcx hfx;rename_i hHeld
 have H9:=Lh (And.intro h9 k9)
 clear h9 k9 hb9 hbz R2
 (refine tq 4 ?_;simp only[put_lit,List.set])
 refine wpAnyH_done (by kernel_rfl) (lastQ_list rfl ?_) _
 have r0:w9.cell? ⟨g3,0,none⟩=some (.bool false):=(K3.out.cell 0).trans rfl
 have r1:w9.cell? ⟨g3,1,none⟩=some (.slice none 0 0):=(K3.out.cell 1).trans rfl
 have r2:w9.cell? ⟨g3,2,none⟩=some (.slice none 0 0):=(K3.out.cell 2).trans rfl
 have r3:w9.cell? ⟨g3,3,none⟩=some (.bool false):=(K3.out.cell 3).trans rfl
 have r4:w9.cell? ⟨g3,4,none⟩=some (.slice none 0 0):=(K3.out.cell 4).trans rfl
 have r5:w9.cell? ⟨g3,5,none⟩=some (.slice none 0 0):=(K3.out.cell 5).trans rfl
 have s0:=K3.out.frozen 0
 have s1:=K3.out.frozen 1
 have s2:=K3.out.frozen 2
 have s3:=K3.out.frozen 3
 have s4:=K3.out.frozen 4
 have s5:=K3.out.frozen 5
 have hnd:NdB w9 g3:=blk_ndb K3.out fun j v hv=>by
  match j,hv with
  | 0,hv=>simp at hv;subst hv;exact noDigit_bool _
  | 1,hv=>simp at hv;subst hv;exact noDigit_slice _ _ _
  | 2,hv=>simp at hv;subst hv;exact noDigit_slice _ _ _
  | 3,hv=>simp at hv;subst hv;exact noDigit_bool _
  | 4,hv=>simp at hv;subst hv;exact noDigit_slice _ _ _
  | 5,hv=>simp at hv;subst hv;exact noDigit_slice _ _ _
  | j+6,hv=>simp at hv
 have hf:=put6_frs w9 g3 (.bool n7) (.slice A7 l7 c7) (.slice B7 m7 d7) (.bool n9) (.slice A9 l9 c9) (.slice B9 m9 d9)
 have FIN:=Lh (And.intro (And.intro (H7.out.1.frs hf hnd hnd) (H7.out.2.frs hf hnd hnd)) (And.intro (And.intro (H9.out.1.frs hf hnd hnd) (H9.out.2.frs hf hnd hnd)) (hf.mono Hb.out Hle.out Hle.out Hb.out.size)))
 clear hHeld hnd hf a0 a1 a2 d0 d1 d2 K3 Hb H7 H9
 go_wp2
 refine bodyPost_ret (v:=.agg #[.bool n7,.slice A7 l7 c7,.slice B7 m7 d7,.bool n9,.slice A9 l9 c9,.slice B9 m9 d9]) (by simp[results,Tryz.results55,go_sem,r0,r1,r2,r3,r4,r5]) rfl ⟨⟨_,_,_,_,_,_,_,_,_,_,_,_,_,_,rfl,FIN.out.1.1,FIN.out.1.2,FIN.out.2.1.1,FIN.out.2.1.2⟩,FIN.out.2.2⟩
set_option maxRecDepth 100000 in
set_option maxHeartbeats 4000000 in
theorem mark_any (Q:List Int) (PS:List (List Int)) (gs:Nat) (Ap:Option Addr) (lp cp:Nat) (Ac:Option Addr) (lc cc:Nat) (F:Value) (n:Bool) (A:Option Addr) (l c:Nat) (B:Option Addr) (m d q:Nat) (z:Int) (w:World)
  (hs:Blk w gs 61 #[.slice Ap lp cp,.slice Ac lc cc,F]) (hp:PolyN w Ap lp cp Q) (hc:PLst w Ac lc cc PS) (hlp:lp<=1000000) (hlc:lc<=1000000) (hz:IntN w n A l c z) (hq:NatN w B m d q) (ha:AtOK z q) (hP:∀ p∈PS,PoOK z q p) (hQ:PoOK z q Q) :
  Calls Tryz.prog 28 #[.pointer (some ⟨gs,0,none⟩),.agg #[.bool n,.slice A l c,.slice B m d]] w fun e w'=>e=.returned (.agg #[.bool n,.slice A l c,.slice B m d,.int .i64 ((vst (PS.map (sat z q)) lc).1:Nat),.bool (decide (sat z q Q=0))])/\Below w.heap.size w w':=by
 have o1:=below_new w (rbox n A l c B m d)
 have o2:=below_new (w.alloc (rbox n A l c B m d)) (mbox false none 0 0 none 0 0 0 false)
 have b2:Below w.heap.size w ((w.alloc (rbox n A l c B m d)).alloc (mbox false none 0 0 none 0 0 0 false)):=o1.alloc (by simp) _
 have R1:=(RBox.make hz hq).move o2
 have K2:Blk ((w.alloc (rbox n A l c B m d)).alloc (mbox false none 0 0 none 0 0 0 false)) (w.alloc (rbox n A l c B m d)).heap.size 66 #[.bool false,.slice none 0 0,.slice none 0 0,.int .i64 0,.bool false]:=Blk.new _ _ _
 have KS:=hs.below b2 hs.lt
 have HP:=Lh (hp.below ikN b2)
 have HC:=Lh (hc.below b2)
 simp only[World.size_alloc] at K2
 have hgl:=hs.lt
 have a0:=R1.c0
 have a1:=R1.c1
 have a2:=R1.c2
 have d0:World.cell? ((w.alloc (rbox n A l c B m d)).alloc (mbox false none 0 0 none 0 0 0 false)) ⟨gs,0,none⟩=some (.slice Ap lp cp):=(KS.cell 0).trans rfl
 have d1:World.cell? ((w.alloc (rbox n A l c B m d)).alloc (mbox false none 0 0 none 0 0 0 false)) ⟨gs,1,none⟩=some (.slice Ac lc cc):=(KS.cell 1).trans rfl
 replace R1:=Lh R1
 replace K2:=Lh K2
 have Hb:=Lh b2
 obtain ⟨N1,hN1⟩:∃ N:Nat,N=(vst (PS.map (sat z q)) lc).1:=⟨_,rfl⟩
 obtain ⟨S1,hS1⟩:∃ S,S=sat z q Q:=⟨_,rfl⟩
 rw[<- hN1,<- hS1]
 have HN1:=Lh hN1
 have HS1:=Lh hS1
 obtain ⟨wb,hwb⟩:∃ wb,wb=(w.alloc (rbox n A l c B m d)).alloc (mbox false none 0 0 none 0 0 0 false):=⟨_,rfl⟩
 clear o1 o2 b2 hz hq hs hp hc KS hN1 hS1
 go_enter Tryz.func28,Tryz.ntmps28
 go_wp2_with fail
 rw[<- hwb] at R1 K2 HP HC Hb a0 a1 a2 d0 d1 ⊢
 clear hwb
 obtain ⟨g1,hg1⟩:∃ g,g=w.heap.size:=⟨_,rfl⟩
 obtain ⟨g2,hg2⟩:∃ g,g=w.heap.size+1:=⟨_,rfl⟩
 have lg:w.heap.size<=g2:=by omega
 have l2:=K2.out.lt
 have l1:=R1.out.lt
 rw[<- hg1] at R1 a0 a1 a2 l1
 rw[<- hg2] at K2 l2
 rw[<- hg2,<- hg1]
 have l3:gs<wb.heap.size:=by omega
 have Hle:=Lh lg
 clear hg1 hg2 lg hgl
 refine wp_region_lastT (S:=fun w'=>w'.cell? ⟨g1,0,none⟩=some (.bool n)/\w'.cell? ⟨g1,1,none⟩=some (.slice A l c)/\w'.cell? ⟨g1,2,none⟩=some (.slice B m d)/\w'.cell? ⟨gs,0,none⟩=some (.slice Ap lp cp)/\w'.cell? ⟨gs,1,none⟩=some (.slice Ac lc cc)) (by kernel_rfl) (by kernel_rfl) (by (try dsimp only);go_keep) (fun hHeld=>?_)
 simp only[List.pop_toArray,List.dropLast]
 (refine tq 0 ?_;simp only[put_lit,List.set])
 (refine tq 1 ?_;simp only[put_lit,List.set])
 (refine tq 2 ?_;simp only[put_lit,List.set])
 (refine tq 3 ?_;simp only[put_lit,List.set])
 (refine tq 4 ?_;simp only[put_lit,List.set])
 (refine tq 5 ?_;simp only[put_lit,List.set])
 (refine tq 7 ?_;simp only[put_lit,List.set])
 (refine tq 8 ?_;simp only[put_lit,List.set])
 (refine tq 9 ?_;simp only[put_lit,List.set])
 (refine tq 10 ?_;simp only[put_lit,List.set])
 (refine tq 11 ?_;simp only[put_lit,List.set])
 refine rdy 6 (fun K hK=>?_);go_simp
 refine (vars_any _ _ _ PS _ _ _ _ _ _ _ _ _ _ (HC.out.below Bel.go) (R1.out.hz.below Bel.go) (R1.out.hq.below Bel.go) ha hP hlc).mono ?_
 rintro e w7 ⟨rfl,hb7⟩
 rw[<- HN1.out]
 obtain ⟨hcx,hfx⟩:=bcellS hb7
 replace R1:=Lh (R1.out.move (Below.trans Bel.go (hb7.mono (by simp<;>omega))))
 have hbz:Below wb.heap.size wb w7:=(Below.trans Bel.go (hb7.mono (by simp<;>omega)))
 replace K2:=Lh (K2.out.below hbz K2.out.lt)
 replace HP:=Lh (HP.out.below ikN hbz)
 replace Hb:=Lh (Hb.out.trans (hbz.mono Hb.out.size))
 refine hK.out _ _ ?_ (fun _=>?_)
 ·((try dsimp only);repeat' apply And.intro)<;>(rw[hcx _ (by go_simp)];go_simp)
 clear hHeld hK K hcx hfx;rename_i hHeld
 have hs7:=hbz.size
 clear hb7 hbz HC
 refine rdy 12 (fun K hK=>?_);go_simp
 refine (signat_any ikN _ _ _ Q _ _ _ _ _ _ _ _ _ _ (HP.out.below ikN Bel.go) hQ.fit hlp (R1.out.hz.below Bel.go) (R1.out.hq.below Bel.go) ha.u ha.v ha.pos hQ.ok ha.fz ha.fq).mono ?_
 rintro e w9 ⟨he,hb9⟩
 have he2:e=.returned (.int .i64 S1):=by rw[HS1.out];exact he
 subst he2
 obtain ⟨hcx,hfx⟩:=bcellS hb9
 have hbz:Below w7.heap.size w7 w9:=(Below.trans Bel.go (hb9.mono (by simp<;>omega)))
 replace K2:=Lh (K2.out.below hbz K2.out.lt)
 replace Hb:=Lh (Hb.out.trans (hbz.mono Hb.out.size))
 refine hK.out _ _ ?_ (fun _=>?_)
 ·((try dsimp only);repeat' apply And.intro)<;>(rw[hcx _ (by go_simp)];go_simp)
 clear hHeld hK K hcx hfx;rename_i hHeld
 clear he hb9 hbz R1 HP
 (refine tq 13 ?_;simp only[put_lit,List.set])
 (refine tq 14 ?_;simp only[put_lit,List.set])
 refine wpAnyH_done (by kernel_rfl) (lastQ_list rfl ?_) _
 have r0:w9.cell? ⟨g2,0,none⟩=some (.bool false):=(K2.out.cell 0).trans rfl
 have r1:w9.cell? ⟨g2,1,none⟩=some (.slice none 0 0):=(K2.out.cell 1).trans rfl
 have r2:w9.cell? ⟨g2,2,none⟩=some (.slice none 0 0):=(K2.out.cell 2).trans rfl
 have r3:w9.cell? ⟨g2,3,none⟩=some (.int .i64 0):=(K2.out.cell 3).trans rfl
 have r4:w9.cell? ⟨g2,4,none⟩=some (.bool false):=(K2.out.cell 4).trans rfl
 have s0:=K2.out.frozen 0
 have s1:=K2.out.frozen 1
 have s2:=K2.out.frozen 2
 have s3:=K2.out.frozen 3
 have s4:=K2.out.frozen 4
 have FIN:=Lh (((((Hb.out.setCell (p:=⟨g2,0,none⟩) Hle.out (.bool n)).setCell (p:=⟨g2,1,none⟩) Hle.out (.slice A l c)).setCell (p:=⟨g2,2,none⟩) Hle.out (.slice B m d)).setCell (p:=⟨g2,3,none⟩) Hle.out (.int .i64 (N1:Int))).setCell (p:=⟨g2,4,none⟩) Hle.out (.bool (decide (S1=0))))
 clear hHeld a0 a1 a2 d0 d1 K2 Hb
 go_wp2
 refine bodyPost_ret (v:=.agg #[.bool n,.slice A l c,.slice B m d,.int .i64 (N1:Int),.bool (decide (S1=0))]) (by simp[results,Tryz.results28,go_sem,r0,r1,r2,r3,r4];rfl) rfl ⟨rfl,FIN.out⟩
end Go.Proofs.YtpeiiomjnjemjaaGreat
namespace Go.Proofs.YtpeiiomjnjemjaaGreat
open Go Go.RowKit
structure FqB (a:Fq):Prop where
 p:0<a.q
 z:a.z.natAbs<=ZB
 q:a.q<=ZB
theorem FqB.fz {a:Fq} (h:FqB a):Fit a.z:=zb_fit h.z
theorem FqB.fq {a:Fq} (h:FqB a):Fit (a.q:Int):=zb_fit (by rw[Int.natAbs_natCast];exact h.q)
theorem FqB.at {a:Fq} (h:FqB a):AtOK a.z a.q :=
 ⟨h.fz,h.fq,h.p,zb_fit (by rw[Int.natAbs_tdiv];exact Nat.le_trans (Nat.div_le_self _ _) h.z),zb_fit (by rw[Int.natAbs_natCast];exact Nat.le_trans (Nat.div_le_self _ _) h.q)⟩
def icnt (Q:List Int) (PS:List (List Int)) (a b:Fq):Int:=(a.chg PS:Int)-(b.chg PS:Int)-(if b.sgn Q=0 then 1 else 0)
def IsFit (Q:List Int) (PS:List (List Int)):Nat->Fq->Fq->Prop
 | 0,_,_=>False
 | n+1,a,b=>FqB a/\FqB b/\(icnt Q PS a b<1∨(icnt Q PS a b=1/\a.sgn Q≠0/\b.sgn Q≠0)∨(FqB (a.mid b)/\IsFit Q PS n a (a.mid b)/\IsFit Q PS n (a.mid b) b))
structure IsCtx (Q:List Int) (PS:List (List Int)) (W0:World) (gs:Nat) (Ap:Option Addr) (lp cp:Nat) (Ac:Option Addr) (lc cc:Nat):Prop where
 hp:PolyN W0 Ap lp cp Q
 hc:PLst W0 Ac lc cc PS
 lp:lp<=1000000
 lc:lc<=1000
 gs:W0.heap.size<=gs
 el:∀ p∈PS,∀ z:Int,∀ q:Nat,z.natAbs<=ZB->q<=ZB->PoOK z q p
 eq:∀ z:Int,∀ q:Nat,z.natAbs<=ZB->q<=ZB->PoOK z q Q
def IsoSpec (Q:List Int) (PS:List (List Int)) (W0:World) (gs:Nat) (Ap:Option Addr) (lp cp:Nat) (Ac:Option Addr) (lc cc:Nat) (a b:Fq) (rt:List (Fq×Fq)):Prop :=
 ∀ (F:Value) (rs:List (Fq×Fq)) (n:Bool) (A:Option Addr) (l c:Nat) (B:Option Addr) (m d:Nat) (n':Bool) (A':Option Addr) (l' c':Nat) (B':Option Addr) (m' d':Nat) (N1 N2:Int) (za zb:Bool),N1=(a.chg PS:Int)->N2=(b.chg PS:Int)->za=decide (a.sgn Q=0)->zb=decide (b.sgn Q=0)->∀ (w:World),rs.length+rt.length<=1000000->Below W0.heap.size W0 w->Blk w gs 61 #[.slice Ap lp cp,.slice Ac lc cc,F]->FndV W0.heap.size gs w F rs ->
   IntN w n A l c a.z->NatN w B m d a.q->IntN w n' A' l' c' b.z->NatN w B' m' d' b.q ->
   Calls Tryz.prog 27 #[.pointer (some ⟨gs,0,none⟩),.agg #[.bool n,.slice A l c,.slice B m d,.int .i64 N1,.bool za],.agg #[.bool n',.slice A' l' c',.slice B' m' d',.int .i64 N2,.bool zb]] w
    fun e w'=>(∃ v,e=.returned v)/\∃ F',Blk w' gs 61 #[.slice Ap lp cp,.slice Ac lc cc,F']/\FndV W0.heap.size gs w' F' (rs ++ rt)/\FrS gs (fbk gs F) w w'/\(fbk gs F'=fbk gs F∨w.heap.size<=fbk gs F')
structure IsSt (W0:World) (gs:Nat) (P C F:Value) (R:List (Fq×Fq)) (w:World) (F':Value) (wx:World):Prop where
 blk:Blk wx gs 61 #[P,C,F']
 fnd:FndV W0.heap.size gs wx F' R
 fr:FrS gs (fbk gs F) w wx
 fb:fbk gs F'=fbk gs F∨w.heap.size<=fbk gs F'
theorem IsSt.size {W0 w wx:World} {gs:Nat} {P C F F':Value} {R:List (Fq×Fq)} (h:IsSt W0 gs P C F R w F' wx):w.heap.size<=wx.heap.size:=h.fr.size
theorem IsSt.below {W0 w wx wy:World} {gs:Nat} {P C F F':Value} {R:List (Fq×Fq)} (h:IsSt W0 gs P C F R w F' wx) (hb:Below wx.heap.size wx wy):IsSt W0 gs P C F R w F' wy :=
 ⟨h.blk.below hb h.blk.lt,h.fnd.below hb,FrS.trans (g2:=fbk gs F) h.fr (FrS.of_below hb) (.inl rfl),h.fb⟩
theorem IsSt.w0 {W0 w wx:World} {gs:Nat} {P C F F':Value} {R:List (Fq×Fq)} (h:IsSt W0 gs P C F R w F' wx) (h0:Below W0.heap.size W0 w/\W0.heap.size<=gs/\W0.heap.size<=fbk gs F):Below W0.heap.size W0 wx:=h.fr.mono h0.1 h0.2.1 h0.2.2 h0.1.size
theorem IsSt.w0s {W0 w wx:World} {gs:Nat} {P C F F':Value} {R:List (Fq×Fq)} (h:IsSt W0 gs P C F R w F' wx) (h0:Below W0.heap.size W0 w/\W0.heap.size<=gs/\W0.heap.size<=fbk gs F):W0.heap.size<=wx.heap.size:=(h.w0 h0).size
theorem IsSt.next {W0 w wx wy:World} {gs:Nat} {P C F F' F2:Value} {R R2:List (Fq×Fq)} (h:IsSt W0 gs P C F R w F' wx) (k1:Blk wy gs 61 #[P,C,F2]) (k2:FndV W0.heap.size gs wy F2 R2) (k3:FrS gs (fbk gs F') wx wy) (k4:fbk gs F2=fbk gs F'∨wx.heap.size<=fbk gs F2):IsSt W0 gs P C F R2 w F2 wy:=by
 have hs:=h.fr.size
 refine ⟨k1,k2,FrS.trans h.fr k3 h.fb,?_⟩
 rcases k4 with e | e
 ·rw[e];exact h.fb
 ·exact .inr (by omega)
theorem MBox.frs2 {w w':World} {gs t:Nat} {F P C:Value} {rs:List (Fq×Fq)} {B0:Nat} {g:Nat} {n:Bool} {A:Option Addr} {l c:Nat} {B:Option Addr} {m d:Nat} {z:Int} {q:Nat} {N:Int} {zr:Bool} (h:MBox w g n A l c B m d z q N zr) (hb:Blk w gs t #[P,C,F]) (hP:NoDigit P) (hC:NoDigit C) (hF:FndV B0 gs w F rs) (hf:FrS gs (fbk gs F) w w') (k1:g≠gs) (k2:g≠fbk gs F):MBox w' g n A l c B m d z q N zr :=
 h.frs hf (fndv_ndb hb hP hC hF).1 (fndv_ndb hb hP hC hF).2 k1 k2
set_option maxRecDepth 100000 in
set_option maxHeartbeats 8000000 in
theorem iso_step {Q:List Int} {PS:List (List Int)} {W0:World} {gs:Nat} {Ap:Option Addr} {lp cp:Nat} {Ac:Option Addr} {lc cc:Nat} (hx:IsCtx Q PS W0 gs Ap lp cp Ac lc cc) {a b:Fq} (ha:FqB a) (hb:FqB b) {rt:List (Fq×Fq)}
  (hcase:(icnt Q PS a b<1/\rt=[])∨(icnt Q PS a b=1/\a.sgn Q≠0/\b.sgn Q≠0/\rt=[(a.nf,b.nf)])∨(¬ icnt Q PS a b<1/\¬ (icnt Q PS a b=1/\a.sgn Q≠0/\b.sgn Q≠0)/\FqB (a.mid b)/\∃ r1 r2,rt=r1 ++ (if (a.mid b).sgn Q=0 then [((a.mid b).nf,(a.mid b).nf)] else []) ++ r2 /\
    IsoSpec Q PS W0 gs Ap lp cp Ac lc cc a (a.mid b) r1/\IsoSpec Q PS W0 gs Ap lp cp Ac lc cc (a.mid b) b r2)):IsoSpec Q PS W0 gs Ap lp cp Ac lc cc a b rt:=by
 intro F rs n A l c B m d n' A' l' c' B' m' d' N1 N2 za zb hN1 hN2 hza hzb w hN hw0 hB hF hz hq hz' hq'
 obtain ⟨X,hX⟩:∃ X,X=N1-N2:=⟨_,rfl⟩
 obtain ⟨Y,hY⟩:∃ Y,Y=X-1:=⟨_,rfl⟩
 obtain ⟨CN,hCN⟩:∃ CN,CN=(if zb=true then Y else X):=⟨_,rfl⟩
 have hpl:PS.length<=1000:=by have:=hx.hc.length;have:=hx.lc;omega
 have n1b:=(vst_le (PS.map (sat a.z a.q)) PS.length).1
 have n2b:=(vst_le (PS.map (sat b.z b.q)) PS.length).1
 have r1:0<=N1/\N1<=1000:=by
  have e:N1=(((vst (PS.map (sat a.z a.q)) PS.length).1:Nat):Int):=hN1
  omega
 have r2:0<=N2/\N2<=1000:=by
  have e:N2=(((vst (PS.map (sat b.z b.q)) PS.length).1:Nat):Int):=hN2
  omega
 have e1:IntKind.i64.wrap (N1-N2)=X:=by rw[hX];exact IntWalk.i64_in _ (by omega)
 have e2:IntKind.i64.wrap (X-1)=Y:=by rw[hY];exact IntWalk.i64_in _ (by omega)
 have eC:icnt Q PS a b=CN:=by
  unfold icnt
  rw[hCN,hY,hX,hN1,hN2,hzb]
  by_cases h0:b.sgn Q=0
  ·rw[if_pos h0,if_pos (by simpa using h0)]
  ·rw[if_neg h0,if_neg (by simpa using h0),Int.sub_zero]
 have eA:a.sgn Q≠0↔za=false:=by rw[hza];simp
 have eB:b.sgn Q≠0↔zb=false:=by rw[hzb];simp
 rw[eC,eA,eB] at hcase
 have Hcase:=Lh hcase
 have HCN:=Lh hCN
 have HN1:=Lh hN1
 have HN2:=Lh hN2
 have Hza:=Lh hza
 have Hzb:=Lh hzb
 clear hcase eC eA eB hX hY hCN n1b n2b r1 r2 hN1 hN2 hza hzb
 have o1:=below_new w (mbox n A l c B m d N1 za)
 have o2:=below_new (w.alloc (mbox n A l c B m d N1 za)) (mbox n' A' l' c' B' m' d' N2 zb)
 have b2:Below w.heap.size w ((w.alloc (mbox n A l c B m d N1 za)).alloc (mbox n' A' l' c' B' m' d' N2 zb)):=o1.alloc (by simp) _
 have m1:=(MBox.make (N:=N1) (zr:=za) hz hq).move o2
 have m2:=MBox.make (N:=N2) (zr:=zb) (hz'.below o1) (hq'.below o1)
 simp only[World.size_alloc] at m2
 have st:IsSt W0 gs (.slice Ap lp cp) (.slice Ac lc cc) F rs w F ((w.alloc (mbox n A l c B m d N1 za)).alloc (mbox n' A' l' c' B' m' d' N2 zb)):=⟨hB.below b2 hB.lt,hF.below b2,FrS.of_below b2,.inl rfl⟩
 have hgl:=hB.lt
 have hfl:=hF.fb_lt hB.lt
 have hfg:=hF.fb_ge hx.gs
 have hgs0:=Lh (And.intro hw0 (And.intro hx.gs hfg))
 have M1:=Lh m1
 have M2:=Lh m2
 have ST:=Lh st
 have hX2:=Lh hx
 obtain ⟨wb,hwb⟩:∃ wb,wb=(w.alloc (mbox n A l c B m d N1 za)).alloc (mbox n' A' l' c' B' m' d' N2 zb):=⟨_,rfl⟩
 have a0:=m1.r.c0
 have a1:=m1.r.c1
 have a2:=m1.r.c2
 have a3:=m1.c3
 have a4:=m1.c4
 have d0:=m2.r.c0
 have d1:=m2.r.c1
 have d2:=m2.r.c2
 have d3:=m2.c3
 have d4:=m2.c4
 have Hfg:=Lh hfg
 clear o1 o2 b2 hz hq hz' hq' hB hF m1 m2 st hw0 hfg hx
 go_enter Tryz.func27,Tryz.ntmps27
 go_upto_if 14 with (fail)
 rw[<- hwb] at M1 M2 ST a0 a1 a2 a3 a4 d0 d1 d2 d3 d4 ⊢
 clear hwb
 obtain ⟨g1,hg1⟩:∃ g,g=w.heap.size:=⟨_,rfl⟩
 obtain ⟨g2,hg2⟩:∃ g,g=w.heap.size+1:=⟨_,rfl⟩
 rw[<- hg1] at M1 a0 a1 a2 a3 a4 hgl hfl
 rw[<- hg2] at M2 d0 d1 d2 d3 d4
 rw[<- hg2,<- hg1]
 have l1:=M1.out.r.lt
 have l2:=M2.out.r.lt
 have hgg:g1<g2:=by omega
 have nq1:gs≠g1:=by omega
 have nq2:gs≠g2:=by omega
 have Hgw:=Lh hg1
 clear hg1 hg2
 go_cut [6] (fun s6 wx=>s6=.int .i64 CN/\Below wb.heap.size wb wx)
 case first =>
  rcases Bool.eq_false_or_eq_true zb with h | h
  ·subst h
   have ec:=HCN.out
   rw[if_pos rfl] at ec
   subst ec
   go_wp2_with fail
   go_meet
   exact ⟨rfl,Below.refl _ _⟩
  ·subst h
   have ec:=HCN.out
   rw[if_neg (by decide)] at ec
   subst ec
   go_wp2_with fail
   go_meet
   exact ⟨rfl,Below.refl _ _⟩
 case rest =>
  obtain ⟨rfl,hb3⟩:=hcut
  replace M1:=Lh (M1.out.move hb3)
  replace M2:=Lh (M2.out.move hb3)
  replace ST:=Lh (ST.out.below hb3)
  have hsw:=hb3.size
  have a0:=M1.out.r.c0
  have a1:=M1.out.r.c1
  have a2:=M1.out.r.c2
  have a3:=M1.out.c3
  have a4:=M1.out.c4
  have d0:=M2.out.r.c0
  have d1:=M2.out.r.c1
  have d2:=M2.out.r.c2
  have d3:=M2.out.c3
  have d4:=M2.out.c4
  obtain ⟨wx,hwx⟩:∃ wx,wx=wc:=⟨_,rfl⟩
  rw[<- hwx] at M1 M2 ST a0 a1 a2 a3 a4 d0 d1 d2 d3 d4 hsw ⊢
  have lx1:g1<wx.heap.size:=by omega
  have lx2:g2<wx.heap.size:=by omega
  clear hwx hb3 l1 l2 hsw e1 e2
  by_cases hc1:CN<1
  ·have b1:decide (CN<1)=true:=decide_eq_true hc1
   have hr:rt=[]:=by
    rcases Hcase.out with ⟨_,h⟩ | ⟨h,_⟩ | ⟨h,_⟩
    ·exact h
    ·omega
    ·exact absurd hc1 h
   subst hr
   clear Hcase hc1
   go_wp2_with fail
   exact bodyPost_ret (results_none (by rfl) _ _ _) rfl ⟨⟨_,rfl⟩,F,ST.out.blk,by first | exact ST.out.fnd | (rw[List.append_nil];exact ST.out.fnd),ST.out.fr,.inl rfl⟩
  have b1:decide (CN<1)=false:=decide_eq_false hc1
  obtain ⟨cb,hcb⟩:∃ cb,cb=decide (CN=1/\za=false/\zb=false):=⟨_,rfl⟩
  have Hcb:=Lh hcb
  clear hcb
  go_upto_region 5 with (fail)
  go_cut [30] (fun s30 wy=>s30=.bool cb/\Below wx.heap.size wx wy)
  case first =>
   by_cases h1:CN=1
   ·have c1:(CN == 1)=true:=by rw[h1];rfl
    have H1:=Lh h1
    clear h1
    rcases Bool.eq_false_or_eq_true za with h | h
    ·subst h
     go_wp2_with fail
     go_meet
     exact ⟨by rw[Hcb.out];simp,Below.refl _ _⟩
    ·subst h
     rcases Bool.eq_false_or_eq_true zb with h | h
     ·subst h
      go_wp2_with fail
      go_meet
      exact ⟨by rw[Hcb.out];simp,Below.refl _ _⟩
     ·subst h
      go_wp2_with fail
      go_meet
      exact ⟨by rw[Hcb.out];simp[H1.out],Below.refl _ _⟩
   ·have c1:(CN == 1)=false:=by rw[beq_eq_false_iff_ne];exact h1
    have H1:=Lh h1
    clear h1
    go_wp2_with fail
    go_meet
    exact ⟨by rw[Hcb.out];simp[H1.out],Below.refl _ _⟩
  case rest =>
   obtain ⟨rfl,hb4⟩:=hcut
   replace M1:=Lh (M1.out.move hb4)
   replace M2:=Lh (M2.out.move hb4)
   replace ST:=Lh (ST.out.below hb4)
   have hsw:=hb4.size
   clear a0 a1 a2 a3 a4 d0 d1 d2 d3 d4
   have a0:=M1.out.r.c0
   have a1:=M1.out.r.c1
   have a2:=M1.out.r.c2
   have a3:=M1.out.c3
   have a4:=M1.out.c4
   have d0:=M2.out.r.c0
   have d1:=M2.out.r.c1
   have d2:=M2.out.r.c2
   have d3:=M2.out.c3
   have d4:=M2.out.c4
   obtain ⟨wy,hwy⟩:∃ wy,wy=wc:=⟨_,rfl⟩
   rw[<- hwy] at M1 M2 ST a0 a1 a2 a3 a4 d0 d1 d2 d3 d4 hsw ⊢
   have ly1:g1<wy.heap.size:=by omega
   have ly2:g2<wy.heap.size:=by omega
   have lys:=ST.out.blk.lt
   have x2:wy.cell? ⟨gs,2,none⟩=some F:=(ST.out.blk.cell 2).trans rfl
   clear hwy hb4 lx1 lx2 hsw b1
   by_cases hco:CN=1/\za=false/\zb=false
   ·obtain rfl:cb=true:=Hcb.out.trans (decide_eq_true hco)
    have hr:rt=[(a.nf,b.nf)]:=by
     rcases Hcase.out with ⟨h,_⟩ | ⟨_,_,_,h⟩ | ⟨_,h,_⟩
     ·omega
     ·exact h
     ·exact absurd hco h
    subst hr
    have hrl:rs.length+1<=1000000:=by simpa using hN
    clear Hcase hco hc1 hN
    go_wp2_with fail
    refine wp_region_lastT (S:=fun w'=>w'.cell? ⟨g1,0,none⟩=some (.bool n)/\w'.cell? ⟨g1,1,none⟩=some (.slice A l c)/\w'.cell? ⟨g1,2,none⟩=some (.slice B m d)/\w'.cell? ⟨g2,0,none⟩=some (.bool n')/\w'.cell? ⟨g2,1,none⟩=some (.slice A' l' c')/\w'.cell? ⟨g2,2,none⟩=some (.slice B' m' d')/\w'.cell? ⟨gs,2,none⟩=some (F)) (by kernel_rfl) (by kernel_rfl) (by (try dsimp only);go_keep) (fun hHeld=>?_)
    simp only[List.pop_toArray,List.dropLast]
    (refine tq 0 ?_;simp only[put_lit,List.set])
    (refine tq 1 ?_;simp only[put_lit,List.set])
    (refine tq 2 ?_;simp only[put_lit,List.set])
    (refine tq 3 ?_;simp only[put_lit,List.set])
    (refine tq 4 ?_;simp only[put_lit,List.set])
    (refine tq 5 ?_;simp only[put_lit,List.set])
    (refine tq 6 ?_;simp only[put_lit,List.set])
    (refine tq 7 ?_;simp only[put_lit,List.set])
    (refine tq 8 ?_;simp only[put_lit,List.set])
    refine rdy 9 (fun K hK=>?_);go_simp
    refine (copy_any a b _ _ _ _ _ _ _ _ _ _ _ _ _ _ _ (M1.out.r.hz.below Bel.go) (M1.out.r.hq.below Bel.go) (M2.out.r.hz.below Bel.go) (M2.out.r.hq.below Bel.go) ha.fz ha.fq ha.p hb.fz hb.fq hb.p).mono ?_
    rintro e w7 ⟨⟨n7,A7,l7,c7,B7,m7,d7,n9,A9,l9,c9,B9,m9,d9,rfl,h7,k7,h9,k9⟩,hb7⟩
    obtain ⟨hcx,hfx⟩:=bcellS hb7
    have hbz:Below wy.heap.size wy w7:=(Below.trans Bel.go (hb7.mono (by simp<;>omega)))
    have Hbz:=Lh hbz
    have H7:=Lh (RtV.mk (r:=(a.nf,b.nf)) h7 k7 h9 k9)
    refine hK.out _ _ ?_ (fun _=>?_)
    ·((try dsimp only);repeat' apply And.intro)<;>(rw[hcx _ (by go_simp)];go_simp)
    clear hHeld hK K hcx hfx;rename_i hHeld
    have hs7:=hbz.size
    clear h7 k7 h9 k9 hb7 hbz
    refine rdy 10 (fun K hK=>?_);go_simp
    refine hK.out _ _ ?_ (fun _=>?_)
    ·(try dsimp only);go_keep
    clear hHeld hK K
    rename_i hHeld
    (try (simp only[put_lit,List.set]))
    refine rdy 11 (fun K hK=>?_)
    rw[if_pos (by rfl)]
    have jb:=below_new w7 (.cells #[.bool n7,.slice A7 l7 c7,.slice B7 m7 d7,.bool n9,.slice A9 l9 c9,.slice B9 m9 d9] 42)
    have hwj:Below wy.heap.size wy (w7.alloc (.cells #[.bool n7,.slice A7 l7 c7,.slice B7 m7 d7,.bool n9,.slice A9 l9 c9,.slice B9 m9 d9] 42)):=Hbz.out.trans (jb.mono Hbz.out.size)
    refine oper_append_rootv (.tmp 35) (.tmp 41) rfl W0.heap.size gs (F) (rs) (a.nf,b.nf) rfl (ST.out.fnd.below (by exact hwj)) (by have:=ST.out.blk.lt;simp;omega) (by have:=ST.out.w0s hgs0.out;simp;omega) w7.heap.size [.bool n7,.slice A7 l7 c7,.slice B7 m7 d7,.bool n9,.slice A9 l9 c9,.slice B9 m9 d9] rfl (newrow_cells _ _ _) (H7.out.below Bel.go) (by first | omega | (simp only[List.length_append];omega)) 42 rfl ?_
    intro F2 w10 hgr
    obtain ⟨g2',cap2,eF2⟩:=hgr.grown.slice
    subst eF2
    have hbk:=ST.out.blk.below hwj ST.out.blk.lt
    have fin:=hgr.fin hbk (noDigit_slice _ _ _) (noDigit_slice _ _ _) (fndv_nd ST.out.fnd) hwj
    have STF:=Lh (ST.out.next fin.1 fin.2.1 fin.2.2.1 fin.2.2.2)
    have FB:=Lh fin.2.2.2
    have z7:w10.cell? ⟨gs,2,none⟩=some (F):=((hgr.grown.blk hbk).cell 2).trans rfl
    have z8:w10.frozen? ⟨gs,2,none⟩=false:=(hgr.grown.blk hbk).frozen 2
    refine hK.out _ _ ?_ (fun _=>?_)
    ·refine ⟨?_,?_,?_,?_,?_,?_,z7⟩<;>(refine (hgr.grown.cell (by simp;omega) (by omega) _).trans ?_;go_simp)
    clear hHeld hK K hgr hbk jb hwj fin
    rename_i hHeld
    simp only[put_lit,List.set]
    (refine tq 12 ?_;simp only[put_lit,List.set])
    (refine tq 13 ?_;simp only[put_lit,List.set])
    refine wpAnyH_done (by kernel_rfl) (lastQ_list rfl ?_) _
    clear hHeld x2 a0 a1 a2 a3 a4 d0 d1 d2 d3 d4 M1 M2 ST H7 Hbz
    go_wp2_with fail
    exact bodyPost_ret (results_none (by rfl) _ _ _) rfl ⟨⟨_,rfl⟩,_,STF.out.blk,STF.out.fnd,STF.out.fr,STF.out.fb⟩
   ·obtain rfl:cb=false:=Hcb.out.trans (decide_eq_false hco)
    obtain ⟨hM,r1,r2,hr,ih1,ih2⟩:FqB (a.mid b)/\∃ r1 r2,rt=r1 ++ (if (a.mid b).sgn Q=0 then [((a.mid b).nf,(a.mid b).nf)] else []) ++ r2/\IsoSpec Q PS W0 gs Ap lp cp Ac lc cc a (a.mid b) r1/\IsoSpec Q PS W0 gs Ap lp cp Ac lc cc (a.mid b) b r2:=by
     rcases Hcase.out with ⟨h,_⟩ | ⟨h1,h2,h3,_⟩ | ⟨_,_,h⟩
     ·exact absurd h hc1
     ·exact absurd ⟨h1,h2,h3⟩ hco
     ·exact h
    have Ih1:=Lh ih1
    have Ih2:=Lh ih2
    have Hr:=Lh hr
    have hrl:rs.length+rt.length<=1000000:=hN
    have hln:rt.length=r1.length+(if (a.mid b).sgn Q=0 then [((a.mid b).nf,(a.mid b).nf)] else []).length+r2.length:=by rw[hr,List.length_append,List.length_append]
    clear Hcase hco hc1 ih1 ih2 hr hN
    go_wp2_with fail
    refine (mid_any _ _ _ _ _ _ _ _ _ _ _ _ _ _ _ _ _ _ _ M1.out.r.hz M1.out.r.hq M2.out.r.hz M2.out.r.hq ha.fz ha.fq ha.p hb.fz hb.fq hb.p).mono ?_
    rintro e w9 ⟨⟨n9,A9,l9,c9,B9,m9,d9,rfl,h9,k9⟩,hb9⟩
    replace h9:IntN w9 n9 A9 l9 c9 (a.mid b).z:=h9
    replace k9:NatN w9 B9 m9 d9 (a.mid b).q:=k9
    obtain ⟨mf,hmf⟩:∃ mf,mf=a.mid b:=⟨_,rfl⟩
    rw[<- hmf] at h9 k9 hM Ih1 Ih2 Hr hln
    replace M1:=Lh (M1.out.move hb9)
    replace M2:=Lh (M2.out.move hb9)
    replace ST:=Lh (ST.out.below hb9)
    have hw9:=ST.out.w0 hgs0.out
    have hs9:=hb9.size
    clear hb9 a0 a1 a2 a3 a4 d0 d1 d2 d3 d4 x2 hmf lys
    go_wp2_with fail
    refine (mark_any Q PS gs Ap lp cp Ac lc cc F n9 A9 l9 c9 B9 m9 d9 mf.q mf.z w9 ST.out.blk (hX2.out.hp.below ikN hw9) (hX2.out.hc.below hw9) hX2.out.lp (by have:=hX2.out.lc;omega) h9 k9 hM.at (fun p hp=>hX2.out.el p hp _ _ hM.z hM.q) (hX2.out.eq _ _ hM.z hM.q)).mono ?_
    rintro e w10 ⟨rfl,hb10⟩
    obtain ⟨N3,hN3⟩:∃ N3:Int,N3=((vst (PS.map (sat mf.z mf.q)) lc).1:Nat):=⟨_,rfl⟩
    obtain ⟨mz,hmz⟩:∃ mz,mz=decide (sat mf.z mf.q Q=0):=⟨_,rfl⟩
    rw[<- hN3,<- hmz]
    have HN3:=Lh (show N3=(mf.chg PS:Int) by rw[hN3,<- hX2.out.hc.length];rfl)
    have Hmz:=Lh (show mz=decide (mf.sgn Q=0) from hmz)
    have jb:=below_new w10 (mbox n9 A9 l9 c9 B9 m9 d9 N3 mz)
    have hbj:=hb10.trans (jb.mono hb10.size)
    have m3:=MBox.make (N:=N3) (zr:=mz) (h9.below hb10) (k9.below hb10)
    have hg3:wy.heap.size<=w10.heap.size:=by have:=hb10.size;omega
    replace M1:=Lh (M1.out.move hbj)
    replace M2:=Lh (M2.out.move hbj)
    replace ST:=Lh (ST.out.below hbj)
    have M3:=Lh m3
    have a0:=M1.out.r.c0
    have a1:=M1.out.r.c1
    have a2:=M1.out.r.c2
    have a3:=M1.out.c3
    have a4:=M1.out.c4
    have d0:=m3.r.c0
    have d1:=m3.r.c1
    have d2:=m3.r.c2
    have d3:=m3.c3
    have d4:=m3.c4
    have lk1:=M1.out.r.lt
    have lk3:=m3.r.lt
    clear h9 k9 hb10 jb hbj m3 hN3 hmz hw9
    go_wp2_with fail
    obtain ⟨wk,hwk⟩:∃ wk,wk=w10.alloc (mbox n9 A9 l9 c9 B9 m9 d9 N3 mz):=⟨_,rfl⟩
    rw[<- hwk] at M1 M2 M3 ST a0 a1 a2 a3 a4 d0 d1 d2 d3 d4 lk1 lk3 ⊢
    obtain ⟨g3,e3⟩:∃ g,g=w10.heap.size:=⟨_,rfl⟩
    rw[<- e3] at M3 hg3 d0 d1 d2 d3 d4 lk3 ⊢
    clear hwk e3
    have hwk0:=ST.out.w0 hgs0.out
    refine (Ih1.out F rs _ _ _ _ _ _ _ _ _ _ _ _ _ _ N1 N3 za mz HN1.out HN3.out Hza.out Hmz.out wk (by omega) hwk0 ST.out.blk ST.out.fnd M1.out.r.hz M1.out.r.hq M3.out.r.hz M3.out.r.hq).mono ?_
    rintro e w12 ⟨⟨v12,rfl⟩,F',hB',hF',hfr,hfb'⟩
    have m2':=M2.out.frs2 ST.out.blk (noDigit_slice _ _ _) (noDigit_slice _ _ _) ST.out.fnd hfr (by omega) (by omega)
    have m3':=M3.out.frs2 ST.out.blk (noDigit_slice _ _ _) (noDigit_slice _ _ _) ST.out.fnd hfr (by omega) (by omega)
    replace ST:=Lh (ST.out.next hB' hF' hfr hfb')
    replace M2:=Lh m2'
    replace M3:=Lh m3'
    have hs12:=hfr.size
    have hk12:fbk gs F'≠g2/\fbk gs F'≠g3:=by
     rcases hfb' with e | e
     ·rw[e];omega
     ·have:=M3.out.r.lt;have:=M2.out.r.lt;omega
    clear hB' hF' hfr hfb' m2' m3' a0 a1 a2 a3 a4 d0 d1 d2 d3 d4 M1 hwk0 lk1 lk3
    have a0:=M2.out.r.c0
    have a1:=M2.out.r.c1
    have a2:=M2.out.r.c2
    have a3:=M2.out.c3
    have a4:=M2.out.c4
    have d0:=M3.out.r.c0
    have d1:=M3.out.r.c1
    have d2:=M3.out.r.c2
    have d3:=M3.out.c3
    have d4:=M3.out.c4
    have lw2:=M2.out.r.lt
    have lw3:=M3.out.r.lt
    have lws:=ST.out.blk.lt
    have lwf:=ST.out.fnd.fb_lt lws
    have x2:w12.cell? ⟨gs,2,none⟩=some F':=(ST.out.blk.cell 2).trans rfl
    obtain ⟨R2,hR2⟩:∃ R2,R2=rs ++ r1 ++ (if mf.sgn Q=0 then [(mf.nf,mf.nf)] else []):=⟨_,rfl⟩
    have hRl:R2.length+r2.length=rs.length+rt.length:=by rw[hR2,hln,List.length_append,List.length_append];omega
    have hRt:R2 ++ r2=rs ++ rt:=by rw[hR2,Hr.out];simp only[List.append_assoc]
    have HRt:=Lh hRt
    have HR2:=Lh hR2
    clear hR2 hRt
    go_upto_if 57 with (fail)
    go_cut [] (fun wz=>∃ F2,IsSt W0 gs (.slice Ap lp cp) (.slice Ac lc cc) F R2 w F2 wz/\MBox wz g2 n' A' l' c' B' m' d' b.z b.q N2 zb/\MBox wz g3 n9 A9 l9 c9 B9 m9 d9 mf.z mf.q N3 mz/\fbk gs F2≠g2/\fbk gs F2≠g3)
    case first =>
     rcases Bool.eq_false_or_eq_true mz with h | h
     ·subst h
      have er:R2=rs ++ r1 ++ [(mf.nf,mf.nf)]:=by rw[HR2.out,if_pos (by simpa using Hmz.out.symm)]
      have Er:=Lh er
      clear er
      go_wp2_with fail
      refine wp_region_lastT (S:=fun w'=>w'.cell? ⟨g3,0,none⟩=some (.bool n9)/\w'.cell? ⟨g3,1,none⟩=some (.slice A9 l9 c9)/\w'.cell? ⟨g3,2,none⟩=some (.slice B9 m9 d9)/\w'.cell? ⟨gs,2,none⟩=some (F')) (by kernel_rfl) (by kernel_rfl) (by (try dsimp only);go_keep) (fun hHeld=>?_)
      simp only[List.pop_toArray,List.dropLast]
      (refine tq 0 ?_;simp only[put_lit,List.set])
      (refine tq 1 ?_;simp only[put_lit,List.set])
      (refine tq 2 ?_;simp only[put_lit,List.set])
      (refine tq 3 ?_;simp only[put_lit,List.set])
      (refine tq 4 ?_;simp only[put_lit,List.set])
      (refine tq 5 ?_;simp only[put_lit,List.set])
      (refine tq 6 ?_;simp only[put_lit,List.set])
      (refine tq 7 ?_;simp only[put_lit,List.set])
      (refine tq 8 ?_;simp only[put_lit,List.set])
      refine rdy 9 (fun K hK=>?_);go_simp
      refine (copy_any mf mf _ _ _ _ _ _ _ _ _ _ _ _ _ _ _ (M3.out.r.hz.below Bel.go) (M3.out.r.hq.below Bel.go) (M3.out.r.hz.below Bel.go) (M3.out.r.hq.below Bel.go) hM.fz hM.fq hM.p hM.fz hM.fq hM.p).mono ?_
      rintro e w7 ⟨⟨n7,A7,l7,c7,B7,m7,d7,n9,A9,l9,c9,B9,m9,d9,rfl,h7,k7,h9,k9⟩,hb7⟩
      obtain ⟨hcx,hfx⟩:=bcellS hb7
      have hbz:Below w12.heap.size w12 w7:=(Below.trans Bel.go (hb7.mono (by simp<;>omega)))
      have Hbz:=Lh hbz
      have H7:=Lh (RtV.mk (r:=(mf.nf,mf.nf)) h7 k7 h9 k9)
      refine hK.out _ _ ?_ (fun _=>?_)
      ·((try dsimp only);repeat' apply And.intro)<;>(rw[hcx _ (by go_simp)];go_simp)
      clear hHeld hK K hcx hfx;rename_i hHeld
      have hs7:=hbz.size
      clear h7 k7 h9 k9 hb7 hbz
      refine rdy 10 (fun K hK=>?_);go_simp
      refine hK.out _ _ ?_ (fun _=>?_)
      ·(try dsimp only);go_keep
      clear hHeld hK K
      rename_i hHeld
      (try (simp only[put_lit,List.set]))
      refine rdy 11 (fun K hK=>?_)
      rw[if_pos (by rfl)]
      have jb:=below_new w7 (.cells #[.bool n7,.slice A7 l7 c7,.slice B7 m7 d7,.bool n9,.slice A9 l9 c9,.slice B9 m9 d9] 42)
      have hwj:Below w12.heap.size w12 (w7.alloc (.cells #[.bool n7,.slice A7 l7 c7,.slice B7 m7 d7,.bool n9,.slice A9 l9 c9,.slice B9 m9 d9] 42)):=Hbz.out.trans (jb.mono Hbz.out.size)
      refine oper_append_rootv (.tmp 62) (.tmp 68) rfl W0.heap.size gs (F') (rs ++ r1) (mf.nf,mf.nf) rfl (ST.out.fnd.below (by exact hwj)) (by have:=ST.out.blk.lt;simp;omega) (by have:=ST.out.w0s hgs0.out;simp;omega) w7.heap.size [.bool n7,.slice A7 l7 c7,.slice B7 m7 d7,.bool n9,.slice A9 l9 c9,.slice B9 m9 d9] rfl (newrow_cells _ _ _) (H7.out.below Bel.go) (by first | omega | (simp only[List.length_append];omega)) 69 rfl ?_
      intro F2 w10 hgr
      obtain ⟨g2',cap2,eF2⟩:=hgr.grown.slice
      subst eF2
      have hbk:=ST.out.blk.below hwj ST.out.blk.lt
      have fin:=hgr.fin hbk (noDigit_slice _ _ _) (noDigit_slice _ _ _) (fndv_nd ST.out.fnd) hwj
      have STF:=Lh (ST.out.next fin.1 fin.2.1 fin.2.2.1 fin.2.2.2)
      have FB:=Lh fin.2.2.2
      have M2F:=Lh (M2.out.frs2 ST.out.blk (noDigit_slice _ _ _) (noDigit_slice _ _ _) ST.out.fnd fin.2.2.1 (by omega) (by omega))
      have M3F:=Lh (M3.out.frs2 ST.out.blk (noDigit_slice _ _ _) (noDigit_slice _ _ _) ST.out.fnd fin.2.2.1 (by omega) (by omega))
      have z7:w10.cell? ⟨gs,2,none⟩=some (F'):=((hgr.grown.blk hbk).cell 2).trans rfl
      have z8:w10.frozen? ⟨gs,2,none⟩=false:=(hgr.grown.blk hbk).frozen 2
      refine hK.out _ _ ?_ (fun _=>?_)
      ·refine ⟨?_,?_,?_,z7⟩<;>(refine (hgr.grown.cell (by simp;omega) (by omega) _).trans ?_;go_simp)
      clear hHeld hK K hgr hbk jb hwj fin
      rename_i hHeld
      simp only[put_lit,List.set]
      (refine tq 12 ?_;simp only[put_lit,List.set])
      (refine tq 13 ?_;simp only[put_lit,List.set])
      refine wpAnyH_done (by kernel_rfl) (lastQ_list rfl ?_) _
      clear hHeld x2 a0 a1 a2 a3 a4 d0 d1 d2 d3 d4 M2 M3 ST H7 Hbz
      simp only[List.length_append] at STF M2F M3F FB
      go_wp2_with fail
      go_meet
      refine ⟨_,by rw[Er.out];exact STF.out,M2F.out,M3F.out,?_,?_⟩
      ·rcases FB.out with e | e
       ·rw[e];exact hk12.1
       ·omega
      ·rcases FB.out with e | e
       ·rw[e];exact hk12.2
       ·omega
     ·subst h
      have er:R2=rs ++ r1:=by rw[HR2.out,if_neg (by simpa using Hmz.out.symm),List.append_nil]
      have Er:=Lh er
      clear er
      go_wp2_with fail
      go_meet
      exact ⟨F',by rw[Er.out];exact ST.out,M2.out,M3.out,hk12.1,hk12.2⟩
    case rest =>
     obtain ⟨F2,st2,m2,m3,k1,k2⟩:=hcut
     clear a0 a1 a2 a3 a4 d0 d1 d2 d3 d4 x2 M2 M3 ST hk12 lw2 lw3 lws lwf
     have a0:=m2.r.c0
     have a1:=m2.r.c1
     have a2:=m2.r.c2
     have a3:=m2.c3
     have a4:=m2.c4
     have d0:=m3.r.c0
     have d1:=m3.r.c1
     have d2:=m3.r.c2
     have d3:=m3.c3
     have d4:=m3.c4
     have ST:=Lh st2
     have M2:=Lh m2
     have M3:=Lh m3
     have hwc0:=st2.w0 hgs0.out
     clear st2 m2 m3
     go_wp2_with fail
     refine (Ih2.out F2 R2 _ _ _ _ _ _ _ _ _ _ _ _ _ _ N3 N2 mz zb HN3.out HN2.out Hmz.out Hzb.out _ (by omega) hwc0 ST.out.blk ST.out.fnd M3.out.r.hz M3.out.r.hq M2.out.r.hz M2.out.r.hq).mono ?_
     rintro e w13 ⟨⟨v13,rfl⟩,F3,hB3,hF3,hfr3,hfb3⟩
     have STF:=Lh (ST.out.next hB3 hF3 hfr3 hfb3)
     clear hB3 hF3 hfr3 hfb3 a0 a1 a2 a3 a4 d0 d1 d2 d3 d4 M2 M3 ST
     go_wp2_with fail
     exact bodyPost_end (results_none (by rfl) _ _ _) rfl ⟨⟨_,rfl⟩,F3,STF.out.blk,by rw[<- HRt.out];exact STF.out.fnd,STF.out.fr,STF.out.fb⟩
theorem iso_any {Q:List Int} {PS:List (List Int)} {W0:World} {gs:Nat} {Ap:Option Addr} {lp cp:Nat} {Ac:Option Addr} {lc cc:Nat} (hx:IsCtx Q PS W0 gs Ap lp cp Ac lc cc):∀ (n:Nat) (a b:Fq),IsFit Q PS n a b->IsoSpec Q PS W0 gs Ap lp cp Ac lc cc a b (isl Q PS n a b)
 | 0,_,_,h=>h.elim
 | n+1,a,b,⟨ha,hb,h⟩=>by
   refine iso_step hx ha hb ?_
   have e:isl Q PS (n+1) a b=if icnt Q PS a b<1 then [] else if icnt Q PS a b=1/\a.sgn Q≠0/\b.sgn Q≠0 then [(a.nf,b.nf)] else isl Q PS n a (a.mid b) ++ (if (a.mid b).sgn Q=0 then [((a.mid b).nf,(a.mid b).nf)] else []) ++ isl Q PS n (a.mid b) b:=rfl
   by_cases c1:icnt Q PS a b<1
   ·exact .inl ⟨c1,by rw[e,if_pos c1]⟩
   by_cases c2:icnt Q PS a b=1/\a.sgn Q≠0/\b.sgn Q≠0
   ·exact .inr (.inl ⟨c2.1,c2.2.1,c2.2.2,by rw[e,if_neg c1,if_pos c2]⟩)
   ·obtain ⟨h1,h2,h3⟩:=(h.resolve_left c1).resolve_left c2
    exact .inr (.inr ⟨c1,c2,h1,_,_,by rw[e,if_neg c1,if_neg c2],iso_any hx n a _ h2,iso_any hx n _ b h3⟩)
end Go.Proofs.YtpeiiomjnjemjaaGreat
