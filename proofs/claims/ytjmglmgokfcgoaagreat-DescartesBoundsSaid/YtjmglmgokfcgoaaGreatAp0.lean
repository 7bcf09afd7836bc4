/- Rows of one's own of elements with several cells, and append to them (one law for all types). -/
import Derived.Test.YtjmglmgokfcgoaaGreatSrc
namespace Go.Proofs.YtjmglmgokfcgoaaGreat
open Go Go.RowKit
def OwnE (C:Value→Prop) (E t base:Nat) (w:World) (v:Value) (us:List Value):Prop :=
 (us=[]∧v=.slice none 0 0)∨∃ g n cap cs,v=.slice (some ⟨g,0,none⟩) n cap∧base≤g∧us.length=n*E∧n≤cap∧(∀ (j:Nat) (u:Value),us[j]?=some u→w.cell? ⟨g,j,none⟩=some u)∧Blk w g t cs∧cs.size=cap*E∧∀ j,j<cap*E→∃ u,cs[j]?=some u∧C u
theorem OwnE.below {C:Value→Prop} {E t base:Nat} {w w':World} {v:Value} {us:List Value} (h:OwnE C E t base w v us) (hb:Below w.heap.size w w'):OwnE C E t base w' v us:=by
 rcases h with h | ⟨g,n,cap,cs,h1,h2,h3,h4,h5,h6,h7,h8⟩
 ·exact .inl h
 ·exact .inr ⟨g,n,cap,cs,h1,h2,h3,h4,fun j u hu=>(hb.cell (p:=⟨g,j,none⟩) h6.lt).trans (h5 j u hu),h6.below hb h6.lt,h7,h8⟩
def GrE (C:Value→Prop) (E t base:Nat) (w:World) (v:Value) (us vs:List Value) (v':Value) (w':World):Prop :=
 OwnE C E t base w' v' (us ++ vs)∧((∃ g n n' cap,v=.slice (some ⟨g,0,none⟩) n cap∧v'=.slice (some ⟨g,0,none⟩) n' cap∧base≤g∧g<w.heap.size∧(∀ o u,w.cell? ⟨g,o,none⟩=some u→C u)∧FrS g g w w')∨(Below w.heap.size w w'∧∃ n' cap,v'=.slice (some ⟨w.heap.size,0,none⟩) n' cap))
theorem GrE.below {C:Value→Prop} {E t base:Nat} {w w':World} {v v':Value} {us vs:List Value} (h:GrE C E t base w v us vs v' w') (hB:base≤w.heap.size):Below base w w':=by
 rcases h.2 with ⟨g,n,n',cap,_,_,h1,_,_,hf⟩ | ⟨hb,_⟩
 ·exact hf.mono (Below.refl _ _) h1 h1 hB
 ·exact hb.mono hB
theorem blk_setCellsC {C:Value→Prop} {g t N:Nat}:∀ {cs:Array Value} (_:∀ j,j<N→∃ v,cs[j]?=some v∧C v) (_:cs.size=N) (vs:List Value) (_:∀ v∈vs,C v) (o:Nat) (_:o+vs.length≤N) {W:World} (_:Blk W g t cs),
  ∃ cs',Blk (W.setCells g o vs) g t cs'∧cs'.size=N∧(∀ j,j<N→∃ v,cs'[j]?=some v∧C v)∧(∀ (j:Nat) (v:Value),vs[j]?=some v→cs'[o+j]?=some v)∧∀ j,j<o→cs'[j]?=cs[j]?
 | cs,hc,hs,[],_,_,_,_,hk=>⟨cs,hk,hs,hc,fun j v hv=>by simp at hv,fun _ _=>rfl⟩
 | cs,hc,hs,v :: vs,hv,o,ho,W,hk=>by
   simp only [List.length_cons] at ho
   obtain ⟨cs',h1,h2,h3,h4,h5⟩:=blk_setCellsC (cs:=cs.setIfInBounds o v) (fun j hj=>by
    rcases Nat.decEq j o with hne | heq
    ·rw [Array.getElem?_setIfInBounds_ne (by omega)];exact hc j hj
    ·subst heq
     exact ⟨v,by rw [Array.getElem?_setIfInBounds_self_of_lt (by omega)],hv v (List.mem_cons_self ..)⟩) (by simpa using hs) vs (fun u hu=>hv u (List.mem_cons_of_mem _ hu)) (o+1) (by omega) (hk.set_ o v)
   refine ⟨cs',h1,h2,h3,fun j u hu=>?_,fun j hj=>?_⟩
   ·match j,hu with
    | 0,hu =>
      have e:v=u:=by simpa using hu
      rw [Nat.add_zero,h5 o (by omega),Array.getElem?_setIfInBounds_self_of_lt (by omega),e]
    | j+1,hu =>
      rw [show o+(j+1)=o+1+j by omega]
      exact h4 j u (by simpa using hu)
   ·rw [h5 j (by omega),Array.getElem?_setIfInBounds_ne (by omega)]
set_option maxHeartbeats 1000000 in
theorem oper_append_own {w:World} {o:Oper} {a:Act} {K:Act→World→Prop} {Q:Exit→Act→World→Prop} (s x:Operand) (t e:TypeId)
  (ho:o.op=.call { callee:=.builtin .append,args:=#[s,x],argTypes:=#[t,t] }) (E:Nat) (i0:TypeInfo) (z:Value) (ht:Tryz.prog.underlying t=some (.slice e)) (hi:Tryz.prog.info? e=some i0) (hz0:i0.zero=some z) (hz1:i0.size=E) (hz2:i0.bytes≤200) (hzs:z.cells.size=E) (C:Value→Prop) (hC:∀ u,C u→Nd u) (hzn:∀ j,j<E→C (z.cells[j]!)) (hE:0<E)
  (base:Nat) (v:Value) (us vs:List Value) (hs:a.eval s=v) (hown:OwnE C E e base w v us) (hB:base≤w.heap.size)
  (ax:Addr) (m c:Nat) (hx:a.eval x=.slice (some ax) m c) (hvl:vs.length=m*E) (hxc:∀ (j:Nat) (u:Value),vs[j]?=some u→w.cell? (ax.add j)=some u) (hvn:∀ u∈vs,C u) (hm:0<m∨v≠.slice none 0 0) (hn:us.length+vs.length≤100000000)
  (dd:Nat) (hdd:o.dst=some dd) (h:∀ v' w',GrE C E e base w v us vs v' w'→K (a.put (some dd) v') w') :
  Oper.wp Tryz.prog o a w K Q:=by
 rw [← hdd] at h
 have hone:∀ u∈vs,u.oneCell'=true:=fun u hu=>(hC u (hvn u hu)).2
 have hml:m≤100000000:=by
  have:m≤m*E:=Nat.le_mul_of_pos_right _ hE
  omega
 have hzc:∀ k j,j<k*E→∃ v,(Builtin.zeroCells z.cells k)[j]?=some v∧C v:=fun k j hj=>by
  unfold Builtin.zeroCells
  rw [Array.getElem?_map,Array.getElem?_range,hzs,if_pos hj]
  exact ⟨_,rfl,hzn _ (Nat.mod_lt _ hE)⟩
 have hzz:∀ k,(Builtin.zeroCells z.cells k).size=k*E:=fun k=>by rw [size_zeroCells,hzs]
 have hvj:∀ j,j<vs.length→∃ u,vs[j]?=some u∧C u:=fun j hj=>⟨vs[j]'hj,List.getElem?_eq_getElem hj,hvn _ (List.getElem_mem _)⟩
 have hnew:∀ (n cap':Nat) (olds:List Value),olds.length=n*E→(∀ u∈olds,C u)→(us=olds)→n+m≤cap' →
   GrE C E e base w v us vs (.slice (some ⟨w.heap.size,0,none⟩) (n+m) cap') (w.drew.alloc (.cells ((olds ++ vs).toArray ++ Builtin.zeroCells z.cells (cap'-(n+m))) e)):=fun n cap' olds hl hnd hu hc=>by
  have hbw:Below w.heap.size w (w.drew.alloc (.cells ((olds ++ vs).toArray ++ Builtin.zeroCells z.cells (cap'-(n+m))) e)):=((Below.refl _ _).drew).alloc (by simp) _
  have hk:Blk (w.drew.alloc (.cells ((olds ++ vs).toArray ++ Builtin.zeroCells z.cells (cap'-(n+m))) e)) w.heap.size e ((olds ++ vs).toArray ++ Builtin.zeroCells z.cells (cap'-(n+m))):=Blk.new w.drew _ _
  have hlen:(olds ++ vs).length=(n+m)*E:=by rw [List.length_append,hl,hvl,Nat.add_mul]
  refine ⟨.inr ⟨w.heap.size,n+m,cap',_,rfl,hB,by rw [hu,hlen],hc,fun j u hj=>?_,hk,?_,fun j hj=>?_⟩,.inr ⟨hbw,_,_,rfl⟩⟩
  ·rw [hu] at hj
   have hjl:=(List.getElem?_eq_some_iff.1 hj).1
   refine (hk.cell j).trans ?_
   rw [Array.getElem?_append_left (by simpa using hjl),List.getElem?_toArray,hj]
  ·rw [Array.size_append,List.size_toArray,hzz,hlen,← Nat.add_mul,Nat.add_sub_cancel' hc]
  ·rcases Nat.lt_or_ge j ((n+m)*E) with h1 | h1
   ·rw [Array.getElem?_append_left (by rw [List.size_toArray,hlen];exact h1),List.getElem?_toArray]
    refine ⟨(olds ++ vs)[j]'(by rw [hlen];exact h1),List.getElem?_eq_getElem _,?_⟩
    rcases List.mem_append.1 (List.getElem_mem (l:=olds ++ vs) (by rw [hlen];exact h1)) with h2 | h2
    ·exact hnd _ h2
    ·exact hvn _ h2
   ·rw [Array.getElem?_append_right (by rw [List.size_toArray,hlen];exact h1),List.size_toArray,hlen]
    refine hzc _ _ ?_
    rw [Nat.sub_mul]
    omega
 rcases hown with ⟨hn0,hF⟩ | ⟨g,n,cap,cs,hF,hBg,hul,hnc,huc,hk,hsz,hcs⟩
 ·subst hF
  have hm0:0<m:=hm.resolve_right fun h=>h rfl
  have hrun:=run_append_nil (P:=Tryz.prog) (w:=w) t o.type e i0 z ht hi hz0 ax m c vs (by rw [hz1,hvl]) hxc hm0 (by omega) (by
   have:=Nat.mul_le_mul hml hz2
   omega)
  have hge:m≤grownCap w m 0 e:=grownCap_ge w m 0 e
  generalize grownCap w m 0 e=cap' at hrun hge
  have hg:=hnew 0 cap' [] (by simp) (fun u hu=>by simp at hu) hn0 (by omega)
  rw [List.nil_append,Nat.zero_add] at hg
  unfold Oper.wp
  simp only [execOp,ho,resolve,invoke,builtin]
  simp [hs,hx,hrun,Result.andThen]
  exact h _ _ hg
 ·subst hF
  have hnl:n≤100000000:=by
   have:n≤n*E:=Nat.le_mul_of_pos_right _ hE
   omega
  by_cases hrm:n+m≤cap
  ·have hnm:n*E+m*E≤cap*E:=by rw [← Nat.add_mul];exact Nat.mul_le_mul_right _ hrm
   have hrun:=run_append_room_cells (P:=Tryz.prog) w t o.type e i0 ht hi g 0 n cap ax m c vs (by rw [hz1,hvl]) hxc hone hrm
    (fun j hj=>by
      obtain ⟨u,eu,_⟩:=hcs (n*E+j) (by rw [hvl] at hj;omega)
      rw [hz1,Nat.zero_add,hk.cell,eu];rfl)
    (fun j hj=>hk.frozen _)
   rw [hz1,Nat.zero_add] at hrun
   unfold Oper.wp
   simp only [execOp,ho,resolve,invoke,builtin]
   simp [hs,hx,hrun,Result.andThen]
   have hcc:∀ o u,w.cell? ⟨g,o,none⟩=some u→C u:=fun o u hu=>by
    rw [hk.cell] at hu
    have hj:o<cs.size:=(Array.getElem?_eq_some_iff.1 hu).1
    obtain ⟨u',e',hd⟩:=hcs o (by rw [← hsz];exact hj)
    rw [hu] at e'
    cases e'
    exact hd
   obtain ⟨cs',b1,b2,b3,b4,b5⟩:∃ cs',Blk (w.setCells g (n*E) vs) g e cs'∧cs'.size=cap*E∧(∀ j,j<cap*E→∃ v,cs'[j]?=some v∧C v)∧(∀ (j:Nat) (v:Value),vs[j]?=some v→cs'[n*E+j]?=some v)∧∀ j,j<n*E→cs'[j]?=cs[j]?:=blk_setCellsC hcs hsz vs hvn (n*E) (by rw [hvl];exact hnm) hk
   have hfr:FrS g g w (w.setCells g (n*E) vs):=frs_setCells vs (n*E) (FrS.refl _ _ _)
   refine h _ _ ⟨.inr ⟨g,n+m,cap,cs',rfl,hBg,by rw [List.length_append,hul,hvl,Nat.add_mul],hrm,fun j u hj=>?_,b1,b2,b3⟩,.inl ⟨g,n,n+m,cap,rfl,rfl,hBg,hk.lt,hcc,hfr⟩⟩
   refine (b1.cell j).trans ?_
   rcases Nat.lt_or_ge j us.length with h1 | h1
   ·rw [List.getElem?_append_left h1] at hj
    rw [b5 j (by rw [← hul];exact h1),← hk.cell j]
    exact huc j u hj
   ·rw [List.getElem?_append_right h1] at hj
    have:=b4 _ u hj
    rwa [← hul,Nat.add_sub_cancel' h1] at this
  ·have hol:∀ u∈us,C u:=fun u hu=>by
    obtain ⟨j,hj,hju⟩:=List.getElem_of_mem hu
    have hc:=huc j u (by rw [List.getElem?_eq_getElem hj,hju])
    rw [hk.cell j] at hc
    obtain ⟨u',e',hd⟩:=hcs j (by
     have:n*E≤cap*E:=Nat.mul_le_mul_right _ hnc
     omega)
    rw [hc] at e'
    cases e'
    exact hd
   have hnm:=Nat.mul_le_mul (show n+m≤200000000 by omega) hz2
   have hfit:=growslice_fits (need:=n+m) (old:=cap) (bytes:=i0.bytes) (by omega) (by omega)
   have hrun:=run_append_grow (P:=Tryz.prog) w t o.type e i0 z ht hi hz0 ⟨g,0,none⟩ n cap us (by rw [hz1,hul])
    (fun j u hj=>by rw [Addr.add_lit,Nat.zero_add];exact huc j u hj)
    ax m c vs (by rw [hz1,hvl]) hxc (by omega) (by omega) hfit
   have hge:=grownCap_ge w (n+m) cap e
   generalize grownCap w (n+m) cap e=cap' at hrun hge
   have hg:=hnew n cap' us hul hol rfl hge
   unfold Oper.wp
   simp only [execOp,ho,resolve,invoke,builtin]
   simp [hs,hx,hrun,Result.andThen]
   exact h _ _ (by simpa using hg)
def Lay {α:Type} (R:α→List Value→Prop):List α→List Value→Prop
 | [],us=>us=[]
 | x :: xs,us=>∃ vs us',R x vs∧us=vs ++ us'∧Lay R xs us'
section
variable {α:Type} {R R':α→List Value→Prop} {E:Nat}
theorem Lay.app:∀ {xs:List α} {us:List Value} {x:α} {vs:List Value},Lay R xs us→R x vs→Lay R (xs ++ [x]) (us ++ vs)
 | [],us,x,vs,h,hx=>by
   rw [show us=[] from h]
   exact ⟨vs,[],hx,by simp,rfl⟩
 | y :: xs,us,x,vs,⟨ws,us',h1,h2,h3⟩,hx=>⟨ws,us' ++ vs,h1,by rw [h2,List.append_assoc],Lay.app h3 hx⟩
theorem Lay.mono (hm:∀ x vs,R x vs→R' x vs):∀ {xs:List α} {us:List Value},Lay R xs us→Lay R' xs us
 | [],_,h=>h
 | _ :: _,_,⟨vs,us',h1,h2,h3⟩=>⟨vs,us',hm _ _ h1,h2,Lay.mono hm h3⟩
theorem Lay.len (hR:∀ x vs,R x vs→vs.length=E):∀ {xs:List α} {us:List Value},Lay R xs us→us.length=xs.length*E
 | [],us,h=>by rw [show us=[] from h];simp
 | x :: xs,us,⟨vs,us',h1,h2,h3⟩=>by rw [h2,List.length_append,hR _ _ h1,Lay.len hR h3,List.length_cons,Nat.add_mul,Nat.one_mul,Nat.add_comm]
theorem Lay.get (hR:∀ x vs,R x vs→vs.length=E):∀ {xs:List α} {us:List Value},Lay R xs us→∀ (i:Nat) (x:α),xs[i]?=some x→∃ vs,R x vs∧∀ (j:Nat) (v:Value),vs[j]?=some v→us[i*E+j]?=some v
 | [],_,_,i,x,hx=>by simp at hx
 | y :: xs,us,⟨vs,us',h1,h2,h3⟩,i,x,hx=>by
   match i,hx with
   | 0,hx =>
     have e:y=x:=by simpa using hx
     subst e
     refine ⟨vs,h1,fun j v hv=>?_⟩
     rw [h2,Nat.zero_mul,Nat.zero_add,List.getElem?_append_left (List.getElem?_eq_some_iff.1 hv).1]
     exact hv
   | i+1,hx =>
     obtain ⟨ws,g1,g2⟩:=Lay.get hR h3 i x (by simpa using hx)
     refine ⟨ws,g1,fun j v hv=>?_⟩
     have hl:=hR _ _ h1
     rw [h2,List.getElem?_append_right (by rw [hl,Nat.add_mul];omega),hl,show (i+1)*E+j-E=i*E+j by rw [Nat.add_mul];omega]
     exact g2 j v hv
end
structure SlE {α:Type} (E:Nat) (R:World→α→List Value→Prop) (w:World) (A:Option Addr) (l c:Nat) (xs:List α):Prop where
 length:xs.length=l
 cap:l≤c
 elems:(l=0∧A=none∧c=0)∨∃ b o,A=some ⟨b,o,none⟩∧b<w.heap.size∧∀ (i:Nat) (x:α),xs[i]?=some x→∃ vs,R w x vs∧∀ (j:Nat) (v:Value),vs[j]?=some v→w.cell? ⟨b,o+i*E+j,none⟩=some v
theorem SlE.below {α:Type} {E:Nat} {R:World→α→List Value→Prop} {w w':World} {A:Option Addr} {l c:Nat} {xs:List α} (h:SlE E R w A l c xs) (hb:Below w.heap.size w w') (hR:∀ x vs,R w x vs→R w' x vs):SlE E R w' A l c xs:=by
 refine ⟨h.length,h.cap,?_⟩
 rcases h.elems with h0 | ⟨b,o,hA,hlt,hv⟩
 ·exact .inl h0
 ·refine .inr ⟨b,o,hA,Nat.lt_of_lt_of_le hlt hb.size,fun i x hx=>?_⟩
  obtain ⟨vs,h1,h2⟩:=hv i x hx
  exact ⟨vs,hR _ _ h1,fun j v hj=>(hb.cell (p:=⟨b,o+i*E+j,none⟩) hlt).trans (h2 j v hj)⟩
theorem OwnE.sle {α:Type} {C:Value→Prop} {E t base:Nat} {R:World→α→List Value→Prop} {w:World} {v:Value} {us:List Value} {xs:List α} (hE:0<E) (h:OwnE C E t base w v us) (hl:Lay (R w) xs us) (hR:∀ x vs,R w x vs→vs.length=E):∃ A l c,v=.slice A l c∧SlE E R w A l c xs:=by
 have hlen:=hl.len hR
 rcases h with ⟨h1,h2⟩ | ⟨g,n,cap,cs,h1,h2,h3,h4,h5,h6,h7,h8⟩
 ·have:xs.length=0:=by
   rw [h1,List.length_nil] at hlen
   rcases Nat.mul_eq_zero.1 hlen.symm with h | h<;>omega
  exact ⟨_,_,_,h2,this,Nat.le_refl _,.inl ⟨rfl,rfl,rfl⟩⟩
 ·refine ⟨_,n,cap,h1,Nat.eq_of_mul_eq_mul_right hE (by rw [← hlen,h3]),h4,.inr ⟨g,0,rfl,h6.lt,fun i x hx=>?_⟩⟩
  obtain ⟨vs,g1,g2⟩:=hl.get hR i x hx
  exact ⟨vs,g1,fun j u hu=>by rw [Nat.zero_add];exact h5 _ u (g2 j u hu)⟩
end Go.Proofs.YtjmglmgokfcgoaaGreat
