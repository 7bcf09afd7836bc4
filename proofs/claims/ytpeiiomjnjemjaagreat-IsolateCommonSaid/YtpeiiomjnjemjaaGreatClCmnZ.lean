/- For any three slices of int16s the law IsolateCommon returns true and its argument reads as before: Common returns the roots of the product of the polynomials other than 0, and which of them are 0 there. No condition. -/
import Derived.Test.YtpeiiomjnjemjaaGreatRows
import Derived.Test.YtpeiiomjnjemjaaGreatRbH
import Derived.ProofKit
import Derived.WideKeyPair
import Derived.Laws.IdiomArrays
import Derived.Test.YtpeiiomjnjemjaaGreatNatS
import Derived.Test.YtpeiiomjnjemjaaGreatGti
import Derived.Test.YtpeiiomjnjemjaaGreatRpg
import Derived.Test.YtpeiiomjnjemjaaGreatGcx
import Derived.Test.YtpeiiomjnjemjaaGreatDer
import Derived.Test.YtpeiiomjnjemjaaGreatExq
import Derived.Test.YtpeiiomjnjemjaaGreatBits
import Derived.Test.YtpeiiomjnjemjaaGreatIvp
import Derived.Test.YtpeiiomjnjemjaaGreatSrc
import Derived.Test.YtpeiiomjnjemjaaGreatOwp
import Derived.Test.YtpeiiomjnjemjaaGreatIsv
import Derived.Test.YtpeiiomjnjemjaaGreatSqw
namespace Go.Proofs.YtpeiiomjnjemjaaGreat
open Go.ChangeShapes Go.WideShapes Go.ChangeAt Go.RowKit
theorem Tryz.own:ownKnob Tryz.prog.godebug=none:=by kernel_rfl
theorem Tryz.laidOut:laidOutB Tryz.prog=true:=by kernel_rfl
section
variable {H:Type} {enc:TypeId×Value->H} {P:Program}
theorem post_below {f:Func} {s:ChangeSpec} {apart fresh handsOn again:Bool} {W W':World} {args:Array Value} {v:Value} {ds gs:List (DataW H)} {before pa pv:List MemPlace}
 (hW:DataW.Whole enc P f.params.toList s.vars apart W args.toList ds gs before)
 (hres:∀ (b:Nat) (sp:Nat->Bool) (hd:Bool),DataW.TrodAll enc P W' b sp hd f.resultTypes.toList (v.resultList f.resultTypes.size) (s.fn H (ds ++ gs)).results [])
 (hargs:∀ sp:Nat->Bool,(∀ p∈before,sp p.block=true)->DataW.TrodAll enc P W' 0 sp true f.params.toList args.toList (s.fn H (ds ++ gs)).args pa)
 (hvars:∀ sp:Nat->Bool,(∀ p∈before,sp p.block=true)->DataW.TrodVars enc P W' sp s.vars (s.fn H (ds ++ gs)).vars pv)
 (hps:before=pa ++ pv) (hb:Below W.heap.size W W')
 (hok:∀ (j:Nat) (t:TypeId) (r:Value),f.resultTypes[j]?=some t->(v.resultList f.resultTypes.size)[j]?=some r->Value.okWide P W' .any 0 t r) :
 s.post enc P f apart fresh handsOn again W args v W':=by
 have hlt:∀ p∈before,p.block<W.heap.size:=fun p hp=>hW.lt p hp
 have hold:∀ p∈before,(fun b=>decide (b<W.heap.size)) p.block=true:=fun p hp=>by simpa using hlt p hp
 refine ⟨ds,gs,before,[],pa,pv,hW,hres _ _ _,hargs _ hold,hvars _ hold,World.keptBut_mono (fun p hp=>⟨hp,?_⟩) (hb.frame (·∈before)),fun _=>?_⟩
 ·rw[hps,List.mem_append] at hp
  exact Or.inr hp
 ·obtain ⟨_,_,_,_,_,hz,hn⟩:=hW
  refine ⟨hok,_,_,([] ++ pa) ++ pv,⟨[] ++ pa,pv,trodAll_append (hargs _ (fun _ _=>rfl)) (hres _ _ _),hvars _ (fun _ _=>rfl),rfl,?_,?_⟩,?_⟩
  ·intro b off hp
   have hin:MemPlace.cell b off∈before:=by rw[hps];simpa using hp
   rw[hb.frozen (hlt _ hin)]
   exact hz b off hin
  ·intro ha
   have:=hn ha
   rw[hps] at this
   simpa using this
  ·intro p hp _
   rw[hps]
   simpa using hp
end
theorem i16_wf {n:Int} (h:(Lit.int .i16 n).wf=true):-32768<=n/\n<=32767:=by
 have h1:IntKind.i16.min=-32768:=rfl
 have h2:IntKind.i16.max=32767:=rfl
 simp only[Lit.wf,Bool.and_eq_true,decide_eq_true_eq] at h
 omega
theorem Tryz.cellsI16:Tryz.prog.cellsOf 51=1:=by kernel_rfl
end Go.Proofs.YtpeiiomjnjemjaaGreat
namespace Go.Proofs.YtpeiiomjnjemjaaGreat
open Go.ChangeShapes Go.WideShapes Go.ChangeAt Go.RowKit
end Go.Proofs.YtpeiiomjnjemjaaGreat
namespace Go.Proofs.YtpeiiomjnjemjaaGreat
open Go.ChangeShapes Go.WideShapes Go.ChangeAt Go.RowKit
theorem Tryz.cellsArr3:Tryz.prog.cellsOf 23=3:=by kernel_rfl
theorem Tryz.cellsSl16:Tryz.prog.cellsOf 22=1:=by kernel_rfl
theorem open_i16v {H:Type} {enc:TypeId×Value->H} {W:World} {fuel:Nat} {v:Value} {x:DataW H×List MemPlace}
 (h:DataW.trod enc Tryz.prog W 0 (fun _=>true) true fuel 22 [v]=some x) (hlt:∀ y∈x.2,y.block<W.heap.size) :
 ∃ A len cap zs,v=.slice A len cap/\len<=9223372036854775807/\I16At W A len cap zs:=by
 rcases open_ints Tryz.underlying22 Tryz.underlying51 Tryz.cellsI16 h with ⟨hcs,hx⟩ | ⟨a,len',cap',zs,hcs,_,hl,hm,hz,hx,hcell,hwz⟩
 ·simp at hcs
  exact ⟨none,0,0,[],hcs,by omega,rfl,(fun c hc=>by cases hc),.inl rfl⟩
 ·simp at hcs
  simp only[if_true] at hz
  refine ⟨some a,len',cap',zs.take len',hcs,by unfold maxLen at hm;omega,by rw[List.length_take];omega,fun c hc=>i16_wf (hwz c (List.mem_of_mem_take hc)),?_⟩
  by_cases hl0:len'=0
  ·exact .inl hl0
  ·obtain ⟨b,off,spot⟩:=a
   have hspot:spot=none:=by simpa [Addr.add] using World.cell?_spot (hcell 0 (by omega))
   subst hspot
   have hbW:b<W.heap.size:=by
    refine hlt (.cell b off) ?_
    rw[hx]
    exact MemPlace.mem_row.2 ⟨0,by omega,by simp⟩
   refine .inr ⟨b,off,rfl,hbW,fun j hj=>?_⟩
   have:=hcell j (by omega)
   rw[show (⟨b,off,none⟩:Addr).add j=⟨b,off+j,none⟩ by simp[Addr.add]] at this
   rw[this]
   simp[List.getD_eq_getElem?_getD,hj]
set_option maxRecDepth 100000 in
theorem lifted_arr16 (f:Nat) (fn:Func) (hp:fn.params=#[23]) (hr:fn.resultTypes=#[4]) {H:Type} (enc:TypeId×Value->H) (spec:ChangeSpec) (hsv:spec.vars=[]) (hsf:∀ d,spec.fn H [d]={ results:=[.lit (.bool true)],args:=[d] })
 (walk:∀ A0 l0 c0 p0 A1 l1 c1 p1 A2 l2 c2 p2 w,I16At w A0 l0 c0 p0->I16At w A1 l1 c1 p1->I16At w A2 l2 c2 p2->l0<=9223372036854775807->l1<=9223372036854775807->l2<=9223372036854775807->Calls Tryz.prog f #[.agg #[.slice A0 l0 c0,.slice A1 l1 c1,.slice A2 l2 c2]] w fun e w'=>e=.returned (.bool true)/\Below w.heap.size w w')
 (W:World) (args:Array Value) (ds gs:List (DataW H)) (before:List MemPlace)
 (hval:∀ (j:Nat) t v,fn.params[j]?=some t->args[j]?=some v->Value.okWide Tryz.prog W .any 0 t v)
 (hW:DataW.Whole enc Tryz.prog fn.params.toList spec.vars false W args.toList ds gs before) :
 Calls Tryz.prog f args W fun e W'=>∃ v,e=Ending.returned v/\spec.post enc Tryz.prog fn false true false false W args v W':=by
 have hW':=hW
 obtain ⟨p,q,hA0,hV,rfl,_,_⟩:=hW
 have hA:DataW.TrodAll enc Tryz.prog W 0 (fun _=>true) true fn.params.toList args.toList ds p:=hA0
 rw[hp] at hA hval
 obtain ⟨v0,d0,rfl,rfl,h0⟩:=trodAll_one hA
 rw[hsv] at hV
 obtain ⟨rfl,rfl⟩:=trodVars_none hV
 have hok:=hval 0 23 v0 rfl rfl
 simp only[Value.okWide,Tryz.underlying23] at hok
 obtain ⟨cs,rfl,hsz,_⟩:=hok
 rw[Tryz.cellsArr3] at hsz
 obtain ⟨c0,c1,c2,rfl⟩:∃ c0 c1 c2,cs=#[c0,c1,c2]:=by
  obtain ⟨l⟩:=cs
  match l,hsz with
  | [x,y,z],_=>exact ⟨x,y,z,rfl⟩
 simp only[List.append_nil] at hW'
 have hlt:∀ x∈p,x.block<W.heap.size:=fun x hx=>by simpa using hW'.lt x (by simpa using hx)
 have h0':=h0
 obtain ⟨fuel,hf⟩:=h0'
 obtain ⟨y0,y1,y2,n,hx,t0,t1,t2⟩:=trod_array3 Tryz.underlying23 Tryz.cellsSl16 (show DataW.trod enc Tryz.prog W 0 (fun _=>true) true fuel 23 [c0,c1,c2]=some (d0,p) from hf)
 simp only[Prod.mk.injEq] at hx
 have hpp:=hx.2
 obtain ⟨A0,l0,k0,z0,rfl,m0,g0⟩:=open_i16v t0 (fun y hy=>hlt y (by rw[hpp];exact List.mem_append.2 (.inl hy)))
 obtain ⟨A1,l1,k1,z1,rfl,m1,g1⟩:=open_i16v t1 (fun y hy=>hlt y (by rw[hpp];exact List.mem_append.2 (.inr (List.mem_append.2 (.inl hy)))))
 obtain ⟨A2,l2,k2,z2,rfl,m2,g2⟩:=open_i16v t2 (fun y hy=>hlt y (by rw[hpp];exact List.mem_append.2 (.inr (List.mem_append.2 (.inr hy)))))
 refine (walk A0 l0 k0 z0 A1 l1 k1 z1 A2 l2 k2 z2 W g0 g1 g2 m0 m1 m2).mono fun e W' ⟨he,hb⟩=>?_
 subst he
 refine ⟨_,rfl,post_below (pa:=p) (pv:=[]) hW' (fun _ _ _=>?_) (fun sp hs=>?_) (fun _ _=>?_) (by simp) hb ?_⟩
 ·rw[List.append_nil,hsf,hr]
  exact trodAll_mk1 (shut_bool Tryz.underlying4 _)
 ·rw[List.append_nil,hsf,hp]
  exact trodAll_mk1 (Go.WideElems.Trod_stays Tryz.laidOut (by kernel_rfl) (of_decide_eq_true (by kernel_rfl)) h0 (fun x hx=>hb.same (hlt x hx)) hs)
 ·rw[hsv,List.append_nil,hsf]
  rfl
 ·exact ok_one hr rfl (okWide_bool_mk Tryz.underlying4 _)
end Go.Proofs.YtpeiiomjnjemjaaGreat
namespace Go.Proofs.YtpeiiomjnjemjaaGreat
end Go.Proofs.YtpeiiomjnjemjaaGreat
namespace Go.Proofs.YtpeiiomjnjemjaaGreat
open Go.RowKit
end Go.Proofs.YtpeiiomjnjemjaaGreat
namespace Go.Proofs.YtpeiiomjnjemjaaGreat
open Go.RowKit
end Go.Proofs.YtpeiiomjnjemjaaGreat
namespace Go.Proofs.YtpeiiomjnjemjaaGreat
section
variable {z q:Int}
def hom (z q:Int) (f:List Int) (n:Nat):Int:=evn (fun j=>f.getD j 0*q^(n-j)) z (n+1)
theorem hom_up (f:List Int) (n:Nat) (hf:plen f<=n+1) (d:Nat):hom z q f (n+d)=q^d*hom z q f n:=by
 unfold hom
 have hsplit:∀ k,n+1<=k->k<=n+d+1->evn (fun j=>f.getD j 0*q^(n+d-j)) z k=evn (fun j=>f.getD j 0*q^(n+d-j)) z (n+1):=by
  intro k hk
  induction k with
  | zero=>omega
  | succ k ih =>
    intro hk2
    rcases Nat.lt_or_ge k (n+1) with h | h
    ·have:k=n:=by omega
     subst this;rfl
    ·rw[evn,ih h (by omega)]
     show _+f.getD k 0*q^(n+d-k)*z^k=_
     rw[getD_ge_plen f k (by omega)]
     simp
 rw[hsplit _ (by omega) (Nat.le_refl _)]
 suffices h:∀ k,k<=n+1->evn (fun j=>f.getD j 0*q^(n+d-j)) z k=q^d*evn (fun j=>f.getD j 0*q^(n-j)) z k from h _ (Nat.le_refl _)
 intro k
 induction k with
 | zero=>intro _;simp[evn]
 | succ k ih =>
   intro hk
   rw[evn,evn,ih (by omega),Int.mul_add]
   show _+f.getD k 0*q^(n+d-k)*z^k=_+q^d*(f.getD k 0*q^(n-k)*z^k)
   rw[show n+d-k=d+(n-k) by omega,Int.pow_add]
   grind
def Rt (z q:Int) (f:List Int):Prop:=hom z q f (plen f)=0
theorem Rt.of (hq:0<q) {f:List Int} {n:Nat} (hf:plen f<=n+1):Rt z q f↔hom z q f n=0:=by
 have h1:=hom_up (z:=z) (q:=q) f (plen f) (by omega) (n+1)
 have h2:=hom_up (z:=z) (q:=q) f n hf (plen f+1)
 rw[show plen f+(n+1)=n+(plen f+1) by omega,h2] at h1
 have p1:q^(plen f+1)≠0:=pow_ne (by omega) _
 have p2:q^(n+1)≠0:=pow_ne (by omega) _
 unfold Rt
 constructor
 ·intro h
  rw[h,Int.mul_zero] at h1
  exact (Int.mul_eq_zero.1 h1).resolve_left p1
 ·intro h
  rw[h,Int.mul_zero] at h1
  exact (Int.mul_eq_zero.1 h1.symm).resolve_left p2
end
end Go.Proofs.YtpeiiomjnjemjaaGreat
namespace Go.Proofs.YtpeiiomjnjemjaaGreat
theorem pc_bd_len {f g:List Int} {X Y:Nat} (hf:∀ j,(f.getD j 0).natAbs<=X) (hg:∀ j,(g.getD j 0).natAbs<=Y) (k:Nat):(pc f g k).natAbs<=plen f*(X*Y):=by
 rw[<- qcs_pc f g k (plen f) (Nat.le_refl _)]
 exact qcs_bd hf hg k _
end Go.Proofs.YtpeiiomjnjemjaaGreat
namespace Go.Proofs.YtpeiiomjnjemjaaGreat
theorem cmpl_same {f g:List Int} (hf:PQ f) (hg:PQ g) (he:∀ x,sgp g x=0↔sgp f x=0) (hz:plen f=0↔plen g=0):Cmpl f (proots g):=by
 by_cases h0:plen g=0
 ·rw[proots_nil h0]
  exact ⟨by rw[nall_nil (hz.2 h0)];rfl,fun k hk=>absurd hk (Nat.not_lt_zero _)⟩
 ·have f0:plen f≠0:=fun e=>h0 (hz.1 e)
  obtain ⟨xs,h⟩:=rf_ex hg h0
  have h':RF f xs (proots g):=⟨h.len,h.lst.congr he,fun k hk=>by
   obtain ⟨a,b⟩:=h.iso k hk
   refine ⟨(he _).1 a,b.imp id fun ⟨c1,c2,c3,c4,c5,c6⟩=>⟨c1,fun e=>c2 ((he _).2 e),fun e=>c3 ((he _).2 e),c4,c5,fun y hy=>c6 y ((he y).2 hy)⟩⟩,h.ord,h.fq⟩
  refine ⟨by rw[h'.len,nall_roots hf f0 h'.lst],fun k hk=>⟨h'.vld hf f0 (by rw[<- h'.len];exact hk),fun hk0=>h'.pr (by omega) (by rw[<- h'.len];exact hk)⟩⟩
section
variable {f:List Int} {n:Int}
end
end Go.Proofs.YtpeiiomjnjemjaaGreat
namespace Go.Proofs.YtpeiiomjnjemjaaGreat
noncomputable def pstep (P f:List Int):List Int:=if 1<plen (qpart f) then qpart (polymul (ptrim P) (ptrim (qpart f))) else P
def lstep (L f:List Int):List Int:=if plen f=0 then L else polymul (ptrim L) (ptrim f)
structure CmI (k:Nat) (P L:List Int):Prop where
 t:ptrim P=P
 p1:1<=plen P
 l1:1<=plen L
 ll:plen L<=4*k+1
 lb:∀ j,(L.getD j 0).natAbs<=163840^k
 d:∃ T:List Int,∀ x,ev L x=ev P x*ev T x
 r:∀ x,sgp P x=0↔sgp L x=0
structure Cmf (f:List Int):Prop where
 l:plen f<=5
 b:∀ j,(f.getD j 0).natAbs<=32768
section
variable {f P L:List Int} {k:Nat}
theorem Cmf.p9 (h:Cmf f):P9 f:=⟨by have:=h.l;omega,fun j=>Nat.le_trans (h.b j) (Nat.le_trans (show 32768<=BB^1 by rw[Nat.pow_one,BB_eq];decide) (bbk_le (by decide)))⟩
theorem cm_pow (hk:k<=3):163840^k<=BB^2:=Nat.le_trans (Nat.pow_le_pow_right (by decide) hk) (by rw[BB_eq];decide)
theorem CmI.zero:CmI 0 [1] [1]:=⟨rfl,by decide,by decide,by decide,fun j=>by
 match j with
 | 0=>exact Nat.le_refl _
 | j+1=>simp,⟨[1],fun x=>by rw[ev_const,Int.mul_one]⟩,fun _=>Iff.rfl⟩
theorem fac_small {G T:List Int} (hk:k<=3) (l1:1<=plen L) (ll:plen L<=4*k+1) (lb:∀ j,(L.getD j 0).natAbs<=163840^k) (e:∀ x,ev L x=ev G x*ev T x):plen G<=13/\∀ j,(G.getD j 0).natAbs<=BB^8:=by
 have h1:plen G<=plen L:=dvq_plen ⟨1,T,by decide,fun x=>by rw[Int.one_mul,e,Int.mul_comm]⟩ (by omega)
 exact ⟨by omega,factor_le (p:=L) (q:=G) (g:=T) (k:=2) (by omega) (by omega) (fun j=>Nat.le_trans (lb j) (cm_pow hk)) (fun x=>by rw[e,Int.mul_comm])⟩
theorem CmI.small (h:CmI k P L) (hk:k<=3):plen P<=13/\∀ j,(P.getD j 0).natAbs<=BB^8:=by
 obtain ⟨T,hT⟩:=h.d
 exact fac_small hk h.l1 h.ll h.lb hT
theorem CmI.pq (h:CmI k P L) (hk:k<=3):PQ P:=by
 obtain ⟨h1,h2⟩:=h.small hk
 have hq:QOK P:=⟨by omega,fun j=>Nat.le_trans (pprim_abs P j) (Nat.le_trans (h2 j) (bbk_le (by decide)))⟩
 have:=(q_facts hq (by have:=h.p1;omega)).l
 exact ⟨by omega,fun j=>Nat.le_trans (h2 j) (bbk_le (by decide)),by omega⟩
theorem CmI.pql (h:CmI k P L) (hk:k<=3):PQ L:=by
 have h1:=h.ll
 have hq:QOK L:=⟨by omega,fun j=>Nat.le_trans (pprim_abs L j) (Nat.le_trans (h.lb j) (Nat.le_trans (cm_pow hk) (bbk_le (by decide))))⟩
 have:=(q_facts hq (by have:=h.l1;omega)).l
 exact ⟨by omega,fun j=>Nat.le_trans (h.lb j) (Nat.le_trans (cm_pow hk) (bbk_le (by decide))),by omega⟩
theorem ev_gp (h:plen f≠0) (x:Int):ev f x=(sg (plead f)*(pcont f:Int))*ev (pprim f) x:=by
 rw[<- ev_psc]
 exact ev_congr (fun k=>by rw[psc_get];exact gp_get h k) x
theorem lstep_len (h1:1<=plen L):plen (lstep L f)=if plen f=0 then plen L else plen L+plen f-1:=by
 unfold lstep
 by_cases h0:plen f=0
 ·rw[if_pos h0,if_pos h0]
 ·rw[if_neg h0,if_neg h0,(plen_mul (by rw[plen_ptrim];exact h1) (by rw[plen_ptrim];omega)).1,plen_ptrim,plen_ptrim]
theorem lstep_bd (hf:Cmf f) (lb:∀ j,(L.getD j 0).natAbs<=163840^k) (j:Nat):((lstep L f).getD j 0).natAbs<=163840^(k+1):=by
 unfold lstep
 by_cases h0:plen f=0
 ·rw[if_pos h0]
  exact Nat.le_trans (lb j) (Nat.pow_le_pow_right (by decide) (by omega))
 ·rw[if_neg h0,ev_inj2 (p:=polymul (ptrim L) (ptrim f)) (a:=ptrim L) (b:=ptrim f) (fun x=>ev_mul _ _ _) j]
  refine Nat.le_trans (pc_bd_len (fun j=>by rw[ptrim_getD];exact hf.b j) (fun j=>by rw[ptrim_getD];exact lb j) j) ?_
  rw[plen_ptrim,Nat.pow_succ]
  have h1:plen f*(32768*163840^k)<=5*(32768*163840^k):=Nat.mul_le_mul_right _ hf.l
  omega
theorem lstep_ev (h0:plen f≠0) (x:Int):ev (lstep L f) x=ev L x*ev f x:=by
 unfold lstep
 rw[if_neg h0,ev_mul,ev_ptrim,ev_ptrim]
theorem lstep_sgp (h0:plen f≠0) (x:Pt):sgp (lstep L f) x=sgp L x*sgp f x:=by
 rw[sgp_ev (r:=polymul L f) (fun t=>by rw[lstep_ev h0,ev_mul]) x,sgp_mul]
theorem CmI.step (h:CmI k P L) (hk:k<3) (hf:Cmf f):CmI (k+1) (pstep P f) (lstep L f)/\(1<plen (qpart f)->QOK (polymul (ptrim P) (ptrim (qpart f)))/\FitP (polymul (ptrim P) (ptrim (qpart f)))):=by
 obtain ⟨T,hT⟩:=h.d
 have l1:=h.l1
 have ll:=h.ll
 have p1:=h.p1
 have hll:=lstep_len (f:=f) l1
 have hbl:=lstep_bd (L:=L) hf h.lb
 have hfl:=hf.l
 by_cases h0:plen f=0
 ·have e1:pstep P f=P:=by unfold pstep;rw[if_neg (by rw[qpart_nil h0];decide)]
  have e2:lstep L f=L:=by unfold lstep;rw[if_pos h0]
  rw[e2] at hbl
  rw[e1,e2]
  exact ⟨⟨h.t,p1,l1,by omega,hbl,⟨T,hT⟩,h.r⟩,fun h1=>by rw[qpart_nil h0] at h1;exact absurd h1 (by decide)⟩
 rw[if_neg h0] at hll
 have F:=q_facts hf.p9.q h0
 obtain ⟨c,hc⟩:∃ c,c=sg (plead f)*(pcont f:Int):=⟨_,rfl⟩
 have ef:∀ x,ev f x=c*(ev (qpart f) x*ev (qdiv f) x):=fun x=>by rw[ev_gp h0,<- hc,F.prod]
 have q0:=F.q0
 by_cases h1:1<plen (qpart f)
 ·obtain ⟨M,hM⟩:∃ M,M=polymul (ptrim P) (ptrim (qpart f)):=⟨_,rfl⟩
  have eM:∀ x,ev M x=ev P x*ev (qpart f) x:=fun x=>by rw[hM,ev_mul,ev_ptrim,ev_ptrim]
  have e1:pstep P f=qpart M:=by unfold pstep;rw[if_pos h1,hM]
  obtain ⟨T',hT'⟩:∃ T',T'=psc c (polymul T (qdiv f)):=⟨_,rfl⟩
  have eL:∀ x,ev (lstep L f) x=ev M x*ev T' x:=fun x=>by
   rw[lstep_ev h0,hT,ef,eM,hT',ev_psc,ev_mul]
   grind
  have lM:plen M=plen P+plen (qpart f)-1:=by
   rw[hM,(plen_mul (by rw[plen_ptrim];exact p1) (by rw[plen_ptrim];omega)).1,plen_ptrim,plen_ptrim]
  obtain ⟨s1,s2⟩:=fac_small (k:=k+1) (L:=lstep L f) (by omega) (by omega) (by omega) hbl eL
  have qM:QOK M:=⟨by omega,fun j=>Nat.le_trans (pprim_abs M j) (Nat.le_trans (s2 j) (bbk_le (by decide)))⟩
  have G:=q_facts qM (by omega)
  obtain ⟨m,hm⟩:∃ m,m=sg (plead M)*(pcont M:Int):=⟨_,rfl⟩
  have em:∀ x,ev M x=m*(ev (qpart M) x*ev (qdiv M) x):=fun x=>by rw[ev_gp (by omega),<- hm,G.prod]
  rw[e1]
  refine ⟨⟨G.t,by have:=G.q0;omega,by omega,by omega,hbl,⟨psc m (polymul (qdiv M) T'),fun x=>by rw[eL,em,ev_psc,ev_mul];grind⟩,fun x=>?_⟩,fun _=>by rw[<- hM];exact ⟨qM,fun j=>Nat.lt_of_le_of_lt (s2 j) (Nat.pow_lt_pow_right (by rw[BB_eq];decide) (by rw[FW_eq];decide))⟩⟩
  rw[G.root,sgp_ev (r:=polymul P (qpart f)) (fun t=>by rw[eM,ev_mul]) x,sgp_mul,lstep_sgp h0,Int.mul_eq_zero,Int.mul_eq_zero,h.r,F.root]
 ·have e1:pstep P f=P:=by unfold pstep;rw[if_neg h1]
  rw[e1]
  refine ⟨⟨h.t,p1,by omega,by omega,hbl,⟨polymul T f,fun x=>by rw[lstep_ev h0,hT,ev_mul];grind⟩,fun x=>?_⟩,fun h2=>absurd h2 h1⟩
  have hn:sgp f x≠0:=fun e=>no_roots (f:=qpart f) (by omega) x ((F.root x).2 e)
  rw[h.r,lstep_sgp h0,Int.mul_eq_zero]
  exact ⟨.inl,fun e=>e.resolve_right hn⟩
noncomputable def van (q:List Int) (r:Fq×Fq):Bool:=if plen q=0 then true else if fcmp r.1 r.2=0 then r.1.sgn q == 0 else r.1.sgn q != r.2.sgn q
theorem sgp_chg {q:List Int} {a b x:Pt} (hq:plen q≠0) (hx:sgp q x=0) (hm:mult x q<=1) (ha:a<x) (hb:x<b) (na:sgp q a≠0) (nb:sgp q b≠0) (hu:∀ y,sgp q y=0->a<y->y<b->y=x):sgp q a≠sgp q b:=by
 have m1:mult x q=1:=by
  have:=mult_pder hq hx
  omega
 obtain ⟨l,u,hs⟩:=side_ex hq x
 rw[m1] at hs
 obtain ⟨y1,u1,u2,u3⟩:=Pt.two_lo (x:=x) (a:=Pt.of l) (b:=a) hs.lo ha
 obtain ⟨y2,v1,v2,v3⟩:=Pt.two_up (x:=x) (a:=Pt.of u) (b:=b) hs.hi hb
 have s1:=hs.l y1 u2 u1
 have s2:=hs.r y2 v1 v2
 have hab:∀ z,a<z->z<x->sgp q z≠0:=fun z h1 h2 e=>by
  have:=hu z e h1 (Pt.lt_trans h2 hb)
  rw[this] at h2
  exact Pt.irr _ h2
 have hbb:∀ z,x<z->z<b->sgp q z≠0:=fun z h1 h2 e=>by
  have:=hu z e (Pt.lt_trans ha h1) h2
  rw[this] at h1
  exact Pt.irr _ h1
 have e1:=sgp_stay u3 (fun z h1 h2=>hab z h1 (Pt.lt_trans h2 u1)) na (hab y1 u3 u1)
 have e2:=sgp_stay v3 (fun z h1 h2=>hbb z (Pt.lt_trans v1 h1) h2) (hbb y2 v1 v3) nb
 rw[e1,<- e2,s1,s2]
 rcases rs_pm hq x with e | e<;>rw[e]<;>decide
theorem van_vld (hf:P9 f) (hP:PQ P) (P0:plen P≠0) (sub:plen f≠0->∀ x,sgp f x=0->sgp P x=0) {r:Fq×Fq} (hr:r∈proots P):van (qpart f) r=(decide (plen f=0) || vld 1 f r.1 r.2):=by
 obtain ⟨fa,fb⟩:=proots_fqb hP r hr
 obtain ⟨x,hx⟩:∃ x,IsoV P x r.1 r.2:=by
  obtain ⟨xs,h⟩:=rf_ex hP P0
  obtain ⟨k,hk,he⟩:=List.getElem_of_mem hr
  have:=h.iso k (by rw[<- h.len];exact hk)
  rw[show (proots P).getD k r00=r by rw[List.getD_eq_getElem?_getD,List.getElem?_eq_getElem hk];exact he] at this
  exact ⟨_,this⟩
 unfold van
 by_cases h0:plen f=0
 ·rw[if_pos (by rw[qpart_nil h0];rfl),decide_eq_true h0]
  rfl
 have F:=q_facts hf.q h0
 rw[if_neg F.q0,decide_eq_false h0,Bool.false_or,Bool.eq_iff_iff,vld_one hf.pq fa.p fb.p,vld_iff hf.pq h0 fa.p fb.p]
 rcases hx.2 with ⟨e,ex⟩ | ⟨hlt,na,nb,a1,b1,hu⟩
 ·rw[if_pos ((fcmp_zero fa.p fb.p).2 e),beq_iff_eq,sgn_pt fa.p,F.root]
  exact ⟨fun h=>⟨_,h,.inl ⟨e,rfl⟩⟩,fun ⟨y,h⟩=>by
   rcases h.2 with h2 | h2
   ·rw[<- h2.2];exact h.1
   ·grind⟩
 ·have hne:fcmp r.1 r.2≠0:=fun c=>by
   have:=(fcmp_zero fa.p fb.p).1 c
   grind
  rw[if_neg hne,bne_iff_ne,sgn_pt fa.p,sgn_pt fb.p]
  have nfa:sgp f r.1.p≠0:=fun e=>na (sub h0 _ e)
  have nfb:sgp f r.2.p≠0:=fun e=>nb (sub h0 _ e)
  have nqa:sgp (qpart f) r.1.p≠0:=fun e=>nfa ((F.root _).1 e)
  have nqb:sgp (qpart f) r.2.p≠0:=fun e=>nfb ((F.root _).1 e)
  by_cases hfx:sgp f x=0
  ·have hc:=sgp_chg (q:=qpart f) F.q0 ((F.root _).2 hfx) (F.simple x) a1 b1 nqa nqb (fun y hy h1 h2=>hu y (sub h0 _ ((F.root _).1 hy)) h1 h2)
   exact ⟨fun _=>⟨x,hfx,.inr ⟨hlt,nfa,nfb,a1,b1,fun y hy h1 h2=>hu y (sub h0 _ hy) h1 h2⟩⟩,fun _=>hc⟩
  ·have hno:∀ y,r.1.p<y->y<r.2.p->sgp f y≠0:=fun y h1 h2 e=>hfx (hu y (sub h0 _ e) h1 h2 ▸ e)
   have hs:=sgp_stay (fq_lt.2 hlt) (fun z h1 h2 e=>hno z h1 h2 ((F.root _).1 e)) nqa nqb
   refine ⟨fun h=>absurd hs h,fun ⟨y,h⟩=>?_⟩
   rcases h.2 with h2 | h2
   ·grind
   ·exact absurd h.1 (hno y h2.2.2.2.1 h2.2.2.2.2.1)
end
end Go.Proofs.YtpeiiomjnjemjaaGreat
namespace Go.Proofs.YtpeiiomjnjemjaaGreat
open Go Go.RowKit
set_option maxRecDepth 100000 in
set_option maxHeartbeats 4000000 in
theorem vanishes_any {I:IntPred} (hI:IK I) (Af:Option Addr) (lf cf:Nat) (q:List Int) (r:Fq×Fq) (n:Bool) (A:Option Addr) (l c:Nat) (B:Option Addr) (m d:Nat) (n':Bool) (A':Option Addr) (l' c':Nat) (B':Option Addr) (m' d':Nat) (w:World) (hf:PolyP I w Af lf cf q) (hl:q.length<=13) (hc:CP q)
 (hz:IntN w n A l c r.1.z) (hq:NatN w B m d r.1.q) (hz':IntN w n' A' l' c' r.2.z) (hq':NatN w B' m' d' r.2.q) (ha:FqB r.1) (hb:FqB r.2) :
 Calls Tryz.prog 19 #[.slice Af lf cf,.agg #[.bool n,.slice A l c,.slice B m d,.bool n',.slice A' l' c',.slice B' m' d']] w fun e w'=>e=.returned (.bool (van q r))/\Below w.heap.size w w':=by
 have o1:=below_new w (tbox n A l c B m d n' A' l' c' B' m' d')
 have T:=Lh (TBox.make hz hq hz' hq')
 have HF:=Lh (hf.below hI o1)
 have hlf:lf<=13:=by have:=hf.length;omega
 have Hb:=Lh o1
 have pa:=hc.at hl ha.z ha.q
 have pb:=hc.at hl hb.z hb.q
 have sf:=hc.fit.smp
 have pa0:=ha.p
 have pb0:=hb.p
 obtain ⟨S1,hS1⟩:∃ S,S=r.1.sgn q:=⟨_,rfl⟩
 obtain ⟨S2,hS2⟩:∃ S,S=r.2.sgn q:=⟨_,rfl⟩
 obtain ⟨C,hC⟩:∃ C,C=fcmp r.1 r.2:=⟨_,rfl⟩
 obtain ⟨V,hV⟩:∃ V,V=van q r:=⟨_,rfl⟩
 rw[<- hV]
 unfold van at hV
 rw[<- hS1,<- hS2,<- hC] at hV
 unfold fcmp at hC
 have HV:=Lh hV
 have HS1:=Lh hS1
 have HS2:=Lh hS2
 have HC:=Lh hC.symm
 clear hz hq hz' hq' hf o1 hS1 hS2 hC hV
 go_enter Tryz.func19,Tryz.ntmps19
 have x0:=T.out.r.c0;have x1:=T.out.r.c1;have x2:=T.out.r.c2;have x3:=T.out.c3;have x4:=T.out.c4;have x5:=T.out.c5
 go_wp2_with fail
 refine (degree_any _ _ _ _ _ (HF.out.at_ hI) sf (by omega)).mono ?_
 rintro e w2 ⟨rfl,hb2⟩
 replace HF:=Lh (HF.out.below hI hb2);replace T:=Lh (T.out.move hb2);replace Hb:=Lh (Hb.out.trans ((hb2).mono Hb.out.size))
 clear x0 x1 x2 x3 x4 x5
 clear hb2
 by_cases h0:plen q=0
 ·have b1:decide (((plen q:Nat):Int)-1<0)=true:=decide_eq_true (by omega)
  have hv:V=true:=by rw[HV.out,if_pos h0]
  have Hv:=Lh hv
  clear hv h0
  go_wp2_with fail
  go_ret
  exact ⟨by rw[Hv.out];rfl,Hb.out⟩
 have b1:decide (((plen q:Nat):Int)-1<0)=false:=decide_eq_false (by omega)
 have hV:=HV.out
 rw[if_neg h0] at hV
 replace HV:=Lh hV
 clear h0 hV
 have x0:=T.out.r.c0;have x1:=T.out.r.c1;have x2:=T.out.r.c2;have x3:=T.out.c3;have x4:=T.out.c4;have x5:=T.out.c5
 go_wp2_with fail
 refine (rcmp_any _ _ _ _ _ _ _ _ _ _ _ _ _ _ _ _ _ _ _ T.out.r.hz.at_ T.out.r.hq.at_ T.out.hz.at_ T.out.hq.at_ (by omega) (by omega) ha.fz ha.fq hb.fz hb.fq).mono ?_
 rw[HC.out]
 rintro e w3 ⟨rfl,hb3⟩
 replace HF:=Lh (HF.out.below hI hb3);replace T:=Lh (T.out.move hb3);replace Hb:=Lh (Hb.out.trans ((hb3).mono Hb.out.size))
 clear x0 x1 x2 x3 x4 x5
 clear hb3
 by_cases hc0:C=0
 ·have b2:(C == 0)=true:=by rw[hc0];rfl
  have hV:=HV.out
  rw[if_pos hc0] at hV
  replace HV:=Lh hV
  clear hV hc0
  have x0:=T.out.r.c0;have x1:=T.out.r.c1;have x2:=T.out.r.c2;have x3:=T.out.c3;have x4:=T.out.c4;have x5:=T.out.c5
  go_wp2_with fail
  refine (signat_any hI _ _ _ q _ _ _ _ _ _ _ _ _ _ HF.out pa.fit (by omega) T.out.r.hz T.out.r.hq ha.at.u ha.at.v ha.at.pos pa.ok ha.at.fz ha.at.fq).mono ?_
  rintro e w4 ⟨he,hb0⟩
  have he2:e=.returned (.int .i64 S1):=by rw[HS1.out];exact he
  subst he2
  clear he
  clear x0 x1 x2 x3 x4 x5
  replace HF:=Lh (HF.out.below hI hb0);replace T:=Lh (T.out.move hb0);replace Hb:=Lh (Hb.out.trans ((hb0).mono Hb.out.size))
  clear hb0
  go_wp2_with fail
  go_ret
  exact ⟨by rw[HV.out];rfl,Hb.out⟩
 have b2:(C == 0)=false:=by rw[beq_eq_false_iff_ne];exact hc0
 have hV:=HV.out
 rw[if_neg hc0] at hV
 replace HV:=Lh hV
 clear hV hc0
 have x0:=T.out.r.c0;have x1:=T.out.r.c1;have x2:=T.out.r.c2;have x3:=T.out.c3;have x4:=T.out.c4;have x5:=T.out.c5
 go_wp2_with fail
 refine wp_region_held_drew (S:=fun w'=>(w'.cell? ⟨w.heap.size,0,none⟩=some (.bool n)/\w'.cell? ⟨w.heap.size,1,none⟩=some (.slice A l c)/\w'.cell? ⟨w.heap.size,2,none⟩=some (.slice B m d))/\(w'.cell? ⟨w.heap.size,3,none⟩=some (.bool n')/\w'.cell? ⟨w.heap.size,4,none⟩=some (.slice A' l' c')/\w'.cell? ⟨w.heap.size,5,none⟩=some (.slice B' m' d'))) (by kernel_rfl) (by (try dsimp only);go_keep) (fun hHeld=>?_)
 clear x0 x1 x2 x3 x4 x5
 (refine tq 0 ?_;simp only[put_lit,List.set])
 (refine tq 1 ?_;simp only[put_lit,List.set])
 (refine tq 2 ?_;simp only[put_lit,List.set])
 (refine tq 4 ?_;simp only[put_lit,List.set])
 (refine tq 5 ?_;simp only[put_lit,List.set])
 (refine tq 6 ?_;simp only[put_lit,List.set])
 refine rdy 3 (fun K hK=>?_);go_simp
 refine (signat_any hI _ _ _ q _ _ _ _ _ _ _ _ _ _ (HF.out.below hI Bel.go) pa.fit (by omega) (T.out.r.hz.below Bel.go) (T.out.r.hq.below Bel.go) ha.at.u ha.at.v ha.at.pos pa.ok ha.at.fz ha.at.fq).mono ?_
 rintro e w4 ⟨he,hb0⟩
 have he2:e=.returned (.int .i64 S1):=by rw[HS1.out];exact he
 subst he2
 clear he
 obtain ⟨hcx,hfx⟩:=bcellS hb0
 replace HF:=Lh (HF.out.below hI ((Below.trans Bel.go (hb0.mono (by simp<;>omega)))));replace T:=Lh (T.out.move ((Below.trans Bel.go (hb0.mono (by simp<;>omega)))));replace Hb:=Lh (Hb.out.trans ((((Below.trans Bel.go (hb0.mono (by simp<;>omega))))).mono Hb.out.size))
 refine hK.out _ _ ?_ (fun _=>?_)
 ·((try dsimp only);repeat' apply And.intro)<;>(rw[hcx _ (by go_simp)];go_simp)
 clear hHeld hK K hcx hfx;rename_i hHeld
 clear hb0
 refine rdy 7 (fun K hK=>?_);go_simp
 refine (signat_any hI _ _ _ q _ _ _ _ _ _ _ _ _ _ (HF.out.below hI Bel.go) pb.fit (by omega) (T.out.hz.below Bel.go) (T.out.hq.below Bel.go) hb.at.u hb.at.v hb.at.pos pb.ok hb.at.fz hb.at.fq).mono ?_
 rintro e w5 ⟨he,hb0⟩
 have he2:e=.returned (.int .i64 S2):=by rw[HS2.out];exact he
 subst he2
 clear he
 obtain ⟨hcx,hfx⟩:=bcellS hb0
 replace HF:=Lh (HF.out.below hI ((Below.trans Bel.go (hb0.mono (by simp<;>omega)))));replace T:=Lh (T.out.move ((Below.trans Bel.go (hb0.mono (by simp<;>omega)))));replace Hb:=Lh (Hb.out.trans ((((Below.trans Bel.go (hb0.mono (by simp<;>omega))))).mono Hb.out.size))
 refine hK.out _ _ ?_ (fun _=>?_)
 ·((try dsimp only);repeat' apply And.intro)<;>(rw[hcx _ (by go_simp)];go_simp)
 clear hHeld hK K hcx hfx;rename_i hHeld
 clear hb0
 (refine tq 8 ?_;simp only[put_lit,List.set])
 (refine tq 9 ?_;simp only[put_lit,List.set])
 refine wpAnyH_done (by kernel_rfl) ?_ _
 clear hHeld
 go_wp2_with fail
 go_ret
 exact ⟨by rw[HV.out];rfl,Hb.out⟩
end Go.Proofs.YtpeiiomjnjemjaaGreat
namespace Go.Proofs.YtpeiiomjnjemjaaGreat
open Go Go.RowKit
def OwnE (C:Value->Prop) (E t base:Nat) (w:World) (v:Value) (us:List Value):Prop :=
 (us=[]/\v=.slice none 0 0)∨∃ g n cap cs,v=.slice (some ⟨g,0,none⟩) n cap/\base<=g/\us.length=n*E/\n<=cap/\(∀ (j:Nat) (u:Value),us[j]?=some u->w.cell? ⟨g,j,none⟩=some u)/\Blk w g t cs/\cs.size=cap*E/\∀ j,j<cap*E->∃ u,cs[j]?=some u/\C u
theorem OwnE.below {C:Value->Prop} {E t base:Nat} {w w':World} {v:Value} {us:List Value} (h:OwnE C E t base w v us) (hb:Below w.heap.size w w'):OwnE C E t base w' v us:=by
 rcases h with h | ⟨g,n,cap,cs,h1,h2,h3,h4,h5,h6,h7,h8⟩
 ·exact .inl h
 ·exact .inr ⟨g,n,cap,cs,h1,h2,h3,h4,fun j u hu=>(hb.cell (p:=⟨g,j,none⟩) h6.lt).trans (h5 j u hu),h6.below hb h6.lt,h7,h8⟩
theorem OwnE.nil (C:Value->Prop) (E t base:Nat) (w:World):OwnE C E t base w (.slice none 0 0) []:=.inl ⟨rfl,rfl⟩
def GrE (C:Value->Prop) (E t base:Nat) (w:World) (v:Value) (us vs:List Value) (v':Value) (w':World):Prop :=
 OwnE C E t base w' v' (us ++ vs)/\((∃ g n n' cap,v=.slice (some ⟨g,0,none⟩) n cap/\v'=.slice (some ⟨g,0,none⟩) n' cap/\base<=g/\g<w.heap.size/\(∀ o u,w.cell? ⟨g,o,none⟩=some u->C u)/\FrS g g w w')∨(Below w.heap.size w w'/\∃ n' cap,v'=.slice (some ⟨w.heap.size,0,none⟩) n' cap))
theorem GrE.below {C:Value->Prop} {E t base:Nat} {w w':World} {v v':Value} {us vs:List Value} (h:GrE C E t base w v us vs v' w') (hB:base<=w.heap.size):Below base w w':=by
 rcases h.2 with ⟨g,n,n',cap,_,_,h1,_,_,hf⟩ | ⟨hb,_⟩
 ·exact hf.mono (Below.refl _ _) h1 h1 hB
 ·exact hb.mono hB
theorem OwnE.frs {C:Value->Prop} {E t base:Nat} {w w':World} {v:Value} {us:List Value} {g:Nat} (h:OwnE C E t base w v us) (hf:FrS g g w w') (hg:∀ k n c,v=.slice (some ⟨k,0,none⟩) n c->k≠g):OwnE C E t base w' v us:=by
 rcases h with h | ⟨k,n,cap,cs,h1,h2,h3,h4,h5,h6,h7,h8⟩
 ·exact .inl h
 ·have hk:=hg k n cap h1
  exact .inr ⟨k,n,cap,cs,h1,h2,h3,h4,fun j u hu=>(hf.cell h6.lt hk hk j).trans (h5 j u hu),(hf.same k h6.lt hk hk).trans h6,h7,h8⟩
theorem OwnE.len {C:Value->Prop} {E t base:Nat} {w:World} {v:Value} {us:List Value} (h:OwnE C E t base w v us):∃ A n c,v=.slice A n c/\us.length=n*E/\n<=c:=by
 rcases h with ⟨h1,h2⟩ | ⟨g,n,cap,cs,h1,h2,h3,h4,h5⟩
 ·exact ⟨none,0,0,h2,by rw[h1];simp,Nat.le_refl _⟩
 ·exact ⟨_,n,cap,h1,h3,h4⟩
theorem blk_setCellsC {C:Value->Prop} {g t N:Nat}:∀ {cs:Array Value} (_:∀ j,j<N->∃ v,cs[j]?=some v/\C v) (_:cs.size=N) (vs:List Value) (_:∀ v∈vs,C v) (o:Nat) (_:o+vs.length<=N) {W:World} (_:Blk W g t cs),
 ∃ cs',Blk (W.setCells g o vs) g t cs'/\cs'.size=N/\(∀ j,j<N->∃ v,cs'[j]?=some v/\C v)/\(∀ (j:Nat) (v:Value),vs[j]?=some v->cs'[o+j]?=some v)/\∀ j,j<o->cs'[j]?=cs[j]?
 | cs,hc,hs,[],_,_,_,_,hk=>⟨cs,hk,hs,hc,fun j v hv=>by simp at hv,fun _ _=>rfl⟩
 | cs,hc,hs,v :: vs,hv,o,ho,W,hk=>by
   simp only[List.length_cons] at ho
   obtain ⟨cs',h1,h2,h3,h4,h5⟩:=blk_setCellsC (cs:=cs.setIfInBounds o v) (fun j hj=>by
    rcases Nat.decEq j o with hne | heq
    ·rw[Array.getElem?_setIfInBounds_ne (by omega)];exact hc j hj
    ·subst heq
     exact ⟨v,by rw[Array.getElem?_setIfInBounds_self_of_lt (by omega)],hv v (List.mem_cons_self ..)⟩) (by simpa using hs) vs (fun u hu=>hv u (List.mem_cons_of_mem _ hu)) (o+1) (by omega) (hk.set_ o v)
   refine ⟨cs',h1,h2,h3,fun j u hu=>?_,fun j hj=>?_⟩
   ·match j,hu with
    | 0,hu =>
      have e:v=u:=by simpa using hu
      rw[Nat.add_zero,h5 o (by omega),Array.getElem?_setIfInBounds_self_of_lt (by omega),e]
    | j+1,hu =>
      rw[show o+(j+1)=o+1+j by omega]
      exact h4 j u (by simpa using hu)
   ·rw[h5 j (by omega),Array.getElem?_setIfInBounds_ne (by omega)]
set_option maxHeartbeats 1000000 in
theorem oper_append_own {w:World} {o:Oper} {a:Act} {K:Act->World->Prop} {Q:Exit->Act->World->Prop} (s x:Operand) (t e:TypeId)
 (ho:o.op=.call { callee:=.builtin .append,args:=#[s,x],argTypes:=#[t,t] }) (E:Nat) (i0:TypeInfo) (z:Value) (ht:Tryz.prog.underlying t=some (.slice e)) (hi:Tryz.prog.info? e=some i0) (hz0:i0.zero=some z) (hz1:i0.size=E) (hz2:i0.bytes<=200) (hzs:z.cells.size=E) (C:Value->Prop) (hC:∀ u,C u->Nd u) (hzn:∀ j,j<E->C (z.cells[j]!)) (hE:0<E)
 (base:Nat) (v:Value) (us vs:List Value) (hs:a.eval s=v) (hown:OwnE C E e base w v us) (hB:base<=w.heap.size)
 (ax:Addr) (m c:Nat) (hx:a.eval x=.slice (some ax) m c) (hvl:vs.length=m*E) (hxc:∀ (j:Nat) (u:Value),vs[j]?=some u->w.cell? (ax.add j)=some u) (hvn:∀ u∈vs,C u) (hm:0<m∨v≠.slice none 0 0) (hn:us.length+vs.length<=100000000)
 (dd:Nat) (hdd:o.dst=some dd) (h:∀ v' w',GrE C E e base w v us vs v' w'->K (a.put (some dd) v') w') :
 Oper.wp Tryz.prog o a w K Q:=by
 rw[<- hdd] at h
 have hone:∀ u∈vs,u.oneCell'=true:=fun u hu=>(hC u (hvn u hu)).2
 have hml:m<=100000000:=by
  have:m<=m*E:=Nat.le_mul_of_pos_right _ hE
  omega
 have hzc:∀ k j,j<k*E->∃ v,(Builtin.zeroCells z.cells k)[j]?=some v/\C v:=fun k j hj=>by
  unfold Builtin.zeroCells
  rw[Array.getElem?_map,Array.getElem?_range,hzs,if_pos hj]
  exact ⟨_,rfl,hzn _ (Nat.mod_lt _ hE)⟩
 have hzz:∀ k,(Builtin.zeroCells z.cells k).size=k*E:=fun k=>by rw[size_zeroCells,hzs]
 have hvj:∀ j,j<vs.length->∃ u,vs[j]?=some u/\C u:=fun j hj=>⟨vs[j]'hj,List.getElem?_eq_getElem hj,hvn _ (List.getElem_mem _)⟩
 have hnew:∀ (n cap':Nat) (olds:List Value),olds.length=n*E->(∀ u∈olds,C u)->(us=olds)->n+m<=cap' ->
  GrE C E e base w v us vs (.slice (some ⟨w.heap.size,0,none⟩) (n+m) cap') (w.drew.alloc (.cells ((olds ++ vs).toArray ++ Builtin.zeroCells z.cells (cap'-(n+m))) e)):=fun n cap' olds hl hnd hu hc=>by
  have hbw:Below w.heap.size w (w.drew.alloc (.cells ((olds ++ vs).toArray ++ Builtin.zeroCells z.cells (cap'-(n+m))) e)):=((Below.refl _ _).drew).alloc (by simp) _
  have hk:Blk (w.drew.alloc (.cells ((olds ++ vs).toArray ++ Builtin.zeroCells z.cells (cap'-(n+m))) e)) w.heap.size e ((olds ++ vs).toArray ++ Builtin.zeroCells z.cells (cap'-(n+m))):=Blk.new w.drew _ _
  have hlen:(olds ++ vs).length=(n+m)*E:=by rw[List.length_append,hl,hvl,Nat.add_mul]
  refine ⟨.inr ⟨w.heap.size,n+m,cap',_,rfl,hB,by rw[hu,hlen],hc,fun j u hj=>?_,hk,?_,fun j hj=>?_⟩,.inr ⟨hbw,_,_,rfl⟩⟩
  ·rw[hu] at hj
   have hjl:=(List.getElem?_eq_some_iff.1 hj).1
   refine (hk.cell j).trans ?_
   rw[Array.getElem?_append_left (by simpa using hjl),List.getElem?_toArray,hj]
  ·rw[Array.size_append,List.size_toArray,hzz,hlen,<- Nat.add_mul,Nat.add_sub_cancel' hc]
  ·rcases Nat.lt_or_ge j ((n+m)*E) with h1 | h1
   ·rw[Array.getElem?_append_left (by rw[List.size_toArray,hlen];exact h1),List.getElem?_toArray]
    refine ⟨(olds ++ vs)[j]'(by rw[hlen];exact h1),List.getElem?_eq_getElem _,?_⟩
    rcases List.mem_append.1 (List.getElem_mem (l:=olds ++ vs) (by rw[hlen];exact h1)) with h2 | h2
    ·exact hnd _ h2
    ·exact hvn _ h2
   ·rw[Array.getElem?_append_right (by rw[List.size_toArray,hlen];exact h1),List.size_toArray,hlen]
    refine hzc _ _ ?_
    rw[Nat.sub_mul]
    omega
 rcases hown with ⟨hn0,hF⟩ | ⟨g,n,cap,cs,hF,hBg,hul,hnc,huc,hk,hsz,hcs⟩
 ·subst hF
  have hm0:0<m:=hm.resolve_right fun h=>h rfl
  have hrun:=run_append_nil (P:=Tryz.prog) (w:=w) t o.type e i0 z ht hi hz0 ax m c vs (by rw[hz1,hvl]) hxc hm0 (by omega) (by
   have:=Nat.mul_le_mul hml hz2
   omega)
  have hge:m<=grownCap w m 0 e:=grownCap_ge w m 0 e
  generalize grownCap w m 0 e=cap' at hrun hge
  have hg:=hnew 0 cap' [] (by simp) (fun u hu=>by simp at hu) hn0 (by omega)
  rw[List.nil_append,Nat.zero_add] at hg
  unfold Oper.wp
  simp only[execOp,ho,resolve,invoke,builtin]
  simp[hs,hx,hrun,Result.andThen]
  exact h _ _ hg
 ·subst hF
  have hnl:n<=100000000:=by
   have:n<=n*E:=Nat.le_mul_of_pos_right _ hE
   omega
  by_cases hrm:n+m<=cap
  ·have hnm:n*E+m*E<=cap*E:=by rw[<- Nat.add_mul];exact Nat.mul_le_mul_right _ hrm
   have hrun:=run_append_room_cells (P:=Tryz.prog) w t o.type e i0 ht hi g 0 n cap ax m c vs (by rw[hz1,hvl]) hxc hone hrm
    (fun j hj=>by
      obtain ⟨u,eu,_⟩:=hcs (n*E+j) (by rw[hvl] at hj;omega)
      rw[hz1,Nat.zero_add,hk.cell,eu];rfl)
    (fun j hj=>hk.frozen _)
   rw[hz1,Nat.zero_add] at hrun
   unfold Oper.wp
   simp only[execOp,ho,resolve,invoke,builtin]
   simp[hs,hx,hrun,Result.andThen]
   have hcc:∀ o u,w.cell? ⟨g,o,none⟩=some u->C u:=fun o u hu=>by
    rw[hk.cell] at hu
    have hj:o<cs.size:=(Array.getElem?_eq_some_iff.1 hu).1
    obtain ⟨u',e',hd⟩:=hcs o (by rw[<- hsz];exact hj)
    rw[hu] at e'
    cases e'
    exact hd
   obtain ⟨cs',b1,b2,b3,b4,b5⟩:∃ cs',Blk (w.setCells g (n*E) vs) g e cs'/\cs'.size=cap*E/\(∀ j,j<cap*E->∃ v,cs'[j]?=some v/\C v)/\(∀ (j:Nat) (v:Value),vs[j]?=some v->cs'[n*E+j]?=some v)/\∀ j,j<n*E->cs'[j]?=cs[j]?:=blk_setCellsC hcs hsz vs hvn (n*E) (by rw[hvl];exact hnm) hk
   have hfr:FrS g g w (w.setCells g (n*E) vs):=frs_setCells vs (n*E) (FrS.refl _ _ _)
   refine h _ _ ⟨.inr ⟨g,n+m,cap,cs',rfl,hBg,by rw[List.length_append,hul,hvl,Nat.add_mul],hrm,fun j u hj=>?_,b1,b2,b3⟩,.inl ⟨g,n,n+m,cap,rfl,rfl,hBg,hk.lt,hcc,hfr⟩⟩
   refine (b1.cell j).trans ?_
   rcases Nat.lt_or_ge j us.length with h1 | h1
   ·rw[List.getElem?_append_left h1] at hj
    rw[b5 j (by rw[<- hul];exact h1),<- hk.cell j]
    exact huc j u hj
   ·rw[List.getElem?_append_right h1] at hj
    have:=b4 _ u hj
    rwa [<- hul,Nat.add_sub_cancel' h1] at this
  ·have hol:∀ u∈us,C u:=fun u hu=>by
    obtain ⟨j,hj,hju⟩:=List.getElem_of_mem hu
    have hc:=huc j u (by rw[List.getElem?_eq_getElem hj,hju])
    rw[hk.cell j] at hc
    obtain ⟨u',e',hd⟩:=hcs j (by
     have:n*E<=cap*E:=Nat.mul_le_mul_right _ hnc
     omega)
    rw[hc] at e'
    cases e'
    exact hd
   have hnm:=Nat.mul_le_mul (show n+m<=200000000 by omega) hz2
   have hfit:=growslice_fits (need:=n+m) (old:=cap) (bytes:=i0.bytes) (by omega) (by omega)
   have hrun:=run_append_grow (P:=Tryz.prog) w t o.type e i0 z ht hi hz0 ⟨g,0,none⟩ n cap us (by rw[hz1,hul])
    (fun j u hj=>by rw[Addr.add_lit,Nat.zero_add];exact huc j u hj)
    ax m c vs (by rw[hz1,hvl]) hxc (by omega) (by omega) hfit
   have hge:=grownCap_ge w (n+m) cap e
   generalize grownCap w (n+m) cap e=cap' at hrun hge
   have hg:=hnew n cap' us hul hol rfl hge
   unfold Oper.wp
   simp only[execOp,ho,resolve,invoke,builtin]
   simp[hs,hx,hrun,Result.andThen]
   exact h _ _ (by simpa using hg)
def Lay {α:Type} (R:α->List Value->Prop):List α->List Value->Prop
 | [],us=>us=[]
 | x :: xs,us=>∃ vs us',R x vs/\us=vs ++ us'/\Lay R xs us'
section
variable {α:Type} {R R':α->List Value->Prop} {E:Nat}
theorem Lay.app:∀ {xs:List α} {us:List Value} {x:α} {vs:List Value},Lay R xs us->R x vs->Lay R (xs ++ [x]) (us ++ vs)
 | [],us,x,vs,h,hx=>by
   rw[show us=[] from h]
   exact ⟨vs,[],hx,by simp,rfl⟩
 | y :: xs,us,x,vs,⟨ws,us',h1,h2,h3⟩,hx=>⟨ws,us' ++ vs,h1,by rw[h2,List.append_assoc],Lay.app h3 hx⟩
theorem Lay.mono (hm:∀ x vs,R x vs->R' x vs):∀ {xs:List α} {us:List Value},Lay R xs us->Lay R' xs us
 | [],_,h=>h
 | _ :: _,_,⟨vs,us',h1,h2,h3⟩=>⟨vs,us',hm _ _ h1,h2,Lay.mono hm h3⟩
theorem Lay.len (hR:∀ x vs,R x vs->vs.length=E):∀ {xs:List α} {us:List Value},Lay R xs us->us.length=xs.length*E
 | [],us,h=>by rw[show us=[] from h];simp
 | x :: xs,us,⟨vs,us',h1,h2,h3⟩=>by rw[h2,List.length_append,hR _ _ h1,Lay.len hR h3,List.length_cons,Nat.add_mul,Nat.one_mul,Nat.add_comm]
theorem Lay.get (hR:∀ x vs,R x vs->vs.length=E):∀ {xs:List α} {us:List Value},Lay R xs us->∀ (i:Nat) (x:α),xs[i]?=some x->∃ vs,R x vs/\∀ (j:Nat) (v:Value),vs[j]?=some v->us[i*E+j]?=some v
 | [],_,_,i,x,hx=>by simp at hx
 | y :: xs,us,⟨vs,us',h1,h2,h3⟩,i,x,hx=>by
   match i,hx with
   | 0,hx =>
     have e:y=x:=by simpa using hx
     subst e
     refine ⟨vs,h1,fun j v hv=>?_⟩
     rw[h2,Nat.zero_mul,Nat.zero_add,List.getElem?_append_left (List.getElem?_eq_some_iff.1 hv).1]
     exact hv
   | i+1,hx =>
     obtain ⟨ws,g1,g2⟩:=Lay.get hR h3 i x (by simpa using hx)
     refine ⟨ws,g1,fun j v hv=>?_⟩
     have hl:=hR _ _ h1
     rw[h2,List.getElem?_append_right (by rw[hl,Nat.add_mul];omega),hl,show (i+1)*E+j-E=i*E+j by rw[Nat.add_mul];omega]
     exact g2 j v hv
end
structure SlE {α:Type} (E:Nat) (R:World->α->List Value->Prop) (w:World) (A:Option Addr) (l c:Nat) (xs:List α):Prop where
 length:xs.length=l
 cap:l<=c
 elems:(l=0/\A=none/\c=0)∨∃ b o,A=some ⟨b,o,none⟩/\b<w.heap.size/\∀ (i:Nat) (x:α),xs[i]?=some x->∃ vs,R w x vs/\∀ (j:Nat) (v:Value),vs[j]?=some v->w.cell? ⟨b,o+i*E+j,none⟩=some v
theorem SlE.below {α:Type} {E:Nat} {R:World->α->List Value->Prop} {w w':World} {A:Option Addr} {l c:Nat} {xs:List α} (h:SlE E R w A l c xs) (hb:Below w.heap.size w w') (hR:∀ x vs,R w x vs->R w' x vs):SlE E R w' A l c xs:=by
 refine ⟨h.length,h.cap,?_⟩
 rcases h.elems with h0 | ⟨b,o,hA,hlt,hv⟩
 ·exact .inl h0
 ·refine .inr ⟨b,o,hA,Nat.lt_of_lt_of_le hlt hb.size,fun i x hx=>?_⟩
  obtain ⟨vs,h1,h2⟩:=hv i x hx
  exact ⟨vs,hR _ _ h1,fun j v hj=>(hb.cell (p:=⟨b,o+i*E+j,none⟩) hlt).trans (h2 j v hj)⟩
theorem OwnE.sle {α:Type} {C:Value->Prop} {E t base:Nat} {R:World->α->List Value->Prop} {w:World} {v:Value} {us:List Value} {xs:List α} (hE:0<E) (h:OwnE C E t base w v us) (hl:Lay (R w) xs us) (hR:∀ x vs,R w x vs->vs.length=E):∃ A l c,v=.slice A l c/\SlE E R w A l c xs:=by
 have hlen:=hl.len hR
 rcases h with ⟨h1,h2⟩ | ⟨g,n,cap,cs,h1,h2,h3,h4,h5,h6,h7,h8⟩
 ·have:xs.length=0:=by
   rw[h1,List.length_nil] at hlen
   rcases Nat.mul_eq_zero.1 hlen.symm with h | h<;>omega
  exact ⟨_,_,_,h2,this,Nat.le_refl _,.inl ⟨rfl,rfl,rfl⟩⟩
 ·refine ⟨_,n,cap,h1,Nat.eq_of_mul_eq_mul_right hE (by rw[<- hlen,h3]),h4,.inr ⟨g,0,rfl,h6.lt,fun i x hx=>?_⟩⟩
  obtain ⟨vs,g1,g2⟩:=hl.get hR i x hx
  exact ⟨vs,g1,fun j u hu=>by rw[Nat.zero_add];exact h5 _ u (g2 j u hu)⟩
theorem wpList_app_own {w:World} {ops:Array Oper} {rest:List Oper} {o:Oper} {a:Act} {Q:Exit->Act->World->Prop} (hgd:o.guard=none) (s x:Operand) (t e:TypeId)
 (ho:o.op=.call { callee:=.builtin .append,args:=#[s,x],argTypes:=#[t,t] }) (E:Nat) (i0:TypeInfo) (z:Value) (ht:Tryz.prog.underlying t=some (.slice e)) (hi:Tryz.prog.info? e=some i0) (hz0:i0.zero=some z) (hz1:i0.size=E) (hz2:i0.bytes<=200) (hzs:z.cells.size=E) (C:Value->Prop) (hC:∀ u,C u->Nd u) (hzn:∀ j,j<E->C (z.cells[j]!)) (hE:0<E)
 (base:Nat) (v:Value) (us vs:List Value) (hs:a.eval s=v) (hown:OwnE C E e base w v us) (hB:base<=w.heap.size)
 (ax:Addr) (m c:Nat) (hx:a.eval x=.slice (some ax) m c) (hvl:vs.length=m*E) (hxc:∀ (j:Nat) (u:Value),vs[j]?=some u->w.cell? (ax.add j)=some u) (hvn:∀ u∈vs,C u) (hm:0<m∨v≠.slice none 0 0) (hn:us.length+vs.length<=100000000)
 (dd:Nat) (hdd:o.dst=some dd) (h:∀ v' w',GrE C E e base w v us vs v' w'->wpList Tryz.prog ops Q rest (a.put (some dd) v') w') :
 wpList Tryz.prog ops Q (o :: rest) a w :=
 wpList_plain hgd fun _ hK'=>oper_append_own s x t e ho E i0 z ht hi hz0 hz1 hz2 hzs C hC hzn hE base v us vs hs hown hB ax m c hx hvl hxc hvn hm hn dd hdd fun v' w' hg=>hK' _ _ (h v' w' hg)
end Go.Proofs.YtpeiiomjnjemjaaGreat
namespace Go.Proofs.YtpeiiomjnjemjaaGreat
open Go Go.RowKit
def BoolE (P:Prop) (e:Ending):Prop:=∃ v:Bool,e=.returned (.bool v)/\(v=true↔P)
theorem BoolE.yes {P:Prop} (h:P):BoolE P (.returned (.bool true)):=⟨true,rfl,⟨fun _=>h,fun _=>rfl⟩⟩
theorem BoolE.no {P:Prop} (h:¬ P):BoolE P (.returned (.bool false)):=⟨false,rfl,⟨fun h=>(by cases h),fun h2=>absurd h2 h⟩⟩
theorem BoolE.get {P:Prop} {e:Ending} (h:BoolE P e) (p:P):e=.returned (.bool true):=by
 obtain ⟨v,rfl,hv⟩:=h
 rw[hv.2 p]
theorem Vals.get {w:World} {g o:Nat} {rs:List (Fq×Fq)} (h:Vals w g o rs) {k:Nat} (hk:k<rs.length) :
 ∃ n A l c B m d n' A' l' c' B' m' d',w.cell? ⟨g,o+k*6,none⟩=some (.bool n)/\w.cell? ⟨g,o+k*6+1,none⟩=some (.slice A l c)/\w.cell? ⟨g,o+k*6+2,none⟩=some (.slice B m d)/\w.cell? ⟨g,o+k*6+3,none⟩=some (.bool n')/\w.cell? ⟨g,o+k*6+4,none⟩=some (.slice A' l' c')/\w.cell? ⟨g,o+k*6+5,none⟩=some (.slice B' m' d') /\
   IntN w n A l c (rs.getD k r00).1.z/\NatN w B m d (rs.getD k r00).1.q/\IntN w n' A' l' c' (rs.getD k r00).2.z/\NatN w B' m' d' (rs.getD k r00).2.q:=by
 have e:rs[k]?=some (rs.getD k r00):=by rw[List.getD_eq_getElem?_getD,List.getElem?_eq_getElem hk];rfl
 obtain ⟨vs,⟨n,A,l,c,B,m,d,n',A',l',c',B',m',d',hv,h1,h2,h3,h4⟩,hc⟩:=h k _ e
 subst hv
 exact ⟨n,A,l,c,B,m,d,n',A',l',c',B',m',d',hc 0 _ rfl,hc 1 _ rfl,hc 2 _ rfl,hc 3 _ rfl,hc 4 _ rfl,hc 5 _ rfl,h1,h2,h3,h4⟩
theorem getD_fqb {rs:List (Fq×Fq)} (h:∀ r∈rs,FqB r.1/\FqB r.2) {k:Nat} (hk:k<rs.length):FqB (rs.getD k r00).1/\FqB (rs.getD k r00).2:=by
 rw[List.getD_eq_getElem?_getD,List.getElem?_eq_getElem hk]
 exact h _ (List.getElem_mem hk)
end Go.Proofs.YtpeiiomjnjemjaaGreat
namespace Go.Proofs.YtpeiiomjnjemjaaGreat
open Go Go.RowKit
theorem wpList_make_plr (w:World) {ops:Array Oper} {rest:List Oper} {o:Oper} {a:Act} {Q:Exit->Act->World->Prop}
 (hg:o.guard=none) (l c:Operand) (hop:o.op=Op.makeSlice 28 l c) (n:Nat) (hl:a.eval l=.int .i64 (n:Int)) (hc:a.eval c=.int .i64 (n:Int)) (hn:n<=1000)
 (hK:∀ w',OwnP w' w.heap.size n n (List.replicate n [])->Below w.heap.size w w'->w'.heap.size=w.heap.size+1->wpList Tryz.prog ops Q rest (a.put o.dst (.slice (some ⟨w.heap.size,0,none⟩) n n)) w') :
 wpList Tryz.prog ops Q (o :: rest) a w:=by
 obtain ⟨i,hi,hz,hs,hb⟩:=info_parts info_poly
 refine wpList_plain hg fun K hK'=>?_
 have hrun:=run_make (P:=Tryz.prog) w 28 26 i (.slice none 0 0) Tryz.underlying28 hi hz .i64 .i64 (n:Int) (n:Int) (by omega) (by omega) (by rw[hb];omega) (by omega)
 unfold Oper.wp
 simp[execOp,hop,hl,hc,hrun,Result.andThen]
 refine hK' _ _ (hK _ ?_ ((Below.refl _ _).alloc (Nat.le_refl _) _) (by simp))
 have e:madeCells (Value.slice none 0 0).cells (n*i.size)=(List.replicate n (Value.slice none 0 0)).toArray:=by rw[hs,Nat.mul_one];exact madeCells_one _ _
 rw[e]
 have hB:=Blk.new w 26 (List.replicate n (Value.slice none 0 0)).toArray
 have hj:∀ j,j<n->(List.replicate n (Value.slice none 0 0)).toArray[j]?=some (.slice none 0 0):=fun j hj=>by simp[hj]
 refine ⟨⟨_,hB,by simp,fun j h=>⟨none,0,0,hj j h⟩⟩,by simp,Nat.le_refl _,fun j h=>⟨none,0,0,(hB.cell j).trans (hj j h),?_⟩⟩
 rw[show (List.replicate n ([]:List Int)).getD j []=[] by simp[List.getD_eq_getElem?_getD,List.getElem?_replicate];split<;>rfl]
 exact PolyP.nil _ _ _ _
theorem OwnP.old {w:World} {g n cap:Nat} {ps:List (List Int)} (h:OwnP w g n cap ps) (k:Nat):w.frozen? ⟨g,k,none⟩=false:=by
 obtain ⟨cs,hb,_⟩:=h.blk
 exact hb.frozen k
theorem OwnP.poly {w:World} {g n cap:Nat} {ps:List (List Int)} (h:OwnP w g n cap ps) {k:Nat} (hk:k<n) {A:Option Addr} {l c:Nat} {p:List Int} (hp:PolyN w A l c p) (u:Value):PolyN (w.setCell ⟨g,k,none⟩ u) A l c p:=by
 obtain ⟨cs,hb,hs,hc⟩:=h.blk
 have hle:=h.le
 exact PolyP.storeRow hp hb (fun j hj=>hc j (by omega)) (by omega) u
theorem OwnP.set_ {w:World} {g n cap:Nat} {ps:List (List Int)} (h:OwnP w g n cap ps) {k:Nat} (hk:k<n) {A:Option Addr} {l c:Nat} {p:List Int} (hp:PolyN w A l c p):OwnP (w.setCell ⟨g,k,none⟩ (.slice A l c)) g n cap (ps.set k p):=by
 obtain ⟨cs,hb,hs,hc⟩:=h.blk
 have hle:=h.le
 have hlen:=h.len
 have hb':=hb.set_ k (.slice A l c)
 refine ⟨⟨_,hb',by simp[hs],fun j hj=>?_⟩,by rw[List.length_set];exact hlen,hle,fun j hj=>?_⟩
 ·by_cases e:j=k
  ·subst e
   exact ⟨A,l,c,Array.getElem?_setIfInBounds_self_of_lt (by omega)⟩
  ·rw[Array.getElem?_setIfInBounds_ne (fun x=>e x.symm)]
   exact hc j hj
 ·by_cases e:j=k
  ·subst e
   refine ⟨A,l,c,(hb'.cell j).trans (Array.getElem?_setIfInBounds_self_of_lt (by omega)),?_⟩
   rw[show (ps.set j p).getD j []=p by simp[List.getD_eq_getElem?_getD,hlen,hj]]
   exact h.poly hk hp _
  ·obtain ⟨A1,l1,c1,e1,e2⟩:=h.elems j hj
   refine ⟨A1,l1,c1,?_,?_⟩
   ·rw[hb'.cell,Array.getElem?_setIfInBounds_ne (fun x=>e x.symm),<- hb.cell];exact e1
   ·rw[show (ps.set k p).getD j []=ps.getD j [] by rw[List.getD_eq_getElem?_getD,List.getElem?_set_ne (fun x=>e x.symm),<- List.getD_eq_getElem?_getD]]
    exact h.poly hk e2 _
def PlA (w:World) (A:Option Addr) (l:Nat) (F:Nat->List Int):Prop:=l=0∨∃ b o,A=some ⟨b,o,none⟩/\b<w.heap.size/\∀ j,j<l->∃ Aj lj cj,w.cell? ⟨b,o+j,none⟩=some (.slice Aj lj cj)/\PolyN w Aj lj cj (F j)
theorem PlA.below {w w':World} {A:Option Addr} {l:Nat} {F:Nat->List Int} (h:PlA w A l F) (hb:Below w.heap.size w w'):PlA w' A l F:=by
 rcases h with h | ⟨b,o,h1,h2,h3⟩
 ·exact .inl h
 ·refine .inr ⟨b,o,h1,Nat.lt_of_lt_of_le h2 hb.size,fun j hj=>?_⟩
  obtain ⟨Aj,lj,cj,e1,e2⟩:=h3 j hj
  exact ⟨Aj,lj,cj,(hb.cell (p:=⟨b,o+j,none⟩) h2).trans e1,e2.below ikN hb⟩
def bcl (bs:List Bool):Array Value:=(bs.map Value.bool).toArray
def BRw (w:World) (g:Nat) (bs:List Bool):Prop:=Blk w g 4 (bcl bs)
theorem bcl_get (bs:List Bool) {i:Nat} (h:i<bs.length):(bcl bs)[i]?=some (.bool (bs.getD i false)):=by simp[bcl,h,List.getD_eq_getElem?_getD]
theorem bcl_set (bs:List Bool) (i:Nat) (x:Bool):bcl (bs.set i x)=(bcl bs).setIfInBounds i (.bool x):=by simp[bcl,List.map_set]
section
variable {w w':World} {g:Nat} {bs:List Bool}
theorem BRw.cell (h:BRw w g bs) {i:Nat} (hi:i<bs.length):w.cell? ⟨g,i,none⟩=some (.bool (bs.getD i false)):=(Blk.cell h i).trans (bcl_get bs hi)
theorem BRw.set_ (h:BRw w g bs) (i:Nat) (x:Bool):BRw (w.setCell ⟨g,i,none⟩ (.bool x)) g (bs.set i x):=by
 unfold BRw
 rw[bcl_set]
 exact Blk.set_ h i _
theorem BRw.below (h:BRw w g bs) (hb:Below w.heap.size w w'):BRw w' g bs:=Blk.below h hb (Blk.lt h)
end
theorem info_bool:(Tryz.prog.info? 4).map (fun i=>(i.zero,i.size,i.bytes))=some (some (.bool false),1,1):=by kernel_rfl
theorem wpList_make_bool (w:World) {ops:Array Oper} {rest:List Oper} {o:Oper} {a:Act} {Q:Exit->Act->World->Prop}
 (hg:o.guard=none) (l c:Operand) (hop:o.op=Op.makeSlice 43 l c) (n:Nat) (hl:a.eval l=.int .i64 (n:Int)) (hc:a.eval c=.int .i64 (n:Int)) (hn:n<=1000)
 (hK:∀ w',BRw w' w.heap.size (List.replicate n false)->Below w.heap.size w w'->w'.heap.size=w.heap.size+1->wpList Tryz.prog ops Q rest (a.put o.dst (.slice (some ⟨w.heap.size,0,none⟩) n n)) w') :
 wpList Tryz.prog ops Q (o :: rest) a w:=by
 obtain ⟨i,hi,hz,hs,hb⟩:=info_parts info_bool
 refine wpList_plain hg fun K hK'=>?_
 have hrun:=run_make (P:=Tryz.prog) w 43 4 i (.bool false) Tryz.underlying43 hi hz .i64 .i64 (n:Int) (n:Int) (by omega) (by omega) (by rw[hb];omega) (by omega)
 unfold Oper.wp
 simp[execOp,hop,hl,hc,hrun,Result.andThen]
 refine hK' _ _ (hK _ ?_ ((Below.refl _ _).alloc (Nat.le_refl _) _) (by simp))
 have e:madeCells (Value.bool false).cells (n*i.size)=bcl (List.replicate n false):=by
  rw[hs,Nat.mul_one]
  refine (madeCells_one _ _).trans ?_
  simp[bcl]
 rw[e]
 exact Blk.new w _ _
def ShR (w:World) (x:(Fq×Fq)×List Bool) (vs:List Value):Prop:=∃ us g,vs=us ++ [.slice (some ⟨g,0,none⟩) x.2.length x.2.length]/\RtV w x.1 us/\BRw w g x.2
def ShC (u:Value):Prop:=Nd u
theorem ShR.len {w:World} {x:(Fq×Fq)×List Bool} {vs:List Value} (h:ShR w x vs):vs.length=7:=by
 obtain ⟨us,g,rfl,h1,_⟩:=h
 rw[List.length_append,h1.len];rfl
theorem ShR.nd {w:World} {x:(Fq×Fq)×List Bool} {vs:List Value} (h:ShR w x vs):∀ v∈vs,Nd v:=by
 obtain ⟨us,g,rfl,h1,_⟩:=h
 intro v hv
 rcases List.mem_append.1 hv with h | h
 ·exact h1.nd v h
 ·rw[List.mem_singleton] at h
  rw[h]
  exact ⟨noDigit_slice _ _ _,rfl⟩
theorem ShR.below {w w':World} {x:(Fq×Fq)×List Bool} {vs:List Value} (h:ShR w x vs) (hb:Below w.heap.size w w'):ShR w' x vs:=by
 obtain ⟨us,g,e,h1,h2⟩:=h
 exact ⟨us,g,e,h1.below hb,h2.below hb⟩
theorem shr_mv {base:Nat} {w w':World} {v v':Value} {us vs:List Value} (ho:OwnE ShC 7 45 base w v us) (h:GrE ShC 7 45 base w v us vs v' w') (x:(Fq×Fq)×List Bool) (ws:List Value) (hx:ShR w x ws):ShR w' x ws:=by
 rcases h.2 with ⟨g,n,n',cap,hv,_,_,hlt,hc,hf⟩ | ⟨hb,_⟩
 ·obtain ⟨us',g',e,h1,h2⟩:=hx
  have hk:∃ cs,Blk w g 45 cs:=by
   rcases ho with ⟨_,h0⟩ | ⟨k,n2,cap2,cs,h3,_,_,_,_,h4,_⟩
   ·rw[h0] at hv;cases hv
   ·rw[h3] at hv
    injection hv with hv _ _
    injection hv with hv
    injection hv with hv _ _
    exact ⟨cs,hv ▸ h4⟩
  obtain ⟨cs,hk⟩:=hk
  have hne:g'≠g:=fun e2=>by
   subst e2
   have h3:w.heap[g']?=some (.cells (bcl x.2) 4 (0,0)):=h2
   have h4:w.heap[g']?=some (.cells cs 45 (0,0)):=hk
   rw[h3] at h4
   have h5:=Option.some.inj h4
   injection h5 with _ h6 _
   exact absurd h6 (by decide)
  have nd:NdB w g:=fun o u hu=>(hc o u hu).1
  exact ⟨us',g',e,h1.frs hf nd nd,(hf.same g' (Blk.lt h2) hne hne).trans h2⟩
 ·exact hx.below hb
end Go.Proofs.YtpeiiomjnjemjaaGreat
namespace Go.Proofs.YtpeiiomjnjemjaaGreat
open Go Go.RowKit
noncomputable def prk (F:Nat->List Int):Nat->List Int
 | 0=>[1]
 | k+1=>pstep (prk F k) (F k)
def lwk (F:Nat->List Int):Nat->List Int
 | 0=>[1]
 | k+1=>lstep (lwk F k) (F k)
theorem cmi {F:Nat->List Int} {l:Nat} (hl:l<=3) (hF:∀ i,i<l->Cmf (F i)):∀ k,k<=l->CmI k (prk F k) (lwk F k)
 | 0,_=>CmI.zero
 | k+1,hk=>((cmi hl hF k (by omega)).step (by omega) (hF k (by omega))).1
noncomputable def pts (F:Nat->List Int) (l k:Nat):List (List Int):=(List.range l).map fun i=>if i<k then qpart (F i) else []
theorem pts_len (F:Nat->List Int) (l k:Nat):(pts F l k).length=l:=by simp[pts]
theorem pts_zero (F:Nat->List Int) (l:Nat):pts F l 0=List.replicate l []:=by
 refine List.ext_getElem (by simp[pts]) fun i h1 h2=>?_
 simp[pts]
theorem pts_set (F:Nat->List Int) {l k:Nat} (hk:k<l):(pts F l k).set k (qpart (F k))=pts F l (k+1):=by
 refine List.ext_getElem (by simp[pts]) fun i h1 h2=>?_
 by_cases e:i=k
 ·subst e
  simp[pts]
 ·rw[List.getElem_set_ne (fun x=>e x.symm)]
  simp only[pts,List.getElem_map,List.getElem_range]
  by_cases h:i<k
  ·rw[if_pos h,if_pos (by omega)]
  ·rw[if_neg h,if_neg (by omega)]
theorem pts_get (F:Nat->List Int) {l i:Nat} (hi:i<l):(pts F l l).getD i []=qpart (F i):=by
 rw[List.getD_eq_getElem?_getD,List.getElem?_eq_getElem (by rw[pts_len];exact hi)]
 simp[pts,hi]
noncomputable def fls (F:Nat->List Int) (r:Fq×Fq) (l j:Nat):List Bool:=(List.range l).map fun i=>if i<j then van (qpart (F i)) r else false
theorem fls_len (F:Nat->List Int) (r:Fq×Fq) (l j:Nat):(fls F r l j).length=l:=by simp[fls]
theorem fls_zero (F:Nat->List Int) (r:Fq×Fq) (l:Nat):fls F r l 0=List.replicate l false:=by
 refine List.ext_getElem (by simp[fls]) fun i h1 h2=>?_
 simp[fls]
theorem fls_set (F:Nat->List Int) (r:Fq×Fq) {l k:Nat} (hk:k<l):(fls F r l k).set k (van (qpart (F k)) r)=fls F r l (k+1):=by
 refine List.ext_getElem (by simp[fls]) fun i h1 h2=>?_
 by_cases e:i=k
 ·subst e
  simp[fls]
 ·rw[List.getElem_set_ne (fun x=>e x.symm)]
  simp only[fls,List.getElem_map,List.getElem_range]
  by_cases h:i<k
  ·rw[if_pos h,if_pos (by omega)]
  ·rw[if_neg h,if_neg (by omega)]
theorem info_shared:(Tryz.prog.info? 45).map (fun i=>(i.zero,i.size,i.bytes))=some (some (.agg #[.bool false,.slice none 0 0,.slice none 0 0,.bool false,.slice none 0 0,.slice none 0 0,.slice none 0 0]),7,136):=by kernel_rfl
theorem shz:∀ j,j<7->ShC ((Value.agg #[.bool false,.slice none 0 0,.slice none 0 0,.bool false,.slice none 0 0,.slice none 0 0,.slice none 0 0]).cells[j]!):=fun j hj=>by
 match j,hj with
 | 0,_=>exact nd_bool _
 | 1,_=>exact nd_slice _ _ _
 | 2,_=>exact nd_slice _ _ _
 | 3,_=>exact nd_bool _
 | 4,_=>exact nd_slice _ _ _
 | 5,_=>exact nd_slice _ _ _
 | 6,_=>exact nd_slice _ _ _
theorem lay_take7 {R:(Fq×Fq)×List Bool->List Value->Prop} {G:Fq×Fq->(Fq×Fq)×List Bool} {rs:List (Fq×Fq)} {k:Nat} {us vs:List Value} (h:Lay R ((rs.take k).map G) us) (hk:k<rs.length) (hx:R (G (rs.getD k r00)) vs):Lay R ((rs.take (k+1)).map G) (us ++ vs):=by
 have e:rs.take (k+1)=rs.take k ++ [rs.getD k r00]:=by
  rw[List.take_succ_eq_append_getElem hk,List.getD_eq_getElem?_getD,List.getElem?_eq_getElem hk]
  rfl
 rw[e,List.map_append]
 exact h.app hx
noncomputable def shr (F:Nat->List Int) (l:Nat):List ((Fq×Fq)×List Bool):=(proots (prk F l)).map fun r=>(r,fls F r l l)
theorem pmul_ln (f g:List Int):(polymul f g).length<=f.length+g.length:=by
 unfold polymul
 split
 ·exact Nat.zero_le _
 ·rw[pmul_length];omega
theorem arr_cell (w:World) (cs:Array Value) (t:TypeId):∀ (j:Nat) (v:Value),cs.toList[j]?=some v->(w.alloc (.cells cs t)).cell? ((⟨w.heap.size,0,none⟩:Addr).add j)=some v:=fun j v hv=>by
 have h:=(Blk.new w t cs).cell j
 rw[Addr.add_lit,Nat.zero_add,h]
 simpa using hv
theorem one_at (w:World):I64At (w.alloc (.cells #[.int .i64 1] 2)) (some ⟨w.heap.size,0,none⟩) 1 1 [1]:=by
 refine ⟨rfl,by omega,.inr ⟨w.heap.size,0,rfl,by simp,fun j hj=>?_⟩⟩
 match j,hj with
 | 0,_=>simp
set_option maxRecDepth 100000 in
set_option maxHeartbeats 8000000 in
theorem common_any (A:Option Addr) (l c:Nat) (F:Nat->List Int) (w:World) (h:PlA w A l F) (hl:l<=3) (hF:∀ i,i<l->Cmf (F i)) (hsp:∀ i,i<l->(F i).length<=100) :
 Calls Tryz.prog 9 #[.slice A l c] w fun e w'=>(∃ A' l' c',e=.returned (.slice A' l' c')/\SlE 7 ShR w' A' l' c' (shr F l))/\Below w.heap.size w w':=by
 have HA:=Lh h
 clear h
 go_enter Tryz.func9,Tryz.ntmps9
 go_wp2_with (at_make;refine wpList_make_plr _ rfl (.tmp 14) (.tmp 14) rfl l rfl rfl (by omega) ?_)
 intro w1 hO hb1 hs1
 obtain ⟨gp,hgp⟩:∃ gp,gp=w.heap.size:=⟨_,rfl⟩
 rw[<- hgp] at hO ⊢
 have jb:=below_new w1 (.cells #[.int .i64 1] 2)
 have hat:=one_at w1
 have HO:=Lh (hO.below jb)
 have Hb:=Lh (hb1.trans (jb.mono hb1.size))
 have Hgp:=Lh hgp
 clear hO jb hb1 hs1 hgp
 go_wp2_with fail
 refine (pof_any _ _ _ _ _ hat (by intro c hc;simp at hc;rw[hc];unfold I64;omega) (by omega)).mono ?_
 rintro e w2 ⟨A2,l2,c2,rfl,h2,hb2⟩
 have HP:=Lh (show PolyN w2 A2 l2 c2 (prk F 0) from h2)
 replace HO:=Lh (HO.out.below hb2)
 rw[<- pts_zero F] at HO
 replace Hb:=Lh (Hb.out.trans (hb2.mono Hb.out.size))
 clear h2 hb2 hat
 go_wp2_with fail
 go_loopw [4,20] (fun s4 s20 wr=>∃ k:Nat,k<=l/\s20=.int .i64 (k:Int)/\∃ Ap lp cp,s4=.slice Ap lp cp/\PolyN wr Ap lp cp (prk F k)/\OwnP wr gp l l (pts F l k)/\Below w.heap.size w wr) (fun _ s20 _=>l-(intOf s20).toNat)
 case atStart=>exact ⟨0,Nat.zero_le _,rfl,_,_,_,rfl,HP.out,HO.out,Hb.out⟩
 case round =>
  clear HP HO Hb
  obtain ⟨k,hk,rfl,Ap,lp,cp,rfl,hp,ho,hbw⟩:=hrel
  obtain ⟨wo,rfl⟩:∃ wo:World,wo=wr:=⟨_,rfl⟩
  have cm:=cmi hl hF k hk
  obtain ⟨sP1,sP2⟩:=cm.small (by omega)
  have lP:(prk F k).length<=13:=by rw[<- cm.t,ptrim_length];exact sP1
  have lP2:lp<=13:=by have:=hp.length;omega
  have pqP:=cm.pq (by omega)
  by_cases hlt:k<l
  ·have ka:(k:Int)<(l:Int):=by omega
   obtain ⟨bb,oo,rfl,hbl,hcl⟩:=(HA.out.below hbw).resolve_left (by omega)
   obtain ⟨Af,lf,cf,e0,hf⟩:=hcl k hlt
   have cf9:=hF k hlt
   have lf2:lf<=100:=by have:=hf.length;have:=hsp k hlt;omega
   have sF:=cf9.p9.cp.fit.smp
   have qF:=cf9.p9.q
   have cQ:=cf9.p9.part
   have tQ:=cf9.p9.part_t
   have lQ:(qpart (F k)).length<=13:=by rw[<- tQ,ptrim_length];exact cQ.len
   have hst:=cm.step (by omega) cf9
   have HFk:=Lh hf
   have HP:=Lh hp
   have HO:=Lh ho
   have Hb:=Lh hbw
   have Hlt:=Lh hlt
   have iK:IntKind.i64.wrap ((k:Int)+1)=(k:Int)+1:=IntWalk.i64_in _ (by omega)
   clear hf hp ho hbw hcl cm sP1 sP2 hk
   go_wp2_with fail
   refine (part_q ikN _ _ _ (F k) _ HFk.out sF (fun _=>qF) (by omega)).mono ?_
   rintro e w5 ⟨A5,l5,c5,rfl,h5,hb5⟩
   replace HO:=Lh (HO.out.below hb5)
   replace HP:=Lh (HP.out.below ikN hb5)
   replace Hb:=Lh (Hb.out.trans (hb5.mono Hb.out.size))
   obtain ⟨A0,l0,c0,y0,_⟩:=HO.out.elems k hlt
   have y1:=HO.out.old k
   have l5b:l5<=13:=by have:=h5.length;omega
   have H5:=Lh h5
   clear hb5 h5 HFk e0
   go_wp2_with fail
   obtain ⟨w6,hw6⟩:∃ w6,w6=w5.setCell ⟨gp,k,none⟩ (.slice A5 l5 c5):=⟨_,rfl⟩
   rw[<- hw6]
   have O6:=Lh (show OwnP w6 gp l l (pts F l (k+1)) by rw[hw6,<- pts_set F hlt];exact HO.out.set_ hlt H5.out)
   have Q6:=Lh (show PolyN w6 A5 l5 c5 (qpart (F k)) by rw[hw6];exact HO.out.poly hlt H5.out _)
   have P6:=Lh (show PolyN w6 Ap lp cp (prk F k) by rw[hw6];exact HO.out.poly hlt HP.out _)
   have B6:=Lh (show Below w.heap.size w w6 by rw[hw6];exact Hb.out.setCell (p:=⟨gp,k,none⟩) (Nat.le_of_eq Hgp.out.symm) _)
   have e6:w6.cell? ⟨gp,k,none⟩=some (.slice A5 l5 c5):=by rw[hw6];go_simp
   clear hw6 HO HP Hb H5 y0 y1
   refine (degree_any _ _ _ _ _ (Q6.out.at_ ikN) cQ.fit.smp (by omega)).mono ?_
   rintro e w7 ⟨rfl,hb7⟩
   replace O6:=Lh (O6.out.below hb7)
   replace Q6:=Lh (Q6.out.below ikN hb7)
   replace P6:=Lh (P6.out.below ikN hb7)
   replace B6:=Lh (B6.out.trans (hb7.mono B6.out.size))
   replace e6:=((bcellS hb7).1 _ (by rw[e6];rfl)).trans e6
   clear hb7
   obtain ⟨D,hD⟩:∃ D,D=((plen (qpart (F k)):Nat):Int)-1:=⟨_,rfl⟩
   rw[<- hD]
   by_cases h1:1<plen (qpart (F k))
   ·have d1:0<D:=by omega
    have ep:prk F (k+1)=qpart (polymul (ptrim (prk F k)) (ptrim (qpart (F k)))):=by
     show pstep (prk F k) (F k)=_
     unfold pstep
     rw[if_pos h1]
    have qM:=hst.2 h1
    have EP:=Lh ep
    clear h1 ep hst hD
    go_wp2_with fail
    refine (polymul_any ikN ikN _ _ _ (prk F k) _ _ _ (qpart (F k)) _ P6.out Q6.out pqP.fit cQ.fit (by omega) (by omega)).mono ?_
    rintro e w8 ⟨A8,l8,c8,rfl,h8,hb8⟩
    replace O6:=Lh (O6.out.below hb8)
    replace B6:=Lh (B6.out.trans (hb8.mono B6.out.size))
    have l8b:l8<=100:=by have:=h8.length;have:=pmul_ln (ptrim (prk F k)) (ptrim (qpart (F k)));rw[ptrim_length,ptrim_length] at this;have:=plen_le (prk F k);have:=plen_le (qpart (F k));omega
    have H8:=Lh h8
    clear hb8 h8 e6 Q6 P6
    go_wp2_with fail
    refine (part_q ikN _ _ _ (polymul (ptrim (prk F k)) (ptrim (qpart (F k)))) _ H8.out qM.2.smp (fun _=>qM.1) (by omega)).mono ?_
    rintro e w9 ⟨A9,l9,c9,rfl,h9,hb9⟩
    replace O6:=Lh (O6.out.below hb9)
    replace B6:=Lh (B6.out.trans (hb9.mono B6.out.size))
    have P9:=Lh (show PolyN w9 A9 l9 c9 (prk F (k+1)) by rw[EP.out];exact h9)
    clear hb9 h9 H8
    go_wp2_with fail
    go_roundw
    case rel=>exact ⟨k+1,Hlt.out,by go_num,_,_,_,rfl,P9.out,O6.out,B6.out⟩
    case measure=>have:=Hlt.out;simp[intOf];omega
   ·have d1:¬ 0<D:=by omega
    have ep:prk F (k+1)=prk F k:=by
     show pstep (prk F k) (F k)=_
     unfold pstep
     rw[if_neg h1]
    rw[<- ep] at P6
    clear h1 ep hst hD
    go_wp2_with fail
    go_roundw
    case rel=>exact ⟨k+1,Hlt.out,by go_num,_,_,_,rfl,P6.out,O6.out,B6.out⟩
    case measure=>have:=Hlt.out;simp[intOf];omega
  ·have hkl:k=l:=by omega
   have t1:¬ (l:Int)<(l:Int):=by omega
   rw[hkl] at hp ho pqP ⊢
   have HP:=Lh hp
   have HO:=Lh ho
   have Hb:=Lh hbw
   clear hp ho hbw cm sP1 sP2 lP hlt hk hkl
   go_wp2_with fail
   refine (roots_any ikN _ _ _ (prk F l) _ HP.out pqP.fit.smp (fun _=>pqP.q) (fun h=>SqF.of9 pqP h) (by omega)).mono ?_
   rintro e w3 ⟨⟨A3,l3,c3,rfl,h3⟩,hb3⟩
   have hn12:=proots_le12 pqP
   obtain ⟨RS,hRS⟩:∃ R,R=proots (prk F l):=⟨_,rfl⟩
   have hfq:=proots_fqb pqP
   rw[<- hRS] at h3 hn12 hfq
   have HRS:=Lh hRS
   have Hrl:=Lh h3.length
   have HR:=Lh h3
   have Hfq:=Lh hfq
   replace HO:=Lh (HO.out.below hb3)
   replace Hb:=Lh (Hb.out.trans (hb3.mono Hb.out.size))
   have hl3:l3<=12:=by rw[<- h3.length];exact hn12
   clear hb3 h3 hRS hfq HP
   obtain ⟨SH,hSH⟩:∃ SH:Fq×Fq->(Fq×Fq)×List Bool,SH=fun r=>(r,fls F r l l):=⟨_,rfl⟩
   have HSH:=Lh hSH
   obtain ⟨wp,hwp⟩:∃ wp,wp=w3:=⟨_,rfl⟩
   rw[<- hwp] at HR HO Hb ⊢
   clear hwp hSH
   obtain ⟨i0,hi0,hz0,hz1,hz2⟩:=info_parts info_shared
   go_wp2_with fail
   go_loopw [7,47] (fun s7 s47 wr=>∃ k:Nat,k<=l3/\s47=.int .i64 (k:Int)/\(∃ us,OwnE ShC 7 45 wp.heap.size wr s7 us/\Lay (ShR wr) ((RS.take k).map SH) us)/\Below wp.heap.size wp wr) (fun _ s47 _=>l3-(intOf s47).toNat)
   case atStart=>exact ⟨0,Nat.zero_le _,rfl,⟨[],OwnE.nil _ _ _ _ _,rfl⟩,Bel.go⟩
   case round =>
    obtain ⟨k,hk,rfl,⟨us,ho,hly⟩,hbw⟩:=hrel
    obtain ⟨wr',rfl⟩:∃ wr':World,wr'=wr:=⟨_,rfl⟩
    by_cases hlt:k<l3
    ·have ka:(k:Int)<(l3:Int):=by omega
     have i1:IntKind.i64.wrap ((k:Int)+1)=(k:Int)+1:=IntWalk.i64_in _ (by omega)
     obtain ⟨b,o,rfl,hb0,hv⟩:∃ b o,A3=some ⟨b,o,none⟩/\b<wr'.heap.size/\Vals wr' b o RS:=by
      rcases (HR.out.below hbw).elems with ⟨h,_⟩ | h
      ·omega
      ·exact h
     have hkl:k<RS.length:=by rw[Hrl.out];exact hlt
     obtain ⟨n,A,l',c',B,m,d,n',A',l2',c2',B',m',d',e0,e1,e2,e3,e4,e5,z1,z2,z3,z4⟩:=hv.get hkl
     obtain ⟨fa,fb⟩:=Hfq.out _ (getD_mem hkl r00)
     obtain ⟨r,hr⟩:∃ r,r=RS.getD k r00:=⟨_,rfl⟩
     rw[<- hr] at z1 z2 z3 z4 fa fb
     have HRe:=Lh hr
     have HKL:=Lh hkl
     have Hlt:=Lh hlt
     have jb:=below_new wr' (tbox n A l' c' B m d n' A' l2' c2' B' m' d')
     have hT:=TBox.make z1 z2 z3 z4
     have hO:=And.intro (ho.below jb) (show Lay (ShR (wr'.alloc (tbox n A l' c' B m d n' A' l2' c2' B' m' d'))) ((RS.take k).map SH) us from hly.mono fun _ _ hx=>hx.below jb)
     have hul:us.length=k*7:=by rw[hly.len fun x vs hx=>hx.len,List.length_map,List.length_take];omega
     have hbz:=hbw.trans (jb.mono hbw.size)
     obtain ⟨gt,hgt⟩:∃ gt,gt=wr'.heap.size:=⟨_,rfl⟩
     obtain ⟨wz,hwz⟩:∃ wz,wz=wr'.alloc (tbox n A l' c' B m d n' A' l2' c2' B' m' d'):=⟨_,rfl⟩
     rw[<- hwz] at hT hO hbz
     rw[<- hgt] at hT
     have T:=Lh hT
     have O:=Lh hO
     have Hbz:=Lh hbz
     have HOz:=Lh (HO.out.below hbz)
     clear z1 z2 z3 z4 hv hr ho hly hbw jb hlt hkl hk hT hO hbz
     go_wp2_with (at_make;refine wpList_make_bool _ rfl (.tmp 52) (.tmp 52) rfl l rfl rfl (by omega) ?_)
     intro w4 hB hb4 hs4
     obtain ⟨gz,hgz⟩:∃ gz,gz=wr'.heap.size+1:=⟨_,rfl⟩
     have hgz2:gz=wz.heap.size:=by rw[hwz,hgz];simp
     rw[<- hgz] at hB hb4 ⊢
     rw[<- hgt]
     rw[<- hwz,hgz2] at hb4
     rw[<- fls_zero F r] at hB
     have HB:=Lh hB
     have Hb4:=Lh hb4
     have Hgz:=Lh hgz2
     clear hB hb4 hs4 hwz hgt hgz hgz2 e0 e1 e2 e3 e4 e5
     go_wp2_with fail
     go_loopw [56] (fun s56 wi=>∃ j:Nat,j<=l/\s56=.int .i64 (j:Int)/\BRw wi gz (fls F r l j)/\Below wz.heap.size wz wi) (fun s56 _=>l-(intOf s56).toNat)
     case atStart=>exact ⟨0,Nat.zero_le _,rfl,HB.out,Hb4.out⟩
     case round =>
      clear HB Hb4
      obtain ⟨j,hj,rfl,hB,hbi⟩:=hrel
      obtain ⟨wi',rfl⟩:∃ wi':World,wi'=wr:=⟨_,rfl⟩
      replace T:=Lh (T.out.move hbi)
      have x0:=T.out.r.c0;have x1:=T.out.r.c1;have x2:=T.out.r.c2;have x3:=T.out.c3;have x4:=T.out.c4;have x5:=T.out.c5
      by_cases hjl:j<l
      ·have ja:(j:Int)<(l:Int):=by omega
       have iJ:IntKind.i64.wrap ((j:Int)+1)=(j:Int)+1:=IntWalk.i64_in _ (by omega)
       obtain ⟨Aq,lq,cq,y0,hq⟩:=(HOz.out.below hbi).elems j hjl
       rw[pts_get F hjl] at hq
       have cf9:=hF j hjl
       have cQ:=cf9.p9.part
       have lQ:(qpart (F j)).length<=13:=by rw[<- cf9.p9.part_t,ptrim_length];exact cQ.len
       have HQ:=Lh hq
       have HB:=Lh hB
       have Hbi:=Lh hbi
       have Hjl:=Lh hjl
       clear hq hB hbi hj
       go_wp2_with fail
       refine (vanishes_any ikN _ _ _ (qpart (F j)) r _ _ _ _ _ _ _ _ _ _ _ _ _ _ _ HQ.out lQ cQ T.out.r.hz T.out.r.hq T.out.hz T.out.hq fa fb).mono ?_
       rintro e w5 ⟨he,hb5⟩
       obtain ⟨V5,hV5⟩:∃ V,V=van (qpart (F j)) r:=⟨_,rfl⟩
       have he2:e=.returned (.bool V5):=by rw[hV5];exact he
       subst he2
       clear he
       replace HB:=Lh (HB.out.below hb5)
       replace Hbi:=Lh (Hbi.out.trans (hb5.mono Hbi.out.size))
       have z0:=HB.out.cell (i:=j) (by rw[fls_len];exact hjl)
       have z1:=Blk.frozen HB.out j
       have R:=Lh (HB.out.set_ j V5)
       rw[hV5,fls_set F r hjl,<- hV5] at R
       have RB:=Lh (Hbi.out.setCell (p:=⟨gz,j,none⟩) (Nat.le_of_eq Hgz.out.symm) (.bool V5))
       clear hb5 HB Hbi HQ hV5 y0 hjl
       clear x0 x1 x2 x3 x4 x5
       go_wp2_with fail
       go_roundw
       case rel=>exact ⟨j+1,Hjl.out,by go_num,R.out,RB.out⟩
       case measure=>have:=Hjl.out;simp[intOf];omega
      ·have hjk:j=l:=by omega
       have t2:¬ (l:Int)<(l:Int):=by omega
       rw[hjk] at hB ⊢
       have HB:=Lh hB
       have Hbi:=Lh hbi
       clear hB hbi hjl hj hjk
       have jb:=below_new wi' (.cells #[.bool n,.slice A l' c',.slice B m d,.bool n',.slice A' l2' c2',.slice B' m' d',.slice (some ⟨gz,0,none⟩) l l] 45)
       have b6:=Hbi.out.trans (jb.mono Hbi.out.size)
       have HX6:=Lh (show ShR (wi'.alloc (.cells #[.bool n,.slice A l' c',.slice B m d,.bool n',.slice A' l2' c2',.slice B' m' d',.slice (some ⟨gz,0,none⟩) l l] 45)) (SH r) [.bool n,.slice A l' c',.slice B m d,.bool n',.slice A' l2' c2',.slice B' m' d',.slice (some ⟨gz,0,none⟩) l l] by
        rw[HSH.out]
        exact ⟨[.bool n,.slice A l' c',.slice B m d,.bool n',.slice A' l2' c2',.slice B' m' d'],gz,by rw[fls_len];rfl,RtV.mk (T.out.r.hz.below jb) (T.out.r.hq.below jb) (T.out.hz.below jb) (T.out.hq.below jb),HB.out.below jb⟩)
       have HC6:=Lh (show ∀ (j:Nat) (v:Value),[.bool n,.slice A l' c',.slice B m d,.bool n',.slice A' l2' c2',.slice B' m' d',.slice (some ⟨gz,0,none⟩) l l][j]?=some v->(wi'.alloc (.cells #[.bool n,.slice A l' c',.slice B m d,.bool n',.slice A' l2' c2',.slice B' m' d',.slice (some ⟨gz,0,none⟩) l l] 45)).cell? ((⟨wi'.heap.size,0,none⟩:Addr).add j)=some v from arr_cell wi' #[.bool n,.slice A l' c',.slice B m d,.bool n',.slice A' l2' c2',.slice B' m' d',.slice (some ⟨gz,0,none⟩) l l] 45)
       have O5:=Lh (And.intro (O.out.1.below b6) (show Lay (ShR (wi'.alloc (.cells #[.bool n,.slice A l' c',.slice B m d,.bool n',.slice A' l2' c2',.slice B' m' d',.slice (some ⟨gz,0,none⟩) l l] 45))) ((RS.take k).map SH) us from O.out.2.mono fun _ _ hx=>hx.below b6))
       have Hb6:=Lh (Hbz.out.trans (b6.mono Hbz.out.size))
       have Hsz:=Lh (show wp.heap.size<=(wi'.alloc (.cells #[.bool n,.slice A l' c',.slice B m d,.bool n',.slice A' l2' c2',.slice B' m' d',.slice (some ⟨gz,0,none⟩) l l] 45)).heap.size from Hb6.out.size)
       clear jb b6 HB Hbi
       go_wp2_with (at_builtin;refine wpList_app_own rfl (.tmp 68) (.tmp 72) 32 45 rfl 7 i0 (.agg #[.bool false,.slice none 0 0,.slice none 0 0,.bool false,.slice none 0 0,.slice none 0 0,.slice none 0 0]) Tryz.underlying32 hi0 hz0 hz1 (by rw[hz2];omega) rfl ShC (fun _ h=>h) shz (by decide) wp.heap.size _ us [.bool n,.slice A l' c',.slice B m d,.bool n',.slice A' l2' c2',.slice B' m' d',.slice (some ⟨gz,0,none⟩) l l] rfl O5.out.1 Hsz.out ⟨wi'.heap.size,0,none⟩ 1 1 rfl rfl HC6.out (fun u hu=>HX6.out.nd u hu) (.inl (by decide)) (by rw[hul];simp;omega) 73 rfl ?_)
       intro v2 w9 hgr
       have hb9:=hgr.below Hsz.out
       have hn:=shr_mv O5.out.1 hgr _ _ HX6.out
       have hly9:Lay (ShR w9) ((RS.take (k+1)).map SH) (us ++ [.bool n,.slice A l' c',.slice B m d,.bool n',.slice A' l2' c2',.slice B' m' d',.slice (some ⟨gz,0,none⟩) l l]):=by
        have h1:Lay (ShR w9) ((RS.take k).map SH) us:=O5.out.2.mono fun p ys hp=>shr_mv O5.out.1 hgr p ys hp
        exact lay_take7 h1 HKL.out (by rw[<- HRe.out];exact hn)
       have O9:=Lh (And.intro hgr.1 hly9)
       have Hb9:=Lh (Hb6.out.trans hb9)
       clear hgr hb9 hly9 hn O5 Hb6 Hsz HC6 HX6
       clear x0 x1 x2 x3 x4 x5
       go_wp2_with fail
       go_roundw
       case rel=>exact ⟨k+1,Hlt.out,by go_num,⟨_,O9.out.1,O9.out.2⟩,Hb9.out⟩
       case measure=>have:=Hlt.out;simp[intOf];omega
    ·have hk2:k=l3:=by omega
     have t2:¬ (k:Int)<(l3:Int):=by omega
     obtain ⟨A9,l9,c9,e9,h9'⟩:=ho.sle (by decide) hly fun x vs hx=>hx.len
     subst e9
     have FX:=Lh (show SlE 7 ShR wr' A9 l9 c9 (shr F l) by
      rw[hk2,<- Hrl.out,List.take_length,HSH.out] at h9'
      unfold shr
      rw[<- HRS.out]
      exact h9')
     clear ho hly h9' hk2 hlt
     go_wp2_with fail
     go_ret
     exact ⟨⟨_,_,_,rfl,FX.out⟩,Hb.out.trans (hbw.mono Hb.out.size)⟩
end Go.Proofs.YtpeiiomjnjemjaaGreat
namespace Go.Proofs.YtpeiiomjnjemjaaGreat
open Go Go.RowKit
theorem w2_atI (w:World):I64At (w.alloc (.cells #[.int .i64 (-2),.int .i64 0,.int .i64 1] 2)) (some ⟨w.heap.size,0,none⟩) 3 3 w2:=by
 refine ⟨rfl,by omega,.inr ⟨w.heap.size,0,rfl,by simp,fun j hj=>?_⟩⟩
 match j,hj with
 | 0,_=>simp[w2]
 | 1,_=>simp[w2]
 | 2,_=>simp[w2]
theorem w2_trimI:ptrim w2=w2:=by decide
set_option maxHeartbeats 1000000 in
theorem awake16_any (w:World) :
 Calls Tryz.prog 4 #[] w fun e w'=>e=.returned (.bool true)/\Below w.heap.size w w':=by
 have jb:=below_new w (.cells #[.int .i64 (-2),.int .i64 0,.int .i64 1] 2)
 have hat:=w2_atI w
 have Hb:=Lh jb
 clear jb
 go_enter Tryz.func4,Tryz.ntmps4
 go_wp2_with fail
 refine (pof_any _ _ _ _ _ hat (by intro c hc;simp[w2] at hc;rcases hc with rfl | rfl | rfl<;>(unfold I64;omega)) (by omega)).mono ?_
 rintro e w1 ⟨A1,l1,c1,rfl,h1,hb1⟩
 rw[show ptrim w2=w2 from w2_trimI] at h1
 have hl1:l1<=3:=by have:=h1.length;have e:w2.length=3:=rfl;omega
 replace Hb:=Lh (Hb.out.trans (hb1.mono Hb.out.size))
 have h9:=p9_w2
 clear hb1 hat
 go_wp2_with fail
 refine (roots_any ikN _ _ _ w2 _ h1 h9.cp.fit.smp (fun _=>h9.q) (fun h=>SqF.of9 h9.pq h) (by omega)).mono ?_
 rintro e w2' ⟨⟨A2,l2,c2,rfl,h2⟩,hb2⟩
 obtain rfl:l2=2:=by rw[<- h2.length];exact proots_w2
 replace Hb:=Lh (Hb.out.trans (hb2.mono Hb.out.size))
 clear hb2 h1 h2
 go_wp2
 go_ret
 exact ⟨rfl,Hb.out⟩
end Go.Proofs.YtpeiiomjnjemjaaGreat
namespace Go.Proofs.YtpeiiomjnjemjaaGreat
open Go Go.RowKit
structure Quad (W:World) (g:Nat) (x0 x1 x2 x3:Int):Prop where
 c0:W.cell? ⟨g,0,none⟩=some (.int .i8 x0)
 c1:W.cell? ⟨g,1,none⟩=some (.int .i8 x1)
 c2:W.cell? ⟨g,2,none⟩=some (.int .i8 x2)
 c3:W.cell? ⟨g,3,none⟩=some (.int .i8 x3)
 lt:g<W.heap.size
theorem Quad.move {W W':World} {g:Nat} {x0 x1 x2 x3:Int} (h:Quad W g x0 x1 x2 x3) (hb:Below W.heap.size W W'):Quad W' g x0 x1 x2 x3 :=
 ⟨(hb.cell (p:=⟨g,0,none⟩) h.lt).trans h.c0,(hb.cell (p:=⟨g,1,none⟩) h.lt).trans h.c1,(hb.cell (p:=⟨g,2,none⟩) h.lt).trans h.c2,(hb.cell (p:=⟨g,3,none⟩) h.lt).trans h.c3,Nat.lt_of_lt_of_le h.lt hb.size⟩
theorem Quad.make (W:World) (x0 x1 x2 x3:Int) (t:TypeId):Quad (W.alloc (.cells #[.int .i8 x0,.int .i8 x1,.int .i8 x2,.int .i8 x3] t)) W.heap.size x0 x1 x2 x3:=⟨by go_simp,by go_simp,by go_simp,by go_simp,by simp⟩
end Go.Proofs.YtpeiiomjnjemjaaGreat
namespace Go.Proofs.YtpeiiomjnjemjaaGreat
open Go Go.RowKit
set_option maxRecDepth 100000 in
set_option maxHeartbeats 8000000 in
theorem lawcomplete_any {I:IntPred} (hI:IK I) (Af:Option Addr) (lf cf:Nat) (f:List Int) (A:Option Addr) (la ca:Nat) (rs:List (Fq×Fq)) (w:World) (hf:PolyP I w Af lf cf f) (hl:f.length<=16) (h9:PQ f) (hr:RtsAt w A la ca rs) (hfq:∀ r∈rs,FqB r.1/\FqB r.2) (hla:la<=1000) :
 Calls Tryz.prog 11 #[.slice Af lf cf,.slice A la ca] w fun e w'=>BoolE (CmplL f rs) e/\Below w.heap.size w w':=by
 have hlf:lf<=16:=by have:=hf.length;omega
 have Hrl:=Lh hr.length
 have HF:=Lh hf
 have HRs:=Lh hr
 have Hfq:=Lh hfq
 have Hb:=Lh (Below.refl w.heap.size w)
 clear hf hr hfq
 go_enter Tryz.func11,Tryz.ntmps11
 go_wp2_with fail
 go_loopw [5] (fun s5 wr=>∃ k:Nat,k<=la/\s5=.int .i64 (k:Int)/\(∀ i,i<k->stLaw f rs i)/\Below w.heap.size w wr) (fun s5 _=>la-(intOf s5).toNat)
 case atStart=>exact ⟨0,Nat.zero_le _,rfl,fun i hi=>absurd hi (Nat.not_lt_zero _),Bel.go⟩
 case round =>
  obtain ⟨k,hk,rfl,hst,hbw⟩:=hrel
  have Hst:=Lh hst
  have HFr:=Lh (HF.out.below hI hbw)
  have HRr:=Lh (HRs.out.below hbw)
  have Hbw:=Lh hbw
  clear hst
  by_cases hlt:k<la
  ·have Hkl:=Lh hlt
   obtain ⟨b,o,rfl,hb0,hv⟩:∃ b o,A=some ⟨b,o,none⟩/\b<wr.heap.size/\Vals wr b o rs:=by
    rcases HRr.out.elems with ⟨h0,_⟩ | h
    ·omega
    ·exact h
   have hkl:k<rs.length:=by rw[Hrl.out];exact hlt
   obtain ⟨n,A1,l1,c1,B1,m1,d1,n',A2,l2,c2,B2,m2,d2,e0,e1,e2,e3,e4,e5,z1,z2,z3,z4⟩:=hv.get hkl
   obtain ⟨fa,fb⟩:=getD_fqb Hfq.out hkl
   obtain ⟨r,hr⟩:∃ r,r=rs.getD k r00:=⟨_,rfl⟩
   rw[<- hr] at z1 z2 z3 z4 fa fb
   have Hr:=Lh hr
   have Hv:=Lh hv
   have ka:(k:Int)<(la:Int):=by omega
   have w1:IntKind.i64.wrap ((k:Int)+1)=(k:Int)+1:=IntWalk.i64_in _ (by omega)
   have p1:=fa.p
   have p2:=fb.p
   have Z1:=Lh z1;have Z2:=Lh z2;have Z3:=Lh z3;have Z4:=Lh z4
   clear z1 z2 z3 z4 hv hr hk hlt hbw hkl
   by_cases hv:vld 1 f r.1 r.2=true
   ·by_cases hk0:k=0
    ·have HV:=Lh hv
     have g1:decide ((0:Int)<(k:Int))=false:=decide_eq_false (by omega)
     have gn:decide (0<k)=false:=decide_eq_false (by omega)
     have FIN:=Lh (show stLaw f rs k from ⟨by rw[<- Hr.out];exact hv,fun h=>absurd hk0 (by omega)⟩)
     clear hv hk0
     go_wp2_with fail
     refine wp_region_held_drew (S:=fun w'=>w'.cell? ⟨b,o+k*6,none⟩=some (.bool n)/\w'.cell? ⟨b,o+k*6+1,none⟩=some (.slice A1 l1 c1)/\w'.cell? ⟨b,o+k*6+2,none⟩=some (.slice B1 m1 d1)/\w'.cell? ⟨b,o+k*6+3,none⟩=some (.bool n')/\w'.cell? ⟨b,o+k*6+4,none⟩=some (.slice A2 l2 c2)/\w'.cell? ⟨b,o+k*6+5,none⟩=some (.slice B2 m2 d2)) (by kernel_rfl) (by (try dsimp only);go_keep) (fun hHeld=>?_)
     (refine tq 0 ?_;simp only[put_lit,List.set])
     (refine tq 1 ?_;simp only[put_lit,List.set])
     (refine tq 2 ?_;simp only[put_lit,List.set])
     (refine tq 3 ?_;simp only[put_lit,List.set])
     (refine tq 4 ?_;simp only[put_lit,List.set])
     refine rdy 5 (fun K hK=>?_);go_simp;refine (lawvalid_any hI _ _ _ f r.1 r.2 _ _ _ _ _ _ _ _ _ _ _ _ _ _ _ ?_ hl h9 ?_ ?_ ?_ ?_ fa fb).mono ?_;(exact HFr.out.below hI Bel.go);(exact Z1.out.below Bel.go);(exact Z2.out.below Bel.go);(exact Z3.out.below Bel.go);(exact Z4.out.below Bel.go);rintro e w3 ⟨rfl,hb3⟩;rw[HV.out];obtain ⟨hcx,hfx⟩:=bcellS hb3;have G3:=Lh ((Below.trans Bel.go (hb3.mono (by simp<;>omega))):Below wr.heap.size wr w3);refine hK.out _ _ ?_ (fun _=>?_)
     ·((try dsimp only);repeat' apply And.intro)<;>(rw[hcx _ (by go_simp)];go_simp)
     clear hHeld hK K hcx hfx;rename_i hHeld
     (refine tq 6 ?_;simp only[put_lit,List.set])
     (refine tq 7 ?_;simp only[put_lit,List.set])
     (refine tq 8 ?_;simp only[put_lit,List.set])
     (refine tq 9 ?_;simp only[put_lit,List.set])
     (refine tq 10 ?_;simp only[put_lit,List.set])
     (refine tu 11 ?_;simp only[put_lit,List.set])
     (refine tu 12 ?_;simp only[put_lit,List.set])
     (refine tu 13 ?_;simp only[put_lit,List.set])
     (refine tu 14 ?_;simp only[put_lit,List.set])
     (refine tu 15 ?_;simp only[put_lit,List.set])
     (refine tu 16 ?_;simp only[put_lit,List.set])
     (refine tu 17 ?_;simp only[put_lit,List.set])
     (refine tu 18 ?_;simp only[put_lit,List.set])
     (refine tu 19 ?_;simp only[put_lit,List.set])
     (refine tu 20 ?_;simp only[put_lit,List.set])
     (refine tu 21 ?_;simp only[put_lit,List.set])
     (refine tu 22 ?_;simp only[put_lit,List.set])
     (refine tu 23 ?_;simp only[put_lit,List.set])
     (refine tq 24 ?_;simp only[put_lit,List.set])
     (refine tq 25 ?_;simp only[put_lit,List.set])
     refine wpAnyH_done (by kernel_rfl) ?_ _
     have Hbx:=Lh (Hbw.out.trans (G3.out.mono Hbw.out.size))
     go_wp2_with fail
     go_roundw;(case rel=>exact ⟨k+1,Hkl.out,by go_num,fun i hi=>(by by_cases hi2:i<k;exact Hst.out i hi2;obtain rfl:i=k:=(by omega);exact FIN.out),Hbx.out⟩);(case measure=>have:=Hkl.out;simp[intOf];omega)
    ·obtain ⟨j,hj⟩:∃ j,k=j+1:=⟨k-1,by omega⟩
     have HV:=Lh hv
     have g1:decide ((0:Int)<(k:Int))=true:=decide_eq_true (by omega)
     have gn:decide (0<k)=true:=decide_eq_true (by omega)
     have y1:(k:Int)-1=(j:Int):=by omega
     have i1:IntKind.i64.wrap (j:Int)=(j:Int):=IntWalk.i64_in _ (by have:=Hkl.out;omega)
     have ja:(j:Int)<(la:Int):=by omega
     have hjl:j<rs.length:=by rw[Hrl.out];have:=Hkl.out;omega
     obtain ⟨n3,A3,l3,c3,B3,m3,d3,n4,A4,l4,c4,B4,m4,d4,_,_,_,u3,u4,u5,_,_,z3,z4⟩:=Hv.out.get hjl
     obtain ⟨_,fp⟩:=getD_fqb Hfq.out hjl
     obtain ⟨p,hp⟩:∃ p,p=rs.getD j r00:=⟨_,rfl⟩
     rw[<- hp] at z3 z4 fp
     have ST:=Lh (show stLaw f rs k↔fcmp p.2 r.1<=0 by
      unfold stLaw
      rw[<- Int.not_lt]
      rw[show k-1=j by omega,<- hp,<- Hr.out]
      exact ⟨fun h=>h.2 (by omega),fun h=>⟨hv,fun _=>h⟩⟩)
     have q2:=fp.p
     have Z5:=Lh z3;have Z6:=Lh z4
     clear z3 z4 hp hj hk0 hjl hv
     go_wp2_with fail
     refine wp_region_held_drew (S:=fun w'=>(w'.cell? ⟨b,o+k*6,none⟩=some (.bool n)/\w'.cell? ⟨b,o+k*6+1,none⟩=some (.slice A1 l1 c1)/\w'.cell? ⟨b,o+k*6+2,none⟩=some (.slice B1 m1 d1)/\w'.cell? ⟨b,o+k*6+3,none⟩=some (.bool n')/\w'.cell? ⟨b,o+k*6+4,none⟩=some (.slice A2 l2 c2)/\w'.cell? ⟨b,o+k*6+5,none⟩=some (.slice B2 m2 d2))/\w'.cell? ⟨b,o+j*6+3,none⟩=some (.bool n4)/\w'.cell? ⟨b,o+j*6+4,none⟩=some (.slice A4 l4 c4)/\w'.cell? ⟨b,o+j*6+5,none⟩=some (.slice B4 m4 d4)) (by kernel_rfl) (by (try dsimp only);go_keep) (fun hHeld=>?_)
     (refine tq 0 ?_;simp only[put_lit,List.set])
     (refine tq 1 ?_;simp only[put_lit,List.set])
     (refine tq 2 ?_;simp only[put_lit,List.set])
     (refine tq 3 ?_;simp only[put_lit,List.set])
     (refine tq 4 ?_;simp only[put_lit,List.set])
     refine rdy 5 (fun K hK=>?_);go_simp;refine (lawvalid_any hI _ _ _ f r.1 r.2 _ _ _ _ _ _ _ _ _ _ _ _ _ _ _ ?_ hl h9 ?_ ?_ ?_ ?_ fa fb).mono ?_;(exact HFr.out.below hI Bel.go);(exact Z1.out.below Bel.go);(exact Z2.out.below Bel.go);(exact Z3.out.below Bel.go);(exact Z4.out.below Bel.go);rintro e w3 ⟨rfl,hb3⟩;rw[HV.out];obtain ⟨hcx,hfx⟩:=bcellS hb3;have G3:=Lh ((Below.trans Bel.go (hb3.mono (by simp<;>omega))):Below wr.heap.size wr w3);refine hK.out _ _ ?_ (fun _=>?_)
     ·((try dsimp only);repeat' apply And.intro)<;>(rw[hcx _ (by go_simp)];go_simp)
     clear hHeld hK K hcx hfx;rename_i hHeld
     (refine tq 6 ?_;simp only[put_lit,List.set])
     (refine tq 7 ?_;simp only[put_lit,List.set])
     (refine tq 8 ?_;simp only[put_lit,List.set])
     (refine tq 9 ?_;simp only[put_lit,List.set])
     (refine tq 10 ?_;simp only[put_lit,List.set])
     (refine tq 11 ?_;simp only[put_lit,List.set])
     (refine tq 12 ?_;simp only[put_lit,List.set])
     (refine tq 13 ?_;simp only[put_lit,List.set])
     (refine tq 14 ?_;simp only[put_lit,List.set])
     (refine tq 15 ?_;simp only[put_lit,List.set])
     (refine tq 16 ?_;simp only[put_lit,List.set])
     (refine tq 17 ?_;simp only[put_lit,List.set])
     (refine tq 18 ?_;simp only[put_lit,List.set])
     (refine tq 19 ?_;simp only[put_lit,List.set])
     (refine tq 20 ?_;simp only[put_lit,List.set])
     (refine tq 21 ?_;simp only[put_lit,List.set])
     refine rdy 22 (fun K hK=>?_);go_simp
     refine (rcmp_any _ _ _ _ _ _ _ _ _ _ _ _ _ _ _ _ _ _ _ ?_ ?_ ?_ ?_ (by omega) (by omega) fp.fz fp.fq fa.fz fa.fq).mono ?_
     ·exact (Z5.out.below G3.out).at_.below Bel.go
     ·exact (Z6.out.below G3.out).at_.below Bel.go
     ·exact (Z1.out.below G3.out).at_.below Bel.go
     ·exact (Z2.out.below G3.out).at_.below Bel.go
     rintro e w4 ⟨rfl,hb4⟩
     obtain ⟨C1,hC1⟩:∃ C,C=cmpz (p.2.z*(r.1.q:Int)) (r.1.z*(p.2.q:Int)):=⟨_,rfl⟩
     rw[<- hC1]
     have HC1:=Lh (show C1=fcmp p.2 r.1 from hC1)
     clear hC1
     obtain ⟨hcx,hfx⟩:=bcellS hb4
     have G4:=Lh (G3.out.trans (((Below.trans Bel.go (hb4.mono (by simp<;>omega))):Below w3.heap.size w3 w4).mono G3.out.size))
     refine hK.out _ _ ?_ (fun _=>?_)
     ·((try dsimp only);repeat' apply And.intro)<;>(rw[hcx _ (by go_simp)];go_simp)
     clear hHeld hK K hcx hfx;rename_i hHeld
     have Hbx:=Lh (Hbw.out.trans (G4.out.mono Hbw.out.size))
     by_cases g2:0<C1
     ·have b3:decide (0<C1)=true:=decide_eq_true g2
      have FIN:=Lh (show ¬ CmplL f rs from fun h=>(by have h2:=ST.out.1 (h.2 k (by rw[Hrl.out];exact Hkl.out));rw[<- HC1.out] at h2;omega))
      clear g2
      (refine tq 23 ?_;simp only[put_lit,List.set])
      (refine tq 24 ?_;simp only[put_lit,List.set])
      (refine tq 25 ?_;simp only[put_lit,List.set])
      refine wpAnyH_done (by kernel_rfl) ?_ _
      go_wp2_with fail
      go_ret
      exact ⟨.no FIN.out,Hb.out.trans (Hbx.out.mono Hb.out.size)⟩
     ·have b3:decide (0<C1)=false:=decide_eq_false g2
      have FIN:=Lh (ST.out.2 (by rw[<- HC1.out];omega))
      clear g2
      (refine tq 23 ?_;simp only[put_lit,List.set])
      (refine tq 24 ?_;simp only[put_lit,List.set])
      (refine tq 25 ?_;simp only[put_lit,List.set])
      refine wpAnyH_done (by kernel_rfl) ?_ _
      go_wp2_with fail
      go_roundw;(case rel=>exact ⟨k+1,Hkl.out,by go_num,fun i hi=>(by by_cases hi2:i<k;exact Hst.out i hi2;obtain rfl:i=k:=(by omega);exact FIN.out),Hbx.out⟩);(case measure=>have:=Hkl.out;simp[intOf];omega)
   ·have HV:=Lh (show vld 1 f r.1 r.2=false by simpa using hv)
    have FIN:=Lh (show ¬ CmplL f rs from fun h=>hv (by rw[Hr.out];exact (h.2 k (by rw[Hrl.out];exact Hkl.out)).1))
    clear hv
    go_wp2_with fail
    refine wp_region_held_drew (S:=fun w'=>w'.cell? ⟨b,o+k*6,none⟩=some (.bool n)/\w'.cell? ⟨b,o+k*6+1,none⟩=some (.slice A1 l1 c1)/\w'.cell? ⟨b,o+k*6+2,none⟩=some (.slice B1 m1 d1)/\w'.cell? ⟨b,o+k*6+3,none⟩=some (.bool n')/\w'.cell? ⟨b,o+k*6+4,none⟩=some (.slice A2 l2 c2)/\w'.cell? ⟨b,o+k*6+5,none⟩=some (.slice B2 m2 d2)) (by kernel_rfl) (by (try dsimp only);go_keep) (fun hHeld=>?_)
    (refine tq 0 ?_;simp only[put_lit,List.set])
    (refine tq 1 ?_;simp only[put_lit,List.set])
    (refine tq 2 ?_;simp only[put_lit,List.set])
    (refine tq 3 ?_;simp only[put_lit,List.set])
    (refine tq 4 ?_;simp only[put_lit,List.set])
    refine rdy 5 (fun K hK=>?_);go_simp;refine (lawvalid_any hI _ _ _ f r.1 r.2 _ _ _ _ _ _ _ _ _ _ _ _ _ _ _ ?_ hl h9 ?_ ?_ ?_ ?_ fa fb).mono ?_;(exact HFr.out.below hI Bel.go);(exact Z1.out.below Bel.go);(exact Z2.out.below Bel.go);(exact Z3.out.below Bel.go);(exact Z4.out.below Bel.go);rintro e w3 ⟨rfl,hb3⟩;rw[HV.out];obtain ⟨hcx,hfx⟩:=bcellS hb3;have G3:=Lh ((Below.trans Bel.go (hb3.mono (by simp<;>omega))):Below wr.heap.size wr w3);refine hK.out _ _ ?_ (fun _=>?_)
    ·((try dsimp only);repeat' apply And.intro)<;>(rw[hcx _ (by go_simp)];go_simp)
    clear hHeld hK K hcx hfx;rename_i hHeld
    (refine tq 6 ?_;simp only[put_lit,List.set])
    (refine tq 7 ?_;simp only[put_lit,List.set])
    (refine tu 8 ?_;simp only[put_lit,List.set])
    (refine tu 9 ?_;simp only[put_lit,List.set])
    (refine tu 10 ?_;simp only[put_lit,List.set])
    (refine tu 11 ?_;simp only[put_lit,List.set])
    (refine tu 12 ?_;simp only[put_lit,List.set])
    (refine tu 13 ?_;simp only[put_lit,List.set])
    (refine tu 14 ?_;simp only[put_lit,List.set])
    (refine tu 15 ?_;simp only[put_lit,List.set])
    (refine tu 16 ?_;simp only[put_lit,List.set])
    (refine tu 17 ?_;simp only[put_lit,List.set])
    (refine tu 18 ?_;simp only[put_lit,List.set])
    (refine tu 19 ?_;simp only[put_lit,List.set])
    (refine tu 20 ?_;simp only[put_lit,List.set])
    (refine tu 21 ?_;simp only[put_lit,List.set])
    (refine tu 22 ?_;simp only[put_lit,List.set])
    (refine tu 23 ?_;simp only[put_lit,List.set])
    (refine tu 24 ?_;simp only[put_lit,List.set])
    (refine tq 25 ?_;simp only[put_lit,List.set])
    refine wpAnyH_done (by kernel_rfl) ?_ _
    have Hbx:=Lh (Hbw.out.trans (G3.out.mono Hbw.out.size))
    go_wp2_with fail
    go_ret
    exact ⟨.no FIN.out,Hb.out.trans (Hbx.out.mono Hb.out.size)⟩
  ·have t1:¬ (k:Int)<(la:Int):=by omega
   have hk2:k=la:=by omega
   subst hk2
   have Hk:=Lh (show ∀ i,i<rs.length->stLaw f rs i from fun i hi=>Hst.out i (by rw[<- Hrl.out];exact hi))
   have Hbx:=Hbw
   clear hlt
   go_wp2_with fail
   refine (all_q hI _ _ _ f _ HFr.out h9 (by omega)).mono ?_
   rintro e w3 ⟨rfl,hb3⟩
   replace Hbx:=Lh (Hbx.out.trans (hb3.mono Hbx.out.size))
   obtain ⟨NA,hNA⟩:∃ N,N=nall f:=⟨_,rfl⟩
   rw[<- hNA]
   have HNA:=Lh hNA
   clear hNA hb3
   by_cases hn:(k:Int)=NA
   ·have b1:((k:Int) == NA)=true:=by rw[hn];simp
    have FIN:=Lh (show CmplL f rs from ⟨by rw[Hrl.out,hn,HNA.out],Hk.out⟩)
    clear hn
    go_wp2_with fail
    go_ret
    exact ⟨.yes FIN.out,Hb.out.trans (Hbx.out.mono Hb.out.size)⟩
   ·have b1:((k:Int) == NA)=false:=by rw[beq_eq_false_iff_ne];exact hn
    have FIN:=Lh (show ¬ CmplL f rs from fun h=>hn (by rw[<- Hrl.out,HNA.out];exact h.1))
    clear hn
    go_wp2_with fail
    go_ret
    exact ⟨.no FIN.out,Hb.out.trans (Hbx.out.mono Hb.out.size)⟩
end Go.Proofs.YtpeiiomjnjemjaaGreat
namespace Go.Proofs.YtpeiiomjnjemjaaGreat
open Go Go.RowKit
def tri3 (f g h:List Int):Nat->List Int:=fun i=>if i=0 then f else if i=1 then g else h
theorem tri3_all {f g h:List Int} {p:List Int->Prop} (hf:p f) (hg:p g) (hh:p h):∀ i,p (tri3 f g h i):=fun i=>by
 unfold tri3
 split
 ·exact hf
 ·split
  ·exact hg
  ·exact hh
theorem short_cmf {w:World} {A:Option Addr} {l c:Nat} {p:List Int} (h:I16At w A l c p):Cmf (ptrim (p.take 5))/\(ptrim (p.take 5)).length<=5:=by
 obtain ⟨h1,h2,_,h4⟩:=short_bd h 5
 exact ⟨⟨h1,h4⟩,h2⟩
theorem lwk_len {F:Nat->List Int} {l:Nat} (hl:l<=3) (hF:∀ i,i<l->Cmf (F i)):∀ k,k<=l->(lwk F k).length<=14
 | 0,_=>(show 1<=14 by decide)
 | k+1,hk=>by
   have h1:=lwk_len hl hF k (by omega)
   have h2:=(cmi hl hF k (by omega)).ll
   have h3:=(hF k (by omega)).l
   show (lstep (lwk F k) (F k)).length<=14
   unfold lstep
   split
   ·exact h1
   ·have:=pmul_ln (ptrim (lwk F k)) (ptrim (F k))
    rw[ptrim_length,ptrim_length] at this
    omega
theorem lwk_root {F:Nat->List Int} {i:Nat} {x:Pt} (h0:plen (F i)≠0) (hx:sgp (F i) x=0):∀ k,i<k->sgp (lwk F k) x=0
 | 0,h=>by omega
 | k+1,h=>by
   show sgp (lstep (lwk F k) (F k)) x=0
   by_cases e:i=k
   ·subst e
    rw[lstep_sgp h0,hx,Int.mul_zero]
   ·have ih:=lwk_root h0 hx k (by omega)
    by_cases hk:plen (F k)=0
    ·unfold lstep
     rw[if_pos hk]
     exact ih
    ·rw[lstep_sgp hk,ih,Int.zero_mul]
theorem fls_get (F:Nat->List Int) (r:Fq×Fq) {l k:Nat} (hk:k<l):(fls F r l l).getD k false=van (qpart (F k)) r:=by
 rw[List.getD_eq_getElem?_getD,List.getElem?_eq_getElem (by rw[fls_len];exact hk)]
 simp[fls,hk]
theorem shr_zero (F:Nat->List Int):shr F 0=[]:=by
 have cm:=cmi (F:=F) (l:=0) (by omega) (fun i hi=>absurd hi (Nat.not_lt_zero i)) 0 (Nat.le_refl 0)
 have pq:=cm.pq (by omega)
 have h1:=proots_lt pq
 have h2:=(q_facts pq.q (by have:=cm.p1;omega)).l
 have h3:plen (prk F 0)=1:=rfl
 have h4:proots (prk F 0)=[]:=List.eq_nil_of_length_eq_zero (by omega)
 unfold shr
 rw[h4]
 rfl
theorem info_rt6:(Tryz.prog.info? 42).map (fun i=>(i.zero,i.size,i.bytes))=some (some (.agg #[.bool false,.slice none 0 0,.slice none 0 0,.bool false,.slice none 0 0,.slice none 0 0]),6,112):=by kernel_rfl
theorem pla_three {w:World} {Af Ag Ah:Option Addr} {lf cf lg cg lh ch:Nat} {f g h:List Int} (hf:PolyN w Af lf cf f) (hg:PolyN w Ag lg cg g) (hh:PolyN w Ah lh ch h):PlA (w.alloc (.cells #[.slice Af lf cf,.slice Ag lg cg,.slice Ah lh ch] 26)) (some ⟨w.heap.size,0,none⟩) 3 (tri3 f g h):=by
 have hb:=Blk.new w 26 #[.slice Af lf cf,.slice Ag lg cg,.slice Ah lh ch]
 have jb:=below_new w (.cells #[.slice Af lf cf,.slice Ag lg cg,.slice Ah lh ch] 26)
 refine .inr ⟨w.heap.size,0,rfl,hb.lt,fun j hj=>?_⟩
 rw[Nat.zero_add]
 match j,hj with
 | 0,_=>exact ⟨_,_,_,hb.cell 0,hf.below ikN jb⟩
 | 1,_=>exact ⟨_,_,_,hb.cell 1,hg.below ikN jb⟩
 | 2,_=>exact ⟨_,_,_,hb.cell 2,hh.below ikN jb⟩
theorem cm_rts {w:World} {t base:Nat} {v:Value} {us:List Value} {rs:List (Fq×Fq)} (h:OwnE Nd 6 t base w v us) (hl:Lay (RtV w) rs us):∃ A l c,v=.slice A l c/\RtsAt w A l c rs:=by
 obtain ⟨A,l,c,e,hs⟩:=h.sle (R:=RtV) (by decide) hl fun x vs hx=>hx.len
 refine ⟨A,l,c,e,hs.length,hs.cap,?_⟩
 rcases hs.elems with h0 | ⟨b,o,hA,hlt,hv⟩
 ·exact .inl h0
 ·exact .inr ⟨b,o,hA,hlt,hv⟩
theorem cm_ndz:∀ j,j<6->Nd ((Value.agg #[.bool false,.slice none 0 0,.slice none 0 0,.bool false,.slice none 0 0,.slice none 0 0]).cells[j]!):=fun j hj=>shz j (by omega) |> fun h=>by
 match j,hj with
 | 0,_=>exact nd_bool _
 | 1,_=>exact nd_slice _ _ _
 | 2,_=>exact nd_slice _ _ _
 | 3,_=>exact nd_bool _
 | 4,_=>exact nd_slice _ _ _
 | 5,_=>exact nd_slice _ _ _
theorem cm_mv {B:Nat} {t:TypeId} {w w':World} {v v':Value} {us vs:List Value} (h:GrE Nd 6 t B w v us vs v' w') (x:Fq×Fq) (ws:List Value) (hx:RtV w x ws):RtV w' x ws:=by
 rcases h.2 with ⟨g,n,n',cap,_,_,_,_,hc,hf⟩ | ⟨hb,_⟩
 ·exact hx.frs hf (fun o u hu=>(hc o u hu).1) (fun o u hu=>(hc o u hu).1)
 ·exact hx.below hb
theorem cm_take {R:Fq×Fq->List Value->Prop} {rs:List (Fq×Fq)} {k:Nat} {us vs:List Value} (h:Lay R (rs.take k) us) (hk:k<rs.length) (hx:R (rs.getD k r00) vs):Lay R (rs.take (k+1)) (us ++ vs):=by
 have e:rs.take (k+1)=rs.take k ++ [rs.getD k r00]:=by
  rw[List.take_succ_eq_append_getElem hk,List.getD_eq_getElem?_getD,List.getElem?_eq_getElem hk]
  rfl
 rw[e]
 exact h.app hx
set_option maxRecDepth 100000 in
set_option maxHeartbeats 16000000 in
theorem law_common (A0:Option Addr) (l0 c0:Nat) (p0:List Int) (A1:Option Addr) (l1 c1:Nat) (p1:List Int) (A2:Option Addr) (l2 c2:Nat) (p2:List Int) (w:World) (h0:I16At w A0 l0 c0 p0) (h1:I16At w A1 l1 c1 p1) (h2:I16At w A2 l2 c2 p2) (m0:l0<=9223372036854775807) (m1:l1<=9223372036854775807) (m2:l2<=9223372036854775807) :
 Calls Tryz.prog 3 #[.agg #[.slice A0 l0 c0,.slice A1 l1 c1,.slice A2 l2 c2]] w fun e w'=>e=.returned (.bool true)/\Below w.heap.size w w':=by
 have jb:=below_new w (.cells #[.slice A0 l0 c0,.slice A1 l1 c1,.slice A2 l2 c2] 23)
 have sF:=short_cmf h0
 have sG:=short_cmf h1
 have sH:=short_cmf h2
 obtain ⟨f0,hf0⟩:∃ F,F=ptrim (p0.take 5):=⟨_,rfl⟩
 obtain ⟨f1,hf1⟩:∃ G,G=ptrim (p1.take 5):=⟨_,rfl⟩
 obtain ⟨f2,hf2⟩:∃ H,H=ptrim (p2.take 5):=⟨_,rfl⟩
 rw[<- hf0] at sF
 rw[<- hf1] at sG
 rw[<- hf2] at sH
 obtain ⟨F,hF⟩:∃ F,F=tri3 f0 f1 f2:=⟨_,rfl⟩
 have CF:=Lh (show ∀ i,Cmf (F i)/\(F i).length<=5 from by rw[hF];exact tri3_all (p:=fun f=>Cmf f/\f.length<=5) sF sG sH)
 have HFe:=Lh hF
 have HE:=Lh (And.intro hf0.symm (And.intro hf1.symm hf2.symm))
 have HI:=Lh (And.intro (h0.below jb) (And.intro (h1.below jb) (h2.below jb)))
 have hx:=And.intro (show (w.alloc (.cells #[.slice A0 l0 c0,.slice A1 l1 c1,.slice A2 l2 c2] 23)).cell? ⟨w.heap.size,0,none⟩=some (.slice A0 l0 c0) by go_simp) (And.intro (show (w.alloc (.cells #[.slice A0 l0 c0,.slice A1 l1 c1,.slice A2 l2 c2] 23)).cell? ⟨w.heap.size,1,none⟩=some (.slice A1 l1 c1) by go_simp) (show (w.alloc (.cells #[.slice A0 l0 c0,.slice A1 l1 c1,.slice A2 l2 c2] 23)).cell? ⟨w.heap.size,2,none⟩=some (.slice A2 l2 c2) by go_simp))
 have lt:=show w.heap.size<(w.alloc (.cells #[.slice A0 l0 c0,.slice A1 l1 c1,.slice A2 l2 c2] 23)).heap.size by simp
 have Hx:=Lh hx
 have Hb:=Lh jb
 clear hf0 hf1 hf2 h0 h1 h2 hx jb sF sG sH hF
 obtain ⟨g1,hg1⟩:∃ g,g=w.heap.size:=⟨_,rfl⟩
 obtain ⟨wb,hwb⟩:∃ wb,wb=w.alloc (.cells #[.slice A0 l0 c0,.slice A1 l1 c1,.slice A2 l2 c2] 23):=⟨_,rfl⟩
 go_enter Tryz.func3,Tryz.ntmps3
 go_wp2_with fail
 rw[<- hwb,<- hg1] at Hx lt
 rw[<- hwb] at HI Hb ⊢
 rw[<- hg1]
 clear hwb hg1
 refine (awake16_any _).mono ?_
 rintro e w1 ⟨rfl,hb1⟩
 replace HI:=Lh (And.intro (HI.out.1.below hb1) (And.intro (HI.out.2.1.below hb1) (HI.out.2.2.below hb1)))
 replace Hx:=Lh (And.intro ((hb1.cell (p:=⟨g1,0,none⟩) lt).trans Hx.out.1) (And.intro ((hb1.cell (p:=⟨g1,1,none⟩) lt).trans Hx.out.2.1) ((hb1.cell (p:=⟨g1,2,none⟩) lt).trans Hx.out.2.2)))
 replace Hb:=Lh (Hb.out.trans (hb1.mono Hb.out.size))
 clear hb1
 have x0:=Hx.out.1;have x1:=Hx.out.2.1;have x2:=Hx.out.2.2
 go_wp2_with fail
 refine wp_region_held_drew (S:=fun w'=>w'.cell? ⟨g1,0,none⟩=some (.slice A0 l0 c0)/\w'.cell? ⟨g1,1,none⟩=some (.slice A1 l1 c1)/\w'.cell? ⟨g1,2,none⟩=some (.slice A2 l2 c2)) (by kernel_rfl) (by (try dsimp only);go_keep) (fun hHeld=>?_)
 have G0:=Lh (Below.refl w1.heap.size w1)
 (refine tq 0 ?_;simp only[put_lit,List.set])
 (refine tq 1 ?_;simp only[put_lit,List.set])
 (refine tq 3 ?_;simp only[put_lit,List.set])
 (refine tq 4 ?_;simp only[put_lit,List.set])
 (refine tq 6 ?_;simp only[put_lit,List.set])
 (refine tq 7 ?_;simp only[put_lit,List.set])
 (refine rdy 2 (fun K hK=>?_);go_simp)
 refine (short_any _ _ _ 5 _ _ (HI.out.1.below Bel.go) (by omega) m0).mono ?_
 rintro e w2 ⟨Af,lf,cf,rfl,h2f,hb2⟩
 rw[HE.out.1] at h2f
 have G2:=Lh ((Below.trans Bel.go (hb2.mono (by simp<;>omega))):Below w1.heap.size w1 w2)
 have HP:=Lh h2f
 clear h2f
 obtain ⟨hcx,hfx⟩:=bcellS hb2;refine hK.out _ _ ?_ (fun _=>?_);(focus (((try dsimp only);repeat' apply And.intro)<;>(rw[hcx _ (by go_simp)];go_simp)));clear hHeld hK K hcx hfx;rename_i hHeld;clear hb2
 (refine rdy 5 (fun K hK=>?_);go_simp)
 refine (short_any _ _ _ 5 _ _ ((HI.out.2.1.below G2.out).below Bel.go) (by omega) m1).mono ?_
 rintro e w3 ⟨Ag,lg,cg,rfl,h3f,hb3⟩
 rw[HE.out.2.1] at h3f
 have G3':=Lh ((Below.trans Bel.go (hb3.mono (by simp<;>omega))):Below w2.heap.size w2 w3)
 replace HP:=Lh (HP.out.below ikN G3'.out)
 have G3:=Lh (G2.out.trans (G3'.out.mono G2.out.size))
 have HQ:=Lh h3f
 clear h3f G3' G2
 obtain ⟨hcx,hfx⟩:=bcellS hb3;refine hK.out _ _ ?_ (fun _=>?_);(focus (((try dsimp only);repeat' apply And.intro)<;>(rw[hcx _ (by go_simp)];go_simp)));clear hHeld hK K hcx hfx;rename_i hHeld;clear hb3
 (refine rdy 8 (fun K hK=>?_);go_simp)
 refine (short_any _ _ _ 5 _ _ ((HI.out.2.2.below G3.out).below Bel.go) (by omega) m2).mono ?_
 rintro e w4 ⟨Ah,lh,ch,rfl,h4f,hb4⟩
 rw[HE.out.2.2] at h4f
 have G4':=Lh ((Below.trans Bel.go (hb4.mono (by simp<;>omega))):Below w3.heap.size w3 w4)
 replace HP:=Lh (HP.out.below ikN G4'.out)
 replace HQ:=Lh (HQ.out.below ikN G4'.out)
 have G4:=Lh (G3.out.trans (G4'.out.mono G3.out.size))
 have HR:=Lh h4f
 clear h4f G4' G3
 obtain ⟨hcx,hfx⟩:=bcellS hb4;refine hK.out _ _ ?_ (fun _=>?_);(focus (((try dsimp only);repeat' apply And.intro)<;>(rw[hcx _ (by go_simp)];go_simp)));clear hHeld hK K hcx hfx;rename_i hHeld;clear hb4
 refine rdy 9 (fun K hK=>?_);go_simp;refine hK.out _ _ ?_ (fun _=>?_);(focus ((try dsimp only);go_keep));clear hHeld hK K;rename_i hHeld;(try (simp only[put_lit,List.set]))
 (refine tq 10 ?_;simp only[put_lit,List.set])
 refine wpAnyH_done (by kernel_rfl) ?_ _
 replace Hb:=Lh (Hb.out.trans (G4.out.mono Hb.out.size))
 clear hHeld x0 x1 x2 Hx lt G4 G0 HI HE
 obtain ⟨gs,hgs⟩:∃ gs,gs=w4.heap.size:=⟨_,rfl⟩
 have hpl:=pla_three HP.out HQ.out HR.out
 have jb:=below_new w4 (.cells #[.slice Af lf cf,.slice Ag lg cg,.slice Ah lh ch] 26)
 rw[<- HFe.out,<- hgs] at hpl
 have hbn:=Hb.out.trans (jb.mono Hb.out.size)
 rw[<- hgs]
 obtain ⟨w5,hw5⟩:∃ w5,w5=w4.alloc (.cells #[.slice Af lf cf,.slice Ag lg cg,.slice Ah lh ch] 26):=⟨_,rfl⟩
 rw[<- hw5] at hpl hbn ⊢
 have HPL:=Lh hpl
 replace Hb:=Lh hbn
 clear hpl jb hbn hw5 hgs HP HQ HR HFe
 have jb:=below_new w5 (.cells #[.int .i64 1] 2)
 have hat:=one_at w5
 replace HPL:=Lh (HPL.out.below jb)
 replace Hb:=Lh (Hb.out.trans (jb.mono Hb.out.size))
 clear jb
 go_wp2_with fail
 refine (pof_any _ _ _ _ _ hat (by intro c hc;simp at hc;rw[hc];unfold I64;omega) (by omega)).mono ?_
 rintro e w6 ⟨A6,l6,c6,rfl,h6,hb6⟩
 have HP:=Lh (show PolyN w6 A6 l6 c6 (lwk F 0) from h6)
 replace HPL:=Lh (HPL.out.below hb6)
 replace Hb:=Lh (Hb.out.trans (hb6.mono Hb.out.size))
 clear h6 hb6 hat
 go_wp2_with fail
 obtain ⟨wq,hwq⟩:∃ wq,wq=w6:=⟨_,rfl⟩
 rw[<- hwq] at HP HPL Hb ⊢
 clear hwq
 go_loopw [4,5] (fun s4 s5 wr=>∃ k:Nat,k<=3/\s5=.int .i64 (k:Int)/\(∃ Ap lp cp,s4=.slice Ap lp cp/\PolyN wr Ap lp cp (lwk F k))/\Below wq.heap.size wq wr) (fun _ s5 _=>3-(intOf s5).toNat)
 case atStart=>exact ⟨0,by omega,rfl,⟨_,_,_,rfl,HP.out⟩,Bel.go⟩
 case round =>
  clear HP
  obtain ⟨k,hk,rfl,⟨Ap,lp,cp,rfl,hp⟩,hbw⟩:=hrel
  obtain ⟨wo,rfl⟩:∃ wo:World,wo=wr:=⟨_,rfl⟩
  have hFF:∀ i,i<3->Cmf (F i):=fun i _=>(CF.out i).1
  have cm:=cmi (Nat.le_refl 3) hFF k hk
  have pqL:=cm.pql hk
  have lL:=lwk_len (Nat.le_refl 3) hFF k hk
  have lP2:lp<=14:=by have:=hp.length;omega
  by_cases hlt:k<3
  ·have ka:(k:Int)<3:=by omega
   obtain ⟨bb,oo,e9,hbl,hcl⟩:=(HPL.out.below hbw).resolve_left (by omega)
   injection e9 with e9
   injection e9 with e9 e10 _
   subst e9 e10
   obtain ⟨Aj,lj,cj,e0,hf⟩:=hcl k hlt
   rw[Nat.zero_add] at e0
   have cf9:=(CF.out k).1
   have lj5:lj<=5:=by have:=hf.length;have:=(CF.out k).2;omega
   have sF:=cf9.p9.cp.fit
   have HFk:=Lh hf
   have HP:=Lh hp
   have Hbw:=Lh hbw
   have Hlt:=Lh hlt
   have iK:IntKind.i64.wrap ((k:Int)+1)=(k:Int)+1:=IntWalk.i64_in _ (by omega)
   clear hf hp hbw hcl cm hk
   go_wp2_with fail
   refine (degree_any _ _ _ _ _ (HFk.out.at_ ikN) sF.smp (by omega)).mono ?_
   rintro e w7 ⟨rfl,hb7⟩
   replace HFk:=Lh (HFk.out.below ikN hb7)
   replace HP:=Lh (HP.out.below ikN hb7)
   replace Hbw:=Lh (Hbw.out.trans (hb7.mono Hbw.out.size))
   replace e0:=((bcellS hb7).1 _ (by rw[e0];rfl)).trans e0
   clear hb7
   obtain ⟨D,hD⟩:∃ D,D=((plen (F k):Nat):Int)-1:=⟨_,rfl⟩
   rw[<- hD]
   by_cases h1:plen (F k)=0
   ·have d1:¬ 0<=D:=by omega
    have ep:lwk F (k+1)=lwk F k:=by
     show lstep (lwk F k) (F k)=_
     unfold lstep
     rw[if_pos h1]
    rw[<- ep] at HP
    clear h1 ep hD
    go_wp2_with fail
    go_roundw
    case rel=>exact ⟨k+1,Hlt.out,by go_num,⟨_,_,_,rfl,HP.out⟩,Hbw.out⟩
    case measure=>have:=Hlt.out;simp[intOf];omega
   ·have d1:0<=D:=by omega
    have ep:lwk F (k+1)=polymul (ptrim (lwk F k)) (ptrim (F k)):=by
     show lstep (lwk F k) (F k)=_
     unfold lstep
     rw[if_neg h1]
    have EP:=Lh ep
    clear h1 ep hD
    go_wp2_with fail
    refine (polymul_any ikN ikN _ _ _ (lwk F k) _ _ _ (F k) _ HP.out HFk.out pqL.fit sF (by omega) (by omega)).mono ?_
    rintro e w8 ⟨A8,l8,c8,rfl,h8,hb8⟩
    replace Hbw:=Lh (Hbw.out.trans (hb8.mono Hbw.out.size))
    have H8:=Lh (show PolyN w8 A8 l8 c8 (lwk F (k+1)) by rw[EP.out];exact h8)
    clear hb8 h8 e0 HFk HP
    go_wp2_with fail
    go_roundw
    case rel=>exact ⟨k+1,Hlt.out,by go_num,⟨_,_,_,rfl,H8.out⟩,Hbw.out⟩
    case measure=>have:=Hlt.out;simp[intOf];omega
  ·have hk3:k=3:=by omega
   subst hk3
   have HP:=Lh hp
   replace HPL:=Lh (HPL.out.below hbw)
   replace Hb:=Lh (Hb.out.trans (hbw.mono Hb.out.size))
   clear hp hbw hk hlt
   go_wp2_with fail
   refine (common_any _ 3 _ F _ HPL.out (Nat.le_refl 3) hFF (fun i _=>Nat.le_trans (CF.out i).2 (by omega))).mono ?_
   rintro e w9 ⟨⟨A9,l9,c9,rfl,h9⟩,hb9⟩
   have pqP:=cm.pq (Nat.le_refl 3)
   have P0:plen (prk F 3)≠0:=by have:=cm.p1;omega
   obtain ⟨RS,hRS⟩:∃ R,R=proots (prk F 3):=⟨_,rfl⟩
   have HCL:=Lh (show CmplL (lwk F 3) RS from by rw[hRS];exact cmpl_law pqL (proots_fqb pqP) (cmpl_same pqL pqP cm.r ⟨fun e=>absurd e (by have:=cm.l1;omega),fun e=>absurd e P0⟩))
   have HVN:=Lh (show ∀ k,k<3->∀ r∈RS,van (qpart (F k)) r=(decide (plen (F k)=0) || vld 1 (F k) r.1 r.2) from fun k hk r hr=>van_vld (CF.out k).1.p9 pqP P0 (fun h0 x hx=>(cm.r x).2 (lwk_root h0 hx 3 hk)) (by rw[<- hRS];exact hr))
   have hn12:RS.length<=12:=by rw[hRS];exact proots_le12 pqP
   have HFQ:=Lh (show ∀ r∈RS,FqB r.1/\FqB r.2 from by rw[hRS];exact proots_fqb pqP)
   have hs9:shr F 3=RS.map (fun r=>(r,fls F r 3 3)):=by unfold shr;rw[<- hRS]
   rw[hs9] at h9
   have hl9:l9=RS.length:=by rw[<- h9.length,List.length_map]
   have HL9:=Lh hl9
   have HS:=Lh h9
   replace HP:=Lh (HP.out.below ikN hb9)
   replace HPL:=Lh (HPL.out.below hb9)
   replace Hb:=Lh (Hb.out.trans (hb9.mono Hb.out.size))
   obtain ⟨wv,hwv⟩:∃ wv,wv=w9:=⟨_,rfl⟩
   rw[<- hwv] at HS HP HPL Hb ⊢
   have h912:l9<=12:=by omega
   obtain ⟨i0,hi0,hz0,hz1,hz2⟩:=info_parts info_rt6
   clear h9 hb9 hwv hs9 hRS P0 pqP cm hl9 hn12
   go_wp2_with fail
   go_loopw [7,8] (fun s7 s8 wr=>∃ i:Nat,i<=l9/\s8=.int .i64 (i:Int)/\(∃ us,OwnE Nd 6 42 wv.heap.size wr s7 us/\Lay (RtV wr) (RS.take i) us)/\Below wv.heap.size wv wr) (fun _ s8 _=>l9-(intOf s8).toNat)
   case atStart=>exact ⟨0,Nat.zero_le _,rfl,⟨[],OwnE.nil _ _ _ _ _,rfl⟩,Bel.go⟩
   case round =>
    obtain ⟨i,hi,rfl,⟨us,ho,hly⟩,hbw⟩:=hrel
    obtain ⟨wr',rfl⟩:∃ wr':World,wr'=wr:=⟨_,rfl⟩
    by_cases hlt:i<l9
    ·have ka:(i:Int)<(l9:Int):=by omega
     have i1:IntKind.i64.wrap ((i:Int)+1)=(i:Int)+1:=IntWalk.i64_in _ (by omega)
     have hkl:i<RS.length:=by rw[<- HL9.out];exact hlt
     obtain ⟨r,hr⟩:∃ r,r=RS.getD i r00:=⟨_,rfl⟩
     have hmem:r∈RS:=by rw[hr];exact getD_mem hkl r00
     obtain ⟨fa,fb⟩:=HFQ.out r hmem
     obtain ⟨b,o,rfl,hb0,hel⟩:=HS.out.elems.resolve_left (by omega)
     obtain ⟨vs,⟨us6,g',e7,⟨n,A,l',c',B,m,d,n',A',l2',c2',B',m',d',e6,z1,z2,z3,z4⟩,hB⟩,hcv⟩:=hel i (r,fls F r 3 3) (by rw[List.getElem?_map,List.getElem?_eq_getElem hkl,hr,List.getD_eq_getElem?_getD,List.getElem?_eq_getElem hkl];rfl)
     subst e6
     rw[e7] at hcv
     clear e7
     rw[show ((r,fls F r 3 3):(Fq×Fq)×List Bool).2.length=3 from fls_len F r 3 3] at hcv
     replace hB:BRw wv g' (fls F r 3 3):=hB
     have c0:=hcv 0 _ rfl
     have c1:=hcv 1 _ rfl
     have c2:=hcv 2 _ rfl
     have c3:=hcv 3 _ rfl
     have c4:=hcv 4 _ rfl
     have c5:=hcv 5 _ rfl
     have c6:=hcv 6 _ rfl
     rw[Nat.add_zero] at c0
     have HC:=Lh (And.intro c0 (And.intro c1 (And.intro c2 (And.intro c3 (And.intro c4 (And.intro c5 c6))))))
     have HBR:=Lh hB
     have Z:=Lh (And.intro (show IntN wv n A l' c' r.1.z from z1) (And.intro (show NatN wv B m d r.1.q from z2) (And.intro (show IntN wv n' A' l2' c2' r.2.z from z3) (show NatN wv B' m' d' r.2.q from z4))))
     clear hel hcv hB z1 z2 z3 z4 c0 c1 c2 c3 c4 c5 c6
     have e0:=(hbw.cell (p:=⟨b,o+i*7,none⟩) hb0).trans HC.out.1
     have e1:=(hbw.cell (p:=⟨b,o+i*7+1,none⟩) hb0).trans HC.out.2.1
     have e2:=(hbw.cell (p:=⟨b,o+i*7+2,none⟩) hb0).trans HC.out.2.2.1
     have e3:=(hbw.cell (p:=⟨b,o+i*7+3,none⟩) hb0).trans HC.out.2.2.2.1
     have e4:=(hbw.cell (p:=⟨b,o+i*7+4,none⟩) hb0).trans HC.out.2.2.2.2.1
     have e5:=(hbw.cell (p:=⟨b,o+i*7+5,none⟩) hb0).trans HC.out.2.2.2.2.2.1
     have hul:us.length=i*6:=by rw[hly.len fun x vs hx=>hx.len,List.length_take];omega
     have jb:=below_new wr' (.cells #[.bool n,.slice A l' c',.slice B m d,.bool n',.slice A' l2' c2',.slice B' m' d'] 42)
     have HX6:=Lh (show RtV (wr'.alloc (.cells #[.bool n,.slice A l' c',.slice B m d,.bool n',.slice A' l2' c2',.slice B' m' d'] 42)) r [.bool n,.slice A l' c',.slice B m d,.bool n',.slice A' l2' c2',.slice B' m' d'] from RtV.mk ((Z.out.1.below hbw).below jb) ((Z.out.2.1.below hbw).below jb) ((Z.out.2.2.1.below hbw).below jb) ((Z.out.2.2.2.below hbw).below jb))
     have HC6:=Lh (show ∀ (j:Nat) (v:Value),[.bool n,.slice A l' c',.slice B m d,.bool n',.slice A' l2' c2',.slice B' m' d'][j]?=some v->(wr'.alloc (.cells #[.bool n,.slice A l' c',.slice B m d,.bool n',.slice A' l2' c2',.slice B' m' d'] 42)).cell? ((⟨wr'.heap.size,0,none⟩:Addr).add j)=some v from arr_cell wr' #[.bool n,.slice A l' c',.slice B m d,.bool n',.slice A' l2' c2',.slice B' m' d'] 42)
     have O5:=Lh (And.intro (ho.below jb) (show Lay (RtV (wr'.alloc (.cells #[.bool n,.slice A l' c',.slice B m d,.bool n',.slice A' l2' c2',.slice B' m' d'] 42))) (RS.take i) us from hly.mono fun _ _ hx=>hx.below jb))
     have Hb6:=Lh (hbw.trans (jb.mono hbw.size))
     have Hsz:=Lh (show wv.heap.size<=(wr'.alloc (.cells #[.bool n,.slice A l' c',.slice B m d,.bool n',.slice A' l2' c2',.slice B' m' d'] 42)).heap.size from Hb6.out.size)
     have HKL:=Lh hkl
     have HRe:=Lh hr
     have Hlt:=Lh hlt
     clear jb ho hly hbw hkl hr hlt hi
     go_wp2_with (at_builtin;refine wpList_app_own rfl (.tmp 48) (.tmp 54) 34 42 rfl 6 i0 (.agg #[.bool false,.slice none 0 0,.slice none 0 0,.bool false,.slice none 0 0,.slice none 0 0]) Tryz.underlying34 hi0 hz0 hz1 (by rw[hz2];omega) rfl Nd (fun _ h=>h) cm_ndz (by decide) wv.heap.size _ us [.bool n,.slice A l' c',.slice B m d,.bool n',.slice A' l2' c2',.slice B' m' d'] rfl O5.out.1 Hsz.out ⟨wr'.heap.size,0,none⟩ 1 1 rfl rfl HC6.out (fun u hu=>HX6.out.nd u hu) (.inl (by decide)) (by rw[hul];simp;omega) 55 rfl ?_)
     intro v2 w10 hgr
     have hb10:=hgr.below Hsz.out
     have hly9:Lay (RtV w10) (RS.take (i+1)) (us ++ [.bool n,.slice A l' c',.slice B m d,.bool n',.slice A' l2' c2',.slice B' m' d']):=by
      have h1:Lay (RtV w10) (RS.take i) us:=O5.out.2.mono fun p ys hp=>cm_mv hgr p ys hp
      exact cm_take h1 HKL.out (by rw[<- HRe.out];exact cm_mv hgr _ _ HX6.out)
     have O9:=Lh (And.intro hgr.1 hly9)
     have HB10:=Lh (Hb6.out.trans hb10)
     have e6:=(HB10.out.cell (p:=⟨b,o+i*7+6,none⟩) hb0).trans HC.out.2.2.2.2.2.2
     clear hgr hb10 hly9 O5 Hb6 Hsz HC6 HX6 e0 e1 e2 e3 e4 e5
     go_wp2_with fail
     obtain ⟨wz,hwz⟩:∃ wz,wz=w10:=⟨_,rfl⟩
     rw[<- hwz] at O9 HB10 e6 ⊢
     clear hwz e6
     go_loopw [9] (fun s9 wi=>∃ k:Nat,k<=3/\s9=.int .i64 (k:Int)/\Below wz.heap.size wz wi) (fun s9 _=>3-(intOf s9).toNat)
     case atStart=>exact ⟨0,by omega,rfl,Bel.go⟩
     case round =>
      obtain ⟨k,hk,rfl,hbi⟩:=hrel
      obtain ⟨wi',rfl⟩:∃ wi':World,wi'=wr:=⟨_,rfl⟩
      have hw:=HB10.out.trans (hbi.mono HB10.out.size)
      by_cases hk3:k<3
      ·have kb:(k:Int)<3:=by omega
       have i2:IntKind.i64.wrap ((k:Int)+1)=(k:Int)+1:=IntWalk.i64_in _ (by omega)
       have e0:=(hw.cell (p:=⟨b,o+i*7,none⟩) hb0).trans HC.out.1
       have e1:=(hw.cell (p:=⟨b,o+i*7+1,none⟩) hb0).trans HC.out.2.1
       have e2:=(hw.cell (p:=⟨b,o+i*7+2,none⟩) hb0).trans HC.out.2.2.1
       have e3:=(hw.cell (p:=⟨b,o+i*7+3,none⟩) hb0).trans HC.out.2.2.2.1
       have e4:=(hw.cell (p:=⟨b,o+i*7+4,none⟩) hb0).trans HC.out.2.2.2.2.1
       have e5:=(hw.cell (p:=⟨b,o+i*7+5,none⟩) hb0).trans HC.out.2.2.2.2.2.1
       have e6:=(hw.cell (p:=⟨b,o+i*7+6,none⟩) hb0).trans HC.out.2.2.2.2.2.2
       have e7:=(HBR.out.below hw).cell (i:=k) (by rw[fls_len];exact hk3)
       obtain ⟨bb,oo,e9,hbl,hcl⟩:=(HPL.out.below hw).resolve_left (by omega)
       injection e9 with e9
       injection e9 with e9 e10 _
       subst e9 e10
       obtain ⟨Aj,lj,cj,e8,hf⟩:=hcl k hk3
       rw[Nat.zero_add] at e8
       have cf9:=(CF.out k).1
       have lj5:lj<=5:=by have:=hf.length;have:=(CF.out k).2;omega
       have lF5:(F k).length<=16:=by have:=(CF.out k).2;omega
       have sF:=cf9.p9.cp.fit.smp
       have pqF:=cf9.p9.pq
       have hv:=HVN.out k hk3 r hmem
       rw[fls_get F r hk3,hv] at e7
       obtain ⟨D,hD⟩:∃ D,D=((plen (F k):Nat):Int)-1:=⟨_,rfl⟩
       have HD:=Lh hD.symm
       have HFk:=Lh hf
       have Hbi:=Lh hbi
       have Hw:=Lh hw
       have Hk3:=Lh hk3
       clear hf hcl hbi hw hk hk3 hv
       by_cases h0:plen (F k)=0
       ·rw[decide_eq_true h0,Bool.true_or] at e7
        have d1:D<0:=by omega
        clear h0 hD
        go_wp2_with fail
        refine wp_region_held_drew (S:=fun w'=>(w'.cell? ⟨b,o+i*7,none⟩=some (.bool n)/\w'.cell? ⟨b,o+i*7+1,none⟩=some (.slice A l' c')/\w'.cell? ⟨b,o+i*7+2,none⟩=some (.slice B m d)/\w'.cell? ⟨b,o+i*7+3,none⟩=some (.bool n')/\w'.cell? ⟨b,o+i*7+4,none⟩=some (.slice A' l2' c2')/\w'.cell? ⟨b,o+i*7+5,none⟩=some (.slice B' m' d'))/\(w'.cell? ⟨b,o+i*7+6,none⟩=some (.slice (some ⟨g',0,none⟩) 3 3)/\w'.cell? ⟨g',k,none⟩=some (.bool true)/\w'.cell? ⟨gs,k,none⟩=some (.slice Aj lj cj))) (by kernel_rfl) (by (try dsimp only);go_keep) (fun hHeld=>?_)
        (refine tq 0 ?_;simp only[put_lit,List.set])
        (refine tq 1 ?_;simp only[put_lit,List.set])
        (refine tq 2 ?_;simp only[put_lit,List.set])
        (refine tq 3 ?_;simp only[put_lit,List.set])
        (refine tq 4 ?_;simp only[put_lit,List.set])
        (refine tq 5 ?_;simp only[put_lit,List.set])
        (refine tq 6 ?_;simp only[put_lit,List.set])
        (refine tq 7 ?_;simp only[put_lit,List.set])
        (refine tq 8 ?_;simp only[put_lit,List.set])
        (refine tq 9 ?_;simp only[put_lit,List.set])
        (refine tq 10 ?_;simp only[put_lit,List.set])
        (refine tq 11 ?_;simp only[put_lit,List.set])
        refine rdy 12 (fun K hK=>?_);go_simp;refine (degree_any _ _ _ (F k) _ ((HFk.out.below ikN Bel.go).at_ ikN) sF (by omega)).mono ?_;rw[HD.out];rintro e w11 ⟨rfl,hb11⟩;obtain ⟨hcx,hfx⟩:=bcellS hb11;replace Hbi:=Lh (Hbi.out.trans ((Below.trans Bel.go (hb11.mono (by simp<;>omega))).mono Hbi.out.size));replace Hw:=Lh (Hw.out.trans ((Below.trans Bel.go (hb11.mono (by simp<;>omega))).mono Hw.out.size));replace HFk:=Lh (HFk.out.below ikN (Below.trans Bel.go (hb11.mono (by simp<;>omega))));refine hK.out _ _ ?_ (fun _=>?_);(focus (((try dsimp only);repeat' apply And.intro)<;>(rw[hcx _ (by go_simp)];go_simp)));clear hHeld hK K hcx hfx;rename_i hHeld;clear hb11
        (refine tq 13 ?_;simp only[put_lit,List.set])
        (refine tq 14 ?_;simp only[put_lit,List.set])
        (refine tu 15 ?_;simp only[put_lit,List.set])
        (refine tu 16 ?_;simp only[put_lit,List.set])
        (refine tu 17 ?_;simp only[put_lit,List.set])
        (refine tu 18 ?_;simp only[put_lit,List.set])
        (refine tu 19 ?_;simp only[put_lit,List.set])
        (refine tu 20 ?_;simp only[put_lit,List.set])
        (refine tu 21 ?_;simp only[put_lit,List.set])
        (refine tu 22 ?_;simp only[put_lit,List.set])
        (refine tu 23 ?_;simp only[put_lit,List.set])
        (refine tu 24 ?_;simp only[put_lit,List.set])
        (refine tq 25 ?_;simp only[put_lit,List.set])
        (refine tq 26 ?_;simp only[put_lit,List.set])
        refine wpAnyH_done (by kernel_rfl) ?_ _
        clear hHeld
        go_wp2_with fail
        go_roundw
        case rel=>exact ⟨k+1,Hk3.out,by go_num,Hbi.out⟩
        case measure=>have:=Hk3.out;simp[intOf];omega
       ·rw[decide_eq_false h0,Bool.false_or] at e7
        obtain ⟨VV,hVV⟩:∃ V,V=vld 1 (F k) r.1 r.2:=⟨_,rfl⟩
        rw[<- hVV] at e7
        have HVV:=Lh hVV.symm
        have d1:decide (D<0)=false:=decide_eq_false (by omega)
        clear h0 hD hVV
        go_wp2_with fail
        refine wp_region_held_drew (S:=fun w'=>(w'.cell? ⟨b,o+i*7,none⟩=some (.bool n)/\w'.cell? ⟨b,o+i*7+1,none⟩=some (.slice A l' c')/\w'.cell? ⟨b,o+i*7+2,none⟩=some (.slice B m d)/\w'.cell? ⟨b,o+i*7+3,none⟩=some (.bool n')/\w'.cell? ⟨b,o+i*7+4,none⟩=some (.slice A' l2' c2')/\w'.cell? ⟨b,o+i*7+5,none⟩=some (.slice B' m' d'))/\(w'.cell? ⟨b,o+i*7+6,none⟩=some (.slice (some ⟨g',0,none⟩) 3 3)/\w'.cell? ⟨g',k,none⟩=some (.bool VV)/\w'.cell? ⟨gs,k,none⟩=some (.slice Aj lj cj))) (by kernel_rfl) (by (try dsimp only);go_keep) (fun hHeld=>?_)
        (refine tq 0 ?_;simp only[put_lit,List.set])
        (refine tq 1 ?_;simp only[put_lit,List.set])
        (refine tq 2 ?_;simp only[put_lit,List.set])
        (refine tq 3 ?_;simp only[put_lit,List.set])
        (refine tq 4 ?_;simp only[put_lit,List.set])
        (refine tq 5 ?_;simp only[put_lit,List.set])
        (refine tq 6 ?_;simp only[put_lit,List.set])
        (refine tq 7 ?_;simp only[put_lit,List.set])
        (refine tq 8 ?_;simp only[put_lit,List.set])
        (refine tq 9 ?_;simp only[put_lit,List.set])
        (refine tq 10 ?_;simp only[put_lit,List.set])
        (refine tq 11 ?_;simp only[put_lit,List.set])
        refine rdy 12 (fun K hK=>?_);go_simp;refine (degree_any _ _ _ (F k) _ ((HFk.out.below ikN Bel.go).at_ ikN) sF (by omega)).mono ?_;rw[HD.out];rintro e w11 ⟨rfl,hb11⟩;obtain ⟨hcx,hfx⟩:=bcellS hb11;replace Hbi:=Lh (Hbi.out.trans ((Below.trans Bel.go (hb11.mono (by simp<;>omega))).mono Hbi.out.size));replace Hw:=Lh (Hw.out.trans ((Below.trans Bel.go (hb11.mono (by simp<;>omega))).mono Hw.out.size));replace HFk:=Lh (HFk.out.below ikN (Below.trans Bel.go (hb11.mono (by simp<;>omega))));refine hK.out _ _ ?_ (fun _=>?_);(focus (((try dsimp only);repeat' apply And.intro)<;>(rw[hcx _ (by go_simp)];go_simp)));clear hHeld hK K hcx hfx;rename_i hHeld;clear hb11
        (refine tq 13 ?_;simp only[put_lit,List.set])
        (refine tq 14 ?_;simp only[put_lit,List.set])
        (refine tq 15 ?_;simp only[put_lit,List.set])
        (refine tq 16 ?_;simp only[put_lit,List.set])
        (refine tq 17 ?_;simp only[put_lit,List.set])
        (refine tq 18 ?_;simp only[put_lit,List.set])
        (refine tq 19 ?_;simp only[put_lit,List.set])
        (refine tq 20 ?_;simp only[put_lit,List.set])
        (refine tq 21 ?_;simp only[put_lit,List.set])
        (refine tq 22 ?_;simp only[put_lit,List.set])
        (refine tq 23 ?_;simp only[put_lit,List.set])
        refine rdy 24 (fun K hK=>?_);go_simp
        refine (lawvalid_any ikN _ _ _ (F k) r.1 r.2 _ _ _ _ _ _ _ _ _ _ _ _ _ _ _ (HFk.out.below ikN Bel.go) lF5 pqF ((Z.out.1.below Hw.out).below Bel.go) ((Z.out.2.1.below Hw.out).below Bel.go) ((Z.out.2.2.1.below Hw.out).below Bel.go) ((Z.out.2.2.2.below Hw.out).below Bel.go) fa fb).mono ?_
        rw[HVV.out]
        rintro e w12 ⟨rfl,hb12⟩
        obtain ⟨hcx,hfx⟩:=bcellS hb12
        replace Hbi:=Lh (Hbi.out.trans ((Below.trans Bel.go (hb12.mono (by simp<;>omega))).mono Hbi.out.size))
        refine hK.out _ _ ?_ (fun _=>?_)
        ·((try dsimp only);repeat' apply And.intro)<;>(rw[hcx _ (by go_simp)];go_simp)
        clear hHeld hK K hcx hfx;rename_i hHeld
        clear hb12
        (refine tq 25 ?_;simp only[put_lit,List.set])
        (refine tq 26 ?_;simp only[put_lit,List.set])
        refine wpAnyH_done (by kernel_rfl) ?_ _
        clear hHeld HFk HVV
        go_wp2_with fail
        go_roundw
        case rel=>exact ⟨k+1,Hk3.out,by go_num,Hbi.out⟩
        case measure=>have:=Hk3.out;simp[intOf];omega
      ·have hk33:k=3:=by omega
       subst hk33
       have Hbi:=Lh hbi
       have Hw:=Lh hw
       clear hbi hw hk hk3
       go_wp2_with fail
       go_roundw
       case rel=>exact ⟨i+1,Hlt.out,by go_num,⟨_,O9.out.1.below Hbi.out,O9.out.2.mono fun _ _ hx=>hx.below Hbi.out⟩,Hw.out⟩
       case measure=>have:=Hlt.out;simp[intOf];omega
    ·have hi2:i=l9:=by omega
     have t1:¬ (l9:Int)<(l9:Int):=by omega
     obtain ⟨A10,l10,c10,e10,hrt⟩:=cm_rts ho hly
     subst e10
     rw[hi2,HL9.out,List.take_length] at hrt
     rw[hi2]
     have l10b:l10<=1000:=by have:=hrt.length;have:=HL9.out;omega
     have HR:=Lh hrt
     have HPx:=Lh (HP.out.below ikN hbw)
     have Hbx:=Lh (Hb.out.trans (hbw.mono Hb.out.size))
     clear ho hly hrt hbw hi2 hlt hi
     go_wp2_with fail
     refine (lawcomplete_any ikN _ _ _ (lwk F 3) _ _ _ RS _ HPx.out (by omega) pqL HR.out HFQ.out l10b).mono ?_
     rintro e w20 ⟨he,hb20⟩
     obtain rfl:=he.get HCL.out
     replace Hbx:=Lh (Hbx.out.trans (hb20.mono Hbx.out.size))
     clear he hb20
     go_wp2_with fail
     refine (common_any none 0 0 F _ (.inl rfl) (by omega) (fun i hi=>absurd hi (Nat.not_lt_zero i)) (fun i hi=>absurd hi (Nat.not_lt_zero i))).mono ?_
     rintro e w21 ⟨⟨A21,l21,c21,rfl,h21⟩,hb21⟩
     have hl21:l21=0:=by rw[<- h21.length,shr_zero];rfl
     subst hl21
     replace Hbx:=Lh (Hbx.out.trans (hb21.mono Hbx.out.size))
     clear h21 hb21
     go_wp2_with fail
     go_ret
     exact ⟨rfl,Hbx.out⟩
end Go.Proofs.YtpeiiomjnjemjaaGreat
namespace Go.Proofs.YtpeiiomjnjemjaaGreat
open Go.ChangeShapes Go.WideShapes Go.ChangeAt Go.RowKit
set_option maxRecDepth 100000 in
theorem common_lifted (os:Os) (started:os.Started) (H:Type) (enc:TypeId×Value->H) :
 ReturnsInHanded {} Tryz.checked os 3 .any (Rows.isolateCommonSpec.pre6 enc Tryz.prog Tryz.f3 Rows.isolateCommonRow.domain false) (Rows.isolateCommonSpec.post enc Tryz.prog Tryz.f3 false true false false):=by
 refine returnsInHanded_of_change (C:=Tryz.checked) Tryz.own started (by kernel_rfl) Tryz.func3
  (ChangeSpec.witness6 (enc:=enc) (C:=Tryz.checked) false ⟨#[],#[.agg #[.slice none 0 0,.slice none 0 0,.slice none 0 0]],[]⟩ 8 (by kernel_rfl) (by kernel_rfl) (by kernel_rfl) (by kernel_rfl)) ?_
 intro W base args ds gs before hval0 hW hcnd _
 exact lifted_arr16 _ Tryz.f3 Tryz.params3 rfl enc _ rfl (fun _=>rfl) (fun A0 l0 c0 p0 A1 l1 c1 p1 A2 l2 c2 p2 w h0 h1 h2 m0 m1 m2=>law_common A0 l0 c0 p0 A1 l1 c1 p1 A2 l2 c2 p2 w h0 h1 h2 m0 m1 m2) W args ds gs before hval0 hW
theorem isolateCommon_holds:Rows.IsolateCommonSaid :=
 OpenClaim.holds_of_wide 3 Tryz.f3 rfl rfl rfl rfl rfl rfl rfl ⟨rfl,rfl,rfl,rfl,rfl⟩ rfl rfl rfl rfl rfl (by kernel_rfl) Tryz.func3 (by kernel_rfl)
  (of_decide_eq_true (by kernel_rfl)) (by unfold Func.isWrapper;first | (rw[if_pos (by decide +kernel)];kernel_rfl) | (rw[if_neg (by decide +kernel)];exact ⟨rfl,rfl⟩))
  (fun os started H enc _=>common_lifted os started H enc)
#print axioms isolateCommon_holds
end Go.Proofs.YtpeiiomjnjemjaaGreat
