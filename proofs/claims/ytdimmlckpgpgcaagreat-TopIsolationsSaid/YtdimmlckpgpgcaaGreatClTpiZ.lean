/- For every polynomial the law TopIsolations returns true and its argument reads as before: isolation by the chain and by the rule of signs find the same roots. No condition. -/
import Derived.Test.YtdimmlckpgpgcaaGreatRowP
import Derived.Test.YtdimmlckpgpgcaaGreatFew
import Derived.Deep.SlicePairs
import Derived.Test.YtdimmlckpgpgcaaGreatSqw
import Derived.Test.YtdimmlckpgpgcaaGreatIvp
import Derived.Test.YtdimmlckpgpgcaaGreatHfp
import Derived.Test.YtdimmlckpgpgcaaGreatLes
import Derived.Test.YtdimmlckpgpgcaaGreatDer
import Derived.Test.YtdimmlckpgpgcaaGreatIdP
import Derived.Test.YtdimmlckpgpgcaaGreatRatD
import Derived.Test.YtdimmlckpgpgcaaGreatPow
import Derived.Test.YtdimmlckpgpgcaaGreatAwl
import Derived.Test.YtdimmlckpgpgcaaGreatRbH
import Derived.Test.YtdimmlckpgpgcaaGreatHdy
import Derived.Test.YtdimmlckpgpgcaaGreatMlt
import Derived.Test.YtdimmlckpgpgcaaGreatStg
import Derived.Test.YtdimmlckpgpgcaaGreatSte
import Derived.Test.YtdimmlckpgpgcaaGreatGti
import Derived.Test.YtdimmlckpgpgcaaGreatSta
import Derived.Test.YtdimmlckpgpgcaaGreatRpg
import Derived.Test.YtdimmlckpgpgcaaGreatIsy
import Derived.Test.YtdimmlckpgpgcaaGreatIsv
namespace Go.Proofs.YtdimmlckpgpgcaaGreat
open Go.ChangeShapes Go.WideShapes Go.ChangeAt Go.RowKit
theorem Tryz.cellsInt:Tryz.prog.cellsOf 35=2:=by kernel_rfl
theorem Tryz.cellsNat:Tryz.prog.cellsOf 33=1:=by kernel_rfl
theorem Tryz.cellsBool:Tryz.prog.cellsOf 4=1:=by kernel_rfl
theorem Tryz.cellsU32:Tryz.prog.cellsOf 99=1:=by kernel_rfl
theorem asD {n:Int} (h:(Lit.int .u32 n).wf=true):0<=n/\n<4294967296:=by
 have h1:IntKind.u32.min=0:=rfl
 have h2:IntKind.u32.max=4294967295:=rfl
 simp only[Lit.wf,Bool.and_eq_true,decide_eq_true_eq] at h
 omega
theorem ao2 {H:Type} {enc:TypeId×Value->H} {W:World} {fuel:Nat} {v:Value} {x:DataW H×List MemPlace}
 (h:DataW.trod enc Tryz.prog W 0 (fun _=>true) true fuel 33 [v]=some x) (hlt:∀ y∈x.2,y.block<W.heap.size) :
 ∃ A l c ds,v=.slice A l c/\aaJ W A l c ds:=by
 rcases open_ints Tryz.underlying33 Tryz.underlying99 Tryz.cellsU32 h with ⟨hcs,hx⟩ | ⟨a,len',cap',zs,hcs,_,hl,hm,hz,hx,hcell,hwz⟩
 ·simp at hcs
  exact ⟨none,0,0,[],hcs,aaJ.nil _ _ _⟩
 ·simp at hcs
  simp only[if_true] at hz
  refine ⟨some a,len',cap',(zs.take len').map Int.toNat,hcs,⟨by rw[List.length_map,List.length_take];omega,hl,?_,?_⟩⟩
  ·intro d hd
   obtain ⟨n,hn,rfl⟩:=List.mem_map.1 hd
   have:=asD (hwz n (List.mem_of_mem_take hn))
   rw[aao];omega
  ·by_cases hl0:len'=0
   ·exact .inl hl0
   ·obtain ⟨b,off,spot⟩:=a
    have hspot:spot=none:=by simpa [Addr.add] using World.cell?_spot (hcell 0 (by omega))
    subst hspot
    have hbW:b<W.heap.size:=by
     refine hlt (.cell b off) ?_
     rw[hx]
     exact MemPlace.mem_row.2 ⟨0,by omega,by simp⟩
    refine .inr ⟨b,off,rfl,hbW,fun j hj=>?_⟩
    have h1:=hcell j (by omega)
    rw[show (⟨b,off,none⟩:Addr).add j=⟨b,off+j,none⟩ by simp[Addr.add]] at h1
    rw[h1]
    have h2:=asD (hwz (zs.getD j 0) (by rw[List.getD_eq_getElem?_getD,List.getElem?_eq_getElem (by omega)];exact List.getElem_mem _))
    have h3:((zs.take len').map Int.toNat).getD j 0=(zs.getD j 0).toNat:=by
     simp[List.getD_eq_getElem?_getD,hj,List.getElem?_eq_getElem (show j<zs.length by omega)]
    rw[h3,Int.toNat_of_nonneg h2.1]
theorem ao3 {H:Type} {enc:TypeId×Value->H} {W:World} {A:Option Addr} {len cap:Nat} {d:DataW H} {p:List MemPlace}
 (h:DataW.Trod enc Tryz.prog W 0 (fun _=>true) true 23 (.slice A len cap) d p) (hlt:∀ x∈p,x.block<W.heap.size) :
 ∃ zs,aaw ak1 W A len cap zs:=by
 obtain ⟨fuel,hf⟩:=h
 rcases Go.Deep.open_slice_pairs Tryz.underlying23 Tryz.underlying35 Tryz.cellsInt rfl rfl Tryz.cellsBool Tryz.cellsNat hf with ⟨hcs,hx⟩ | ⟨a,len',cap',m,n,V0,V1,D0,D1,P0,P1,hcs,_,hl,hm,hmm,hx,hall⟩
 ·simp[Value.cells] at hcs
  obtain ⟨rfl,rfl,rfl⟩:=hcs
  exact ⟨[],aaw.nil _ _ _ _⟩
 ·simp[Value.cells] at hcs
  obtain ⟨rfl,rfl,rfl⟩:=hcs
  simp only[if_true] at hmm
  subst hmm
  simp only[Prod.mk.injEq] at hx
  have hp:=hx.2
  have each:∀ i,i<len->∃ neg Aj lj cj,∃ z:Int,V0 i=.bool neg/\V1 i=.slice Aj lj cj/\ak1 W neg Aj lj cj z:=fun i hi=>by
   obtain ⟨_,_,h0,h1⟩:=hall i (by omega)
   obtain ⟨neg,hv0,_⟩:=DataW.trod_bool Tryz.underlying4 h0
   obtain ⟨Aj,lj,cj,ds,hv1,hd⟩:=ao2 h1 (fun y hy=>hlt y (by
    rw[hp]
    exact List.mem_append.2 (.inr (List.mem_flatMap.2 ⟨i,List.mem_range.2 (by omega),List.mem_append.2 (.inr hy)⟩))))
   refine ⟨neg,Aj,lj,cj,sgn neg (val ds),by simpa using hv0,hv1,⟨ds,hd,(afT _ _).symm⟩,by rw[afT]⟩
  have ez:∃ zf:Nat->Int,∀ i,i<len->∃ neg Aj lj cj,V0 i=.bool neg/\V1 i=.slice Aj lj cj/\ak1 W neg Aj lj cj (zf i) :=
   ⟨fun i=>if hi:i<len then (each i hi).choose_spec.choose_spec.choose_spec.choose_spec.choose else 0,fun i hi=>by
     obtain ⟨h1,h2,h3⟩:=(each i hi).choose_spec.choose_spec.choose_spec.choose_spec.choose_spec
     exact ⟨_,_,_,_,h1,h2,by simp only[dif_pos hi];exact h3⟩⟩
  obtain ⟨zf,hzf⟩:=ez
  refine ⟨(List.range len).map zf,by simp,hl,?_⟩
  by_cases hl0:len=0
  ·exact .inl hl0
  ·obtain ⟨b,off,spot⟩:=a
   have hspot:spot=none:=by simpa [Addr.add] using World.cell?_spot (hall 0 (by omega)).1
   subst hspot
   have hbW:b<W.heap.size:=by
    refine hlt (.cell b off) ?_
    rw[hp]
    exact List.mem_append.2 (.inl (MemPlace.mem_row.2 ⟨0,by omega,by simp⟩))
   refine .inr ⟨b,off,rfl,hbW,fun j hj=>?_⟩
   obtain ⟨neg,Aj,lj,cj,h1,h2,h3⟩:=hzf j hj
   obtain ⟨c0,c1,_,_⟩:=hall j (by omega)
   rw[show (⟨b,off,none⟩:Addr).add (j*2)=⟨b,off+j*2,none⟩ by simp[Addr.add],h1] at c0
   rw[show (⟨b,off,none⟩:Addr).add (j*2+1)=⟨b,off+j*2+1,none⟩ by simp[Addr.add];omega,h2] at c1
   refine ⟨neg,Aj,lj,cj,c0,c1,?_⟩
   have e:((List.range len).map zf).getD j 0=zf j:=by simp[List.getD_eq_getElem?_getD,hj]
   rw[e];exact h3
end Go.Proofs.YtdimmlckpgpgcaaGreat
namespace Go.Proofs.YtdimmlckpgpgcaaGreat
open Go.ChangeShapes Go.WideShapes Go.ChangeAt Go.RowKit
theorem ayc {w:World} {A:Option Addr} {len cap:Nat} {p:List Int} (h:ayN w 9 1 A len cap p):P9 p/\p.length<=9/\∀ j,(p.getD j 0).natAbs<=BB^1:=by
 have hl:p.length<=9:=by have h2:=h.at_.length;have h3:=h.le;omega
 have hb:∀ j,(p.getD j 0).natAbs<=BB^1:=fun j=>by
  have:=h.lt j
  omega
 exact ⟨⟨Nat.le_trans (aas p) hl,fun j=>Nat.le_trans (hb j) (abf (by decide))⟩,hl,hb⟩
set_option maxRecDepth 100000 in
theorem akE (f:Nat) (fn:Func) (hp:fn.params=#[23]) (hr:fn.resultTypes=#[4]) {H:Type} (enc:TypeId×Value->H) (spec:ChangeSpec) (hsv:spec.vars=[]) (hsf:∀ d,spec.fn H [d]={ results:=[.lit (.bool true)],args:=[d] })
 (walk:∀ A len cap p w,aaw ak1 w A len cap p->Calls Tryz.prog f #[.slice A len cap] w fun e w'=>e=.returned (.bool true)/\Below w.heap.size w w')
 (W:World) (args:Array Value) (ds gs:List (DataW H)) (before:List MemPlace)
 (hval:∀ (j:Nat) t v,fn.params[j]?=some t->args[j]?=some v->Value.okWide Tryz.prog W .any 0 t v)
 (hW:DataW.Whole enc Tryz.prog fn.params.toList spec.vars false W args.toList ds gs before) :
 Calls Tryz.prog f args W fun e W'=>∃ v,e=Ending.returned v/\spec.post enc Tryz.prog fn false true false false W args v W':=by
 have hW':=hW
 obtain ⟨p,q,hA0,hV,rfl,_,_⟩:=hW
 have hA:DataW.TrodAll enc Tryz.prog W 0 (fun _=>true) true fn.params.toList args.toList ds p:=hA0
 rw[hp] at hA hval
 obtain ⟨v0,d0,rfl,rfl,h0⟩:=trodAll_one hA
 rw[hsv] at hV
 obtain ⟨rfl,rfl⟩:=trodVars_none hV
 obtain ⟨a0,len,cap,rfl⟩:=okWide_slice Tryz.underlying23 (hval 0 23 v0 rfl rfl)
 simp only[List.append_nil] at hW'
 have hlt:∀ x∈p,x.block<W.heap.size:=fun x hx=>by simpa using hW'.lt x hx
 obtain ⟨zs,hat⟩:=ao3 h0 hlt
 refine (walk a0 len cap zs W hat).mono fun e W' ⟨he,hb⟩=>?_
 subst he
 refine ⟨_,rfl,anQ (pa:=p) (pv:=[]) hW' (fun _ _ _=>?_) (fun sp hs=>?_) (fun _ _=>?_) (by simp) hb ?_⟩
 ·rw[List.append_nil,hsf,hr]
  exact trodAll_mk1 (shut_bool Tryz.underlying4 _)
 ·rw[List.append_nil,hsf,hp]
  exact trodAll_mk1 (Go.WideElems.Trod_stays Tryz.laidOut (by kernel_rfl) (of_decide_eq_true (by kernel_rfl)) h0 (fun x hx=>hb.same (hlt x hx)) hs)
 ·rw[hsv,List.append_nil,hsf]
  rfl
 ·exact ok_one hr rfl (okWide_bool_mk Tryz.underlying4 _)
end Go.Proofs.YtdimmlckpgpgcaaGreat
namespace Go.Proofs.YtdimmlckpgpgcaaGreat
open Go Go.RowKit
section
variable {Q f:List Int} {x:Pt} {r s:Fq×Fq}
theorem ajE (q0:aac Q≠0):adv Q Q (aei Q):=by
 have h:=ahB (f:=Q) (g:=[]) (.inr (.inl rfl))
 have e:gres Q []=aei Q:=by unfold gres;rw[if_neg q0,if_pos (show aac []=0 from rfl)]
 rw[e] at h
 have hj:adv Q [] (aei Q):=(h.resolve_left (fun h=>q0 h.1)).2
 obtain ⟨c,u,v,hc,ec⟩:=hj.c
 refine ⟨hj.trim,hj.lead,?_,hj.l,hj.l,c,u,[],hc,fun x=>?_⟩
 ·rw[hj.cont,Nat.gcd_self]
  exact Nat.gcd_zero_right _
 ·rw[ec x,abt]
  simp
theorem al3 (h9:P9 Q):as3 Q Q:=by
 have hb:∀ j,(Q.getD j 0).natAbs<=BB^80:=fun j=>Nat.le_trans (h9.b j) (abf (a:=10) (b:=80) (by decide))
 exact as7 (by have:=h9.len;omega) hb hb
theorem ahP (h9:P9 Q) (q0:aac Q≠0):gres Q Q=aei Q :=
 (((ahB (al3 h9)).resolve_left (fun h=>q0 h.1)).2).unique (ajE q0)
theorem al4 (h9:P9 Q) (q0:aac Q≠0):P9 (gres Q Q):=by
 rw[ahP h9 q0]
 refine ⟨Nat.le_trans (ad6 (ajE q0).l q0) h9.len,fun j=>?_⟩
 rcases af8 Q with ⟨h,_⟩ | ⟨h,_⟩
 ·rw[h j];exact h9.b j
 ·rw[h j,Int.natAbs_neg];exact h9.b j
theorem asb (h9:P9 Q) (q0:aac Q≠0):(gres Q Q).length<=9:=by
 have h:=(ahB (al3 h9)).resolve_left (fun h=>q0 h.1)
 rw[<- h.2.trim,aae]
 exact (al4 h9 q0).len
theorem aqz {f g d:List Int} (h:acT f g d) {x:Pt} (h1:sgp f x=0) (h2:sgp g x=0):sgp d x=0:=by
 obtain ⟨c,u,v,hc,e⟩:=h
 have v1:Van x 1 f:=fun i hi=>by obtain rfl:i=0:=by omega
                                 exact h1
 have v2:Van x 1 g:=fun i hi=>by obtain rfl:i=0:=by omega
                                 exact h2
 have h3:Van x 1 (psc c d):=((v1.mul u).add (v2.mul v)).ev fun t=>by rw[aaG,abU,aat,aat,e]
 exact (h3.apu hc) 0 (by omega)
theorem aou (h9:P9 Q) (q0:aac Q≠0) {a b:Fq} (ha:0<a.q) (hb:0<b.q) (hx:sgp Q x=0) (l1:a.p<x) (l2:x<b.p):0<afL (gres Q Q) a.z a.q b.z b.q:=by
 have hi:=ajE q0
 have hab:a.v<b.v:=Pt.aaH.1 (Pt.lt_trans l1 l2)
 have g0:aac (gres Q Q)≠0:=by rw[ahP h9 q0];exact hi.ne
 obtain ⟨xs,hl⟩:=abj g0 (fun y=>a.p<y/\(y<b.p∨y=b.p))
 rw[ahI (al4 h9 q0).pq g0 ha hb ((ahO ha hb).2 hab) hl]
 have hg:sgp (gres Q Q) x=0:=by rw[ahP h9 q0];exact aqz hi.c hx hx
 have:=(hl.2 x).2 ⟨hg,l1,.inl l2⟩
 have:=List.length_pos_of_mem this
 omega
theorem auP (h9:P9 f) (h0:aac f≠0) (h1:∀ j,(f.getD j 0).natAbs<=BB^1):P9 (aaP f) :=
 ⟨Nat.le_trans h9.aqa h9.len,fun j=>Nat.le_trans ((acL h9.pq.q h0).b 1 (fun j=>Nat.le_trans (acK f j) (h1 j)) j) (abf (by decide))⟩
def awL (r s:Fq×Fq):Fq:=if 0<acO s.1 r.1 then s.1 else r.1
def awM (r s:Fq×Fq):Fq:=if acO s.2 r.2<0 then s.2 else r.2
theorem aqA (h:ahV f x r.1 r.2) (hn:¬ acO r.1 r.2=0) (p1:0<r.1.q) (p2:0<r.2.q):r.1.p<x/\x<r.2.p:=by
 rcases h.2 with h | h
 ·exact absurd ((acN p1 p2).2 h.1) hn
 ·exact ⟨h.2.2.2.1,h.2.2.2.2.1⟩
theorem auQ (hr:r.1.p<x) (hs:s.1.p<x):(awL r s).p<x:=by unfold awL;split<;>assumption
theorem auR (hr:x<r.2.p) (hs:x<s.2.p):x<(awM r s).p:=by unfold awM;split<;>assumption
end
end Go.Proofs.YtdimmlckpgpgcaaGreat
namespace Go.Proofs.YtdimmlckpgpgcaaGreat
open Go Go.RowKit
section
variable {I:aay} {w w9:World} {g t:Nat} {a b:Fq} {r:Fq×Fq} {n:Bool} {A:Option Addr} {l c:Nat} {B:Option Addr} {m d:Nat} {n':Bool} {A':Option Addr} {l' c':Nat} {B':Option Addr} {m' d':Nat}
theorem adw (hz:aaE w n A l c r.1.z) (hq:aaW w B m d r.1.q) (hz':aaE w n' A' l' c' r.2.z) (hq':aaW w B' m' d' r.2.q) (ha:FqB r.1) (hb:FqB r.2) :
 Calls Tryz.prog 24 #[.agg #[.bool n,.slice A l c,.slice B m d,.bool n',.slice A' l' c',.slice B' m' d']] w fun e w'=>e=.returned (.bool (acO r.1 r.2 == 0))/\Below w.heap.size w w':=by
 have o1:=aak w (agU n A l c B m d n' A' l' c' B' m' d')
 have T:=Lh (aoJ.make hz hq hz' hq')
 have Hb:=Lh o1
 have p1:=ha.p
 have p2:=hb.p
 clear hz hq hz' hq' o1
 go_enter Tryz.func24,Tryz.ntmps24
 have x0:=T.out.r.c0;have x1:=T.out.r.c1;have x2:=T.out.r.c2;have x3:=T.out.c3;have x4:=T.out.c4;have x5:=T.out.c5
 go_wp2_with fail
 refine (acY _ _ _ _ _ _ _ _ _ _ _ _ _ _ _ _ _ _ _ T.out.r.hz.at_ T.out.r.hq.at_ T.out.hz.at_ T.out.hq.at_ (by omega) (by omega) ha.fz ha.fq hb.fz hb.fq).mono ?_
 rintro e w3 ⟨rfl,hb3⟩
 replace Hb:=Lh (Hb.out.trans (hb3.mono Hb.out.size))
 obtain ⟨C,hC⟩:∃ C,C=acO r.1 r.2:=⟨_,rfl⟩
 rw[show aec (r.1.z*(r.2.q:Int)) (r.2.z*(r.1.q:Int))=C from hC.symm]
 have HC:=Lh hC
 clear hb3 hC T
 clear x0 x1 x2 x3 x4 x5
 go_wp2
 go_ret
 exact ⟨by first | (rw[HC.out];done) | (rw[HC.out];rfl),Hb.out⟩
end
end Go.Proofs.YtdimmlckpgpgcaaGreat
namespace Go.Proofs.YtdimmlckpgpgcaaGreat
open Go Go.RowKit
def auS (Q:List Int) (r:Fq×Fq) (a:Fq):Int :=
 if acO r.1 r.2=0 then acO r.1 a else if acO a r.1<=0 then 1 else if 0<=acO a r.2 then -1 else if a.sgn Q=0 then 0 else if a.sgn Q=r.1.sgn Q then 1 else -1
theorem anj {a b:Rat} (h:a<=b):a<b∨a=b:=by
 by_cases c:a<b
 ·exact .inl c
 ·exact .inr (by grind)
section
variable {Q f:List Int} {r:Fq×Fq} {a:Fq} {x:Pt}
noncomputable def atf (x a:Pt):Int:=open Classical in if x<a then -1 else if x=a then 0 else 1
theorem ajF (h:x<a.p):atf x a.p=-1:=by unfold atf;rw[if_pos h]
theorem ajG {y:Pt} (h:y<x):atf x y=1:=by
 unfold atf
 rw[if_neg (Pt.asym h),if_neg (fun e=>Pt.irr _ (e ▸ h))]
theorem ajH {y:Pt} (h:x=y):atf x y=0:=by
 unfold atf
 rw[h,if_neg (Pt.irr _),if_pos rfl]
theorem auT {b:Fq} (ha:0<a.q) (hb:0<b.q):acO a b=atf a.p b.p:=by
 rcases ajB a b with h | h | h
 ·rw[h];exact (ajF (x:=a.p) (a:=b) (Pt.aaH.2 ((al1 ha hb).1 h))).symm
 ·rw[h,ajH]
  unfold Fq.p
  rw[(acN ha hb).1 h]
 ·rw[h];exact (ajG (x:=a.p) (y:=b.p) (Pt.aaH.2 ((al2 ha hb).1 h))).symm
theorem akO (h0:aac Q≠0) (hs:∀ x,mult x Q<=1) (e:∀ y,sgp f y=0↔sgp Q y=0) (p1:0<r.1.q) (p2:0<r.2.q) (pa:0<a.q) (h:ahV f x r.1 r.2):auS Q r a=atf x a.p:=by
 have hle:=h.le
 unfold auS
 by_cases c:acO r.1 r.2=0
 ·rw[if_pos c,auT p1 pa]
  have:=(acN p1 p2).1 c
  rcases h.2 with h2 | h2
  ·rw[h2.2]
  ·grind
 rw[if_neg c]
 have hlt:r.1.v<r.2.v:=by
  have:r.1.v≠r.2.v:=fun e=>c ((acN p1 p2).2 e)
  grind
 rcases h.2 with h2 | ⟨_,n1,n2,x1,x2,hu⟩
 ·grind
 by_cases c1:acO a r.1<=0
 ·rw[if_pos c1]
  have:¬ r.1.v<a.v:=fun h=>by have:=(ajC pa p1).2 h;omega
  rcases anj (Rat.not_lt.1 this) with h3 | h3
  ·exact (ajG (Pt.lt_trans (Pt.aaH.2 h3) x1)).symm
  ·exact (ajG (by unfold Fq.p;rw[h3];exact x1)).symm
 rw[if_neg c1]
 have ha1:r.1.v<a.v:=(ajC pa p1).1 (by omega)
 by_cases c2:0<=acO a r.2
 ·rw[if_pos c2]
  have:¬ a.v<r.2.v:=fun h=>by have:=(ajD pa p2).2 h;omega
  rcases anj (Rat.not_lt.1 this) with h3 | h3
  ·exact (ajF (Pt.lt_trans x2 (Pt.aaH.2 h3))).symm
  ·exact (ajF (by unfold Fq.p;rw[<- h3];exact x2)).symm
 rw[if_neg c2]
 have ha2:a.v<r.2.v:=(ajD pa p2).1 (by omega)
 rw[akN pa,akN p1]
 by_cases c3:sgp Q a.p=0
 ·rw[if_pos c3]
  exact (ajH (h.at_ hlt ha1 ha2 ((e _).2 c3))).symm
 rw[if_neg c3]
 have hc:=h.cut h0 hs e hlt ha1 ha2 c3
 by_cases c4:sgp Q a.p=sgp Q r.1.p
 ·rw[if_pos c4] at hc ⊢
  rcases hc.2 with h3 | h3
  ·grind
  ·exact (ajG h3.2.2.2.1).symm
 ·rw[if_neg c4] at hc ⊢
  rcases hc.2 with h3 | h3
  ·grind
  ·exact (ajF h3.2.2.2.2.1).symm
end
set_option maxRecDepth 100000 in
set_option maxHeartbeats 4000000 in
theorem ahQ {I:aay} (hI:IK I) {w:World} {Ap:Option Addr} {lp cp:Nat} {Q:List Int} {r:Fq×Fq} {a:Fq} {n:Bool} {A:Option Addr} {l c:Nat} {B:Option Addr} {m d:Nat} {n':Bool} {A':Option Addr} {l' c':Nat} {B':Option Addr} {m' d':Nat} {na:Bool} {Aa:Option Addr} {la ca:Nat} {Ba:Option Addr} {ma da:Nat}
 (hp:aaw I w Ap lp cp Q) (hlp:lp<=1000000) (hQ:∀ x,FqB x->alN x.z x.q Q) (hz:aaE w n A l c r.1.z) (hq:aaW w B m d r.1.q) (hz':aaE w n' A' l' c' r.2.z) (hq':aaW w B' m' d' r.2.q) (hza:aaE w na Aa la ca a.z) (hqa:aaW w Ba ma da a.q) (ha:FqB r.1) (hb:FqB r.2) (hc:FqB a) :
 Calls Tryz.prog 26 #[.slice Ap lp cp,.agg #[.bool n,.slice A l c,.slice B m d,.bool n',.slice A' l' c',.slice B' m' d'],.agg #[.bool na,.slice Aa la ca,.slice Ba ma da]] w fun e w'=>e=.returned (.int .i64 (auS Q r a))/\Below w.heap.size w w':=by
 have o1:=aak w (agU n A l c B m d n' A' l' c' B' m' d')
 have o2:=aak (w.alloc (agU n A l c B m d n' A' l' c' B' m' d')) (aaV na Aa la ca Ba ma da)
 have b2:Below w.heap.size w ((w.alloc (agU n A l c B m d n' A' l' c' B' m' d')).alloc (aaV na Aa la ca Ba ma da)):=o1.alloc (by simp) _
 have T:=Lh ((aoJ.make hz hq hz' hq').move o2)
 have r2:=abV.make (hza.below o1) (hqa.below o1)
 simp only[World.size_alloc] at r2
 have R:=Lh r2
 have HP:=Lh (hp.below hI b2)
 have Hb:=Lh b2
 have p1:=ha.p
 have p2:=hb.p
 have p3:=hc.p
 have pa:=hQ _ ha
 have pc:=hQ _ hc
 obtain ⟨V,hV⟩:∃ V,V=auS Q r a:=⟨_,rfl⟩
 rw[<- hV]
 unfold auS at hV
 have HV:=Lh hV
 obtain ⟨S,hS⟩:∃ S,S=a.sgn Q:=⟨_,rfl⟩
 obtain ⟨S2,hS2⟩:∃ S,S=r.1.sgn Q:=⟨_,rfl⟩
 have HS:=Lh hS
 have HS2:=Lh hS2
 clear hz hq hz' hq' hza hqa o1 o2 b2 r2 hp hV hS hS2 hQ
 go_enter Tryz.func26,Tryz.ntmps26
 have x0:=T.out.r.c0;have x1:=T.out.r.c1;have x2:=T.out.r.c2;have x3:=T.out.c3;have x4:=T.out.c4;have x5:=T.out.c5;have y0:=R.out.c0;have y1:=R.out.c1;have y2:=R.out.c2
 go_wp2_with fail
 refine (adw T.out.r.hz T.out.r.hq T.out.hz T.out.hq ha hb).mono ?_
 rintro e w1 ⟨rfl,hb1⟩
 clear x0 x1 x2 x3 x4 x5 y0 y1 y2
 replace HP:=Lh (HP.out.below hI hb1);replace T:=Lh (T.out.move hb1);replace R:=Lh (R.out.move hb1);replace Hb:=Lh (Hb.out.trans ((hb1).mono Hb.out.size))
 clear hb1
 by_cases c0:acO r.1 r.2=0
 ·have b1:(acO r.1 r.2 == 0)=true:=by rw[c0];rfl
  have EV:=Lh (show V=acO r.1 a by rw[HV.out,if_pos c0])
  clear c0
  have x0:=T.out.r.c0;have x1:=T.out.r.c1;have x2:=T.out.r.c2;have x3:=T.out.c3;have x4:=T.out.c4;have x5:=T.out.c5;have y0:=R.out.c0;have y1:=R.out.c1;have y2:=R.out.c2
  go_wp2_with fail
  refine (acY _ _ _ _ _ _ _ _ _ _ _ _ _ _ _ _ _ _ _ T.out.r.hz.at_ T.out.r.hq.at_ R.out.hz.at_ R.out.hq.at_ (by omega) (by omega) ha.fz ha.fq hc.fz hc.fq).mono ?_;rintro e w2 ⟨rfl,hb9⟩;clear x0 x1 x2 x3 x4 x5 y0 y1 y2;replace HP:=Lh (HP.out.below hI hb9);replace T:=Lh (T.out.move hb9);replace R:=Lh (R.out.move hb9);replace Hb:=Lh (Hb.out.trans ((hb9).mono Hb.out.size));clear hb9
  obtain ⟨C,hC⟩:∃ C,C=acO r.1 a:=⟨_,rfl⟩
  rw[show aec (r.1.z*(a.q:Int)) (a.z*(r.1.q:Int))=C from hC.symm]
  replace EV:=Lh (EV.out.trans hC.symm)
  clear hC T R HP
  go_wp2;go_ret;exact ⟨(by first | (rw[EV.out];done) | (rw[EV.out];rfl)),Hb.out⟩
 have b1:(acO r.1 r.2 == 0)=false:=by rw[beq_eq_false_iff_ne];exact c0
 have hV:=HV.out
 rw[if_neg c0] at hV
 replace HV:=Lh hV
 clear c0 hV
 have x0:=T.out.r.c0;have x1:=T.out.r.c1;have x2:=T.out.r.c2;have x3:=T.out.c3;have x4:=T.out.c4;have x5:=T.out.c5;have y0:=R.out.c0;have y1:=R.out.c1;have y2:=R.out.c2
 go_wp2_with fail
 refine (acY _ _ _ _ _ _ _ _ _ _ _ _ _ _ _ _ _ _ _ R.out.hz.at_ R.out.hq.at_ T.out.r.hz.at_ T.out.r.hq.at_ (by omega) (by omega) hc.fz hc.fq ha.fz ha.fq).mono ?_;rintro e w2 ⟨rfl,hb9⟩;clear x0 x1 x2 x3 x4 x5 y0 y1 y2;replace HP:=Lh (HP.out.below hI hb9);replace T:=Lh (T.out.move hb9);replace R:=Lh (R.out.move hb9);replace Hb:=Lh (Hb.out.trans ((hb9).mono Hb.out.size));clear hb9
 obtain ⟨C1,hC1⟩:∃ C,C=acO a r.1:=⟨_,rfl⟩
 rw[show aec (a.z*(r.1.q:Int)) (r.1.z*(a.q:Int))=C1 from hC1.symm]
 have hV:=HV.out
 rw[<- hC1] at hV
 replace HV:=Lh hV
 clear hC1 hV
 by_cases c1:C1<=0
 ·have b2:decide (C1<=0)=true:=decide_eq_true c1
  have EV:=Lh (show V=1 by rw[HV.out,if_pos c1])
  clear c1 T R HP
  go_wp2;go_ret;exact ⟨(by first | (rw[EV.out];done) | (rw[EV.out];rfl)),Hb.out⟩
 have b2:decide (C1<=0)=false:=decide_eq_false c1
 have hV:=HV.out
 rw[if_neg c1] at hV
 replace HV:=Lh hV
 clear c1 hV
 have x0:=T.out.r.c0;have x1:=T.out.r.c1;have x2:=T.out.r.c2;have x3:=T.out.c3;have x4:=T.out.c4;have x5:=T.out.c5;have y0:=R.out.c0;have y1:=R.out.c1;have y2:=R.out.c2
 go_wp2_with fail
 refine (acY _ _ _ _ _ _ _ _ _ _ _ _ _ _ _ _ _ _ _ R.out.hz.at_ R.out.hq.at_ T.out.hz.at_ T.out.hq.at_ (by omega) (by omega) hc.fz hc.fq hb.fz hb.fq).mono ?_;rintro e w3 ⟨rfl,hb9⟩;clear x0 x1 x2 x3 x4 x5 y0 y1 y2;replace HP:=Lh (HP.out.below hI hb9);replace T:=Lh (T.out.move hb9);replace R:=Lh (R.out.move hb9);replace Hb:=Lh (Hb.out.trans ((hb9).mono Hb.out.size));clear hb9
 obtain ⟨C2,hC2⟩:∃ C,C=acO a r.2:=⟨_,rfl⟩
 rw[show aec (a.z*(r.2.q:Int)) (r.2.z*(a.q:Int))=C2 from hC2.symm]
 have hV:=HV.out
 rw[<- hC2] at hV
 replace HV:=Lh hV
 clear hC2 hV
 by_cases c2:0<=C2
 ·have b3:decide (0<=C2)=true:=decide_eq_true c2
  have EV:=Lh (show V=-1 by rw[HV.out,if_pos c2])
  clear c2 T R HP
  go_wp2;go_ret;exact ⟨(by first | (rw[EV.out];done) | (rw[EV.out];rfl)),Hb.out⟩
 have b3:decide (0<=C2)=false:=decide_eq_false c2
 have hV:=HV.out
 rw[if_neg c2,<- HS.out,<- HS2.out] at hV
 replace HV:=Lh hV
 clear c2 hV
 have x0:=T.out.r.c0;have x1:=T.out.r.c1;have x2:=T.out.r.c2;have x3:=T.out.c3;have x4:=T.out.c4;have x5:=T.out.c5;have y0:=R.out.c0;have y1:=R.out.c1;have y2:=R.out.c2
 go_wp2_with fail
 refine (acA hI _ _ _ Q _ _ _ _ _ _ _ _ _ _ HP.out (pc).fit (by omega) R.out.hz R.out.hq (hc).at.u (hc).at.v (hc).at.pos (pc).ok (hc).at.fz (hc).at.fq).mono ?_;rintro e w4 ⟨he,hb9⟩;have he2:e=.returned (.int .i64 S):=(by rw[HS.out];exact he);subst he2;clear he;clear x0 x1 x2 x3 x4 x5 y0 y1 y2;replace HP:=Lh (HP.out.below hI hb9);replace T:=Lh (T.out.move hb9);replace R:=Lh (R.out.move hb9);replace Hb:=Lh (Hb.out.trans ((hb9).mono Hb.out.size));clear hb9
 by_cases c3:S=0
 ·have b4:(S == 0)=true:=by rw[c3];rfl
  have EV:=Lh (show V=0 by rw[HV.out,if_pos c3])
  clear c3 T R HP
  go_wp2;go_ret;exact ⟨(by first | (rw[EV.out];done) | (rw[EV.out];rfl)),Hb.out⟩
 have b4:(S == 0)=false:=by rw[beq_eq_false_iff_ne];exact c3
 have hV:=HV.out
 rw[if_neg c3] at hV
 replace HV:=Lh hV
 clear c3 hV
 have x0:=T.out.r.c0;have x1:=T.out.r.c1;have x2:=T.out.r.c2;have x3:=T.out.c3;have x4:=T.out.c4;have x5:=T.out.c5;have y0:=R.out.c0;have y1:=R.out.c1;have y2:=R.out.c2
 go_wp2_with fail
 refine (acA hI _ _ _ Q _ _ _ _ _ _ _ _ _ _ HP.out (pa).fit (by omega) T.out.r.hz T.out.r.hq (ha).at.u (ha).at.v (ha).at.pos (pa).ok (ha).at.fz (ha).at.fq).mono ?_;rintro e w5 ⟨he,hb9⟩;have he2:e=.returned (.int .i64 S2):=(by rw[HS2.out];exact he);subst he2;clear he;clear x0 x1 x2 x3 x4 x5 y0 y1 y2;replace HP:=Lh (HP.out.below hI hb9);replace T:=Lh (T.out.move hb9);replace R:=Lh (R.out.move hb9);replace Hb:=Lh (Hb.out.trans ((hb9).mono Hb.out.size));clear hb9
 by_cases c4:S=S2
 ·have b5:(S == S2)=true:=by rw[c4];simp
  have EV:=Lh (show V=1 by rw[HV.out,if_pos c4])
  clear c4 T R HP
  go_wp2;go_ret;exact ⟨(by first | (rw[EV.out];done) | (rw[EV.out];rfl)),Hb.out⟩
 ·have b5:(S == S2)=false:=by rw[beq_eq_false_iff_ne];exact c4
  have EV:=Lh (show V=-1 by rw[HV.out,if_neg c4])
  clear c4 T R HP
  go_wp2;go_ret;exact ⟨(by first | (rw[EV.out];done) | (rw[EV.out];rfl)),Hb.out⟩
end Go.Proofs.YtdimmlckpgpgcaaGreat
namespace Go.Proofs.YtdimmlckpgpgcaaGreat
open Go Go.RowKit
structure EqS (w:World) (g2:Nat) (S:List Value) (gl gh:Nat) (n:Bool) (A:Option Addr) (l c:Nat) (B:Option Addr) (m d:Nat) (lo:Fq) (n':Bool) (A':Option Addr) (l' c':Nat) (B':Option Addr) (m' d':Nat) (hi:Fq) (wz:World):Prop where
 b:Below w.heap.size w wz
 u:∀ (q:Nat) (v:Value),S[q]?=some v->wz.cell? ⟨g2,q,none⟩=some v
 l:abV wz gl n A l c B m d lo.z lo.q
 h:abV wz gh n' A' l' c' B' m' d' hi.z hi.q
 n1:w.heap.size<=gl
 n2:w.heap.size<=gh
 n3:gl≠gh
 n4:gl≠g2
 n5:gh≠g2
 n6:g2<wz.heap.size
section
variable {w wz wy:World} {g2:Nat} {S:List Value} {gl gh:Nat} {n:Bool} {A:Option Addr} {l c:Nat} {B:Option Addr} {m d:Nat} {lo:Fq} {n':Bool} {A':Option Addr} {l' c':Nat} {B':Option Addr} {m' d':Nat} {hi v:Fq} {k:Bool} {C:Option Addr} {i e:Nat} {D:Option Addr} {j f:Nat}
theorem EqS.move (h:EqS w g2 S gl gh n A l c B m d lo n' A' l' c' B' m' d' hi wz) (hb:Below wz.heap.size wz wy):EqS w g2 S gl gh n A l c B m d lo n' A' l' c' B' m' d' hi wy :=
 ⟨h.b.trans (hb.mono h.b.size),fun q v hv=>(hb.cell (p:=⟨g2,q,none⟩) h.n6).trans (h.u q v hv),h.l.move hb,h.h.move hb,h.n1,h.n2,h.n3,h.n4,h.n5,Nat.lt_of_lt_of_le h.n6 hb.size⟩
theorem akP {g g' q:Nat} (hg:g'≠g) (u v x:Value):(((wz.setCell ⟨g',0,none⟩ u).setCell ⟨g',1,none⟩ v).setCell ⟨g',2,none⟩ x).cell? ⟨g,q,none⟩=wz.cell? ⟨g,q,none⟩:=by
 rw[World.cell?_setCell_other _ _ _ _ (by intro e;injection e with e _;omega),World.cell?_setCell_other _ _ _ _ (by intro e;injection e with e _;omega),World.cell?_setCell_other _ _ _ _ (by intro e;injection e with e _;omega)]
theorem EqS.aAF (h:EqS w g2 S gl gh n A l c B m d lo n' A' l' c' B' m' d' hi wz) (hz:aaE w k C i e v.z) (hq:aaW w D j f v.q):EqS w g2 S gl gh k C i e D j f v n' A' l' c' B' m' d' hi (amX wz gl k C i e D j f) :=
 ⟨((h.b.setCell (p:=⟨gl,0,none⟩) h.n1 _).setCell (p:=⟨gl,1,none⟩) h.n1 _).setCell (p:=⟨gl,2,none⟩) h.n1 _,fun q v hv=>(akP h.n4 _ _ _).trans (h.u q v hv),h.l.put (hz.below h.b) (hq.below h.b),h.h.far h.l (fun e=>h.n3 e.symm) _ _ _,h.n1,h.n2,h.n3,h.n4,h.n5,by simpa [World.setCell] using h.n6⟩
theorem EqS.aAG (h:EqS w g2 S gl gh n A l c B m d lo n' A' l' c' B' m' d' hi wz) (hz:aaE w k C i e v.z) (hq:aaW w D j f v.q):EqS w g2 S gl gh n A l c B m d lo k C i e D j f v (amX wz gh k C i e D j f) :=
 ⟨((h.b.setCell (p:=⟨gh,0,none⟩) h.n2 _).setCell (p:=⟨gh,1,none⟩) h.n2 _).setCell (p:=⟨gh,2,none⟩) h.n2 _,fun q v hv=>(akP h.n5 _ _ _).trans (h.u q v hv),h.l.far h.h h.n3 _ _ _,h.h.put (hz.below h.b) (hq.below h.b),h.n1,h.n2,h.n3,h.n4,h.n5,by simpa [World.setCell] using h.n6⟩
theorem aqB (hb:Below w.heap.size w wz) (hu:∀ (q:Nat) (v:Value),S[q]?=some v->wz.cell? ⟨g2,q,none⟩=some v) (h2:g2<wz.heap.size) (hz:aaE w n A l c lo.z) (hq:aaW w B m d lo.q) (hz':aaE w n' A' l' c' hi.z) (hq':aaW w B' m' d' hi.q) :
 EqS w g2 S wz.heap.size (wz.heap.size+1) n A l c B m d lo n' A' l' c' B' m' d' hi ((wz.alloc (aaV n A l c B m d)).alloc (aaV n' A' l' c' B' m' d')).drew:=by
 have o1:=aak wz (aaV n A l c B m d)
 have o2:=aak (wz.alloc (aaV n A l c B m d)) (aaV n' A' l' c' B' m' d')
 have od:Below ((wz.alloc (aaV n A l c B m d)).alloc (aaV n' A' l' c' B' m' d')).heap.size ((wz.alloc (aaV n A l c B m d)).alloc (aaV n' A' l' c' B' m' d')) ((wz.alloc (aaV n A l c B m d)).alloc (aaV n' A' l' c' B' m' d')).drew:=(Below.refl _ _).drew
 have b3:Below wz.heap.size wz ((wz.alloc (aaV n A l c B m d)).alloc (aaV n' A' l' c' B' m' d')).drew:=(o1.alloc (by simp) _).drew
 have r1:=((abV.make (hz.below hb) (hq.below hb)).move o2).move od
 have r2:=(abV.make ((hz'.below hb).below o1) ((hq'.below hb).below o1)).move od
 simp only[World.size_alloc] at r2
 have hs:=hb.size
 exact ⟨hb.trans (b3.mono hs),fun q v hv=>(b3.cell (p:=⟨g2,q,none⟩) h2).trans (hu q v hv),r1,r2,hs,by omega,by omega,by omega,by omega,Nat.lt_of_lt_of_le h2 b3.size⟩
theorem auU (hb:Below w.heap.size w wz) (hu:∀ (q:Nat) (v:Value),S[q]?=some v->wz.cell? ⟨g2,q,none⟩=some v) (h2:g2<wz.heap.size) (hz:aaE w n A l c lo.z) (hq:aaW w B m d lo.q) (hz':aaE w n' A' l' c' hi.z) (hq':aaW w B' m' d' hi.q) :
 EqS w g2 S (wz.heap.size+1) wz.heap.size n A l c B m d lo n' A' l' c' B' m' d' hi ((wz.alloc (aaV n' A' l' c' B' m' d')).alloc (aaV n A l c B m d)).drew:=by
 have h:=aqB (n:=n') (A:=A') (l:=l') (c:=c') (B:=B') (m:=m') (d:=d') (lo:=hi) (n':=n) (A':=A) (l':=l) (c':=c) (B':=B) (m':=m) (d':=d) (hi:=lo) hb hu h2 hz' hq' hz hq
 exact ⟨h.b,h.u,h.h,h.l,h.n2,h.n1,fun e=>h.n3 e.symm,h.n5,h.n4,h.n6⟩
end
set_option maxRecDepth 100000 in
set_option maxHeartbeats 8000000 in
theorem aov {Ap:Option Addr} {lp cp:Nat} {Q:List Int} {w:World} {x:Pt} {r s:Fq×Fq} {n:Bool} {A:Option Addr} {l c:Nat} {B:Option Addr} {m d:Nat} {n':Bool} {A':Option Addr} {l' c':Nat} {B':Option Addr} {m' d':Nat} {k:Bool} {C:Option Addr} {i e:Nat} {D:Option Addr} {j f:Nat} {k':Bool} {C':Option Addr} {i' e':Nat} {D':Option Addr} {j' f':Nat} {Aq:Option Addr} {lq cq:Nat}
 (hp:aaR w Ap lp cp Q) (hp':aaR w Aq lq cq Q) (hl:Q.length<=10) (h9:P9 Q) (q0:aac Q≠0) (hz:aaE w n A l c r.1.z) (hq:aaW w B m d r.1.q) (hz':aaE w n' A' l' c' r.2.z) (hq':aaW w B' m' d' r.2.q) (gz:aaE w k C i e s.1.z) (gq:aaW w D j f s.1.q) (gz':aaE w k' C' i' e' s.2.z) (gq':aaW w D' j' f' s.2.q) (ha:FqB r.1) (hb:FqB r.2) (hc:FqB s.1) (hd:FqB s.2) (hx:sgp Q x=0) (i1:r.1.p<x/\x<r.2.p) (i2:s.1.p<x/\x<s.2.p) :
 Calls Tryz.prog 25 #[.slice Ap lp cp,.agg #[.bool n,.slice A l c,.slice B m d,.bool n',.slice A' l' c',.slice B' m' d'],.slice Aq lq cq,.agg #[.bool k,.slice C i e,.slice D j f,.bool k',.slice C' i' e',.slice D' j' f']] w fun e w'=>e=.returned (.bool true)/\Below w.heap.size w w':=by
 have o1:=aak w (agU n A l c B m d n' A' l' c' B' m' d')
 have o2:=aak (w.alloc (agU n A l c B m d n' A' l' c' B' m' d')) (agU k C i e D j f k' C' i' e' D' j' f')
 have b2:Below w.heap.size w ((w.alloc (agU n A l c B m d n' A' l' c' B' m' d')).alloc (agU k C i e D j f k' C' i' e' D' j' f')):=o1.alloc (by simp) _
 have t:=(aoJ.make hz hq hz' hq').move o2
 have u:=aoJ.make (gz.below o1) (gq.below o1) (gz'.below o1) (gq'.below o1)
 simp only[World.size_alloc] at u
 have T:=Lh t
 have U:=Lh u
 have Hb:=Lh b2
 have HU:=Lh (show ∀ (q:Nat) (v:Value),(([Value.bool k,.slice C i e,.slice D j f,.bool k',.slice C' i' e',.slice D' j' f']:List Value))[q]?=some v->((w.alloc (agU n A l c B m d n' A' l' c' B' m' d')).alloc (agU k C i e D j f k' C' i' e' D' j' f')).cell? ⟨w.heap.size+1,q,none⟩=some v from fun q v hv=>by
  match q,hv with
  | 0,hv=>cases hv;exact u.r.c0
  | 1,hv=>cases hv;exact u.r.c1
  | 2,hv=>cases hv;exact u.r.c2
  | 3,hv=>cases hv;exact u.c3
  | 4,hv=>cases hv;exact u.c4
  | 5,hv=>cases hv;exact u.c5
  | q+6,hv=>simp at hv)
 have HP:=Lh hp
 have HP':=Lh hp'
 have H1:=Lh hz
 have H2:=Lh hq
 have H3:=Lh hz'
 have H4:=Lh hq'
 have H5:=Lh gz
 have H6:=Lh gq
 have H7:=Lh gz'
 have H8:=Lh gq'
 have hlp:lp<=10:=by have:=hp.length;omega
 have hlq:lq<=10:=by have:=hp'.length;omega
 have p1:=ha.p
 have p2:=hb.p
 have p3:=hc.p
 have p4:=hd.p
 have hsm:SmP Q:=h9.pq.fit.smp
 have GA:=Lh (al3 h9)
 have G9:=Lh (al4 h9 q0)
 have GL:=Lh (asb h9 q0)
 have hlo:=auQ (s:=s) (r:=r) i1.1 i2.1
 have hhi:=auR (s:=s) (r:=r) i1.2 i2.2
 obtain ⟨lo,axo⟩:∃ lo,lo=awL r s:=⟨_,rfl⟩
 obtain ⟨hi,axp⟩:∃ hi,hi=awM r s:=⟨_,rfl⟩
 rw[<- axo] at hlo
 rw[<- axp] at hhi
 have flo:FqB lo:=by rw[axo];unfold awL;split<;>assumption
 have fhi:FqB hi:=by rw[axp];unfold awM;split<;>assumption
 have hcn:=aou h9 q0 flo.p fhi.p hx hlo hhi
 have hlt:lo.v<hi.v:=Pt.aaH.1 (Pt.lt_trans hlo hhi)
 have HC:=Lh hcn
 have HLT:=Lh (show ¬ 0<=acO lo hi by have:=(ajD flo.p fhi.p).2 hlt;omega)
 have HLO:=Lh axo
 have HHI:=Lh axp
 unfold awL at HLO
 unfold awM at HHI
 have p5:=flo.p
 have p6:=fhi.p
 clear hz hq hz' hq' gz gq gz' gq' o1 o2 b2 t u hp hp' i1 i2 hx hlo hhi axo axp hcn hlt h9
 go_enter Tryz.func25,Tryz.ntmps25
 obtain ⟨wb,hwb⟩:∃ wb,wb=(w.alloc (agU n A l c B m d n' A' l' c' B' m' d')).alloc (agU k C i e D j f k' C' i' e' D' j' f'):=⟨_,rfl⟩
 obtain ⟨g1,hg1⟩:∃ g,g=w.heap.size:=⟨_,rfl⟩
 obtain ⟨g2,hg2⟩:∃ g,g=w.heap.size+1:=⟨_,rfl⟩
 go_upto_region 1 with (fail)
 rw[<- hwb,<- hg1] at T
 rw[<- hwb,<- hg2] at U HU
 rw[<- hwb] at Hb ⊢
 rw[<- hg2,<- hg1]
 have l1:=T.out.r.lt
 have l2:=U.out.r.lt
 have hgw:w.heap.size<=wb.heap.size:=Hb.out.size
 have hgg:g1<g2:=by omega
 have Hg2:=Lh (show w.heap.size<=g2 by omega)
 clear hwb hg1 hg2
 have x0:=T.out.r.c0
 have x1:=T.out.r.c1
 have x2:=T.out.r.c2
 have x3:=T.out.c3
 have x4:=T.out.c4
 have x5:=T.out.c5
 go_cut [9,10] (fun s9 s10 wz=>∃ gl gh,s9=.pointer (some ⟨gl,0,none⟩)/\s10=.pointer (some ⟨gh,0,none⟩)/\EqS w g2 [.bool k,.slice C i e,.slice D j f,.bool k',.slice C' i' e',.slice D' j' f'] gl gh n A l c B m d r.1 n' A' l' c' B' m' d' r.2 wz)
 case first =>
  go_region_held3 (fun w'=>w'.cell? ⟨g1,0,none⟩=some (.bool n)/\w'.cell? ⟨g1,1,none⟩=some (.slice A l c)/\w'.cell? ⟨g1,2,none⟩=some (.slice B m d)/\w'.cell? ⟨g1,3,none⟩=some (.bool n')/\w'.cell? ⟨g1,4,none⟩=some (.slice A' l' c')/\w'.cell? ⟨g1,5,none⟩=some (.slice B' m' d')) (go_keep) (fail)
  ·go_wp2_with fail
   go_meet
   exact ⟨_,_,rfl,rfl,aqB Hb.out HU.out l2 H1.out H2.out H3.out H4.out⟩
  ·go_wp2_with fail
   go_meet
   exact ⟨_,_,rfl,rfl,auU Hb.out HU.out l2 H1.out H2.out H3.out H4.out⟩
 case rest =>
  obtain ⟨gl,gh,rfl,rfl,st⟩:=hcut
  have ST:=Lh st
  clear x0 x1 x2 x3 x4 x5 l1 l2 hgw hgg st T U HU Hb Hg2
  obtain ⟨wy,hwy⟩:∃ wy,wy=wc:=⟨_,rfl⟩
  rw[<- hwy] at ST ⊢
  clear hwy
  have a0:=ST.out.l.c0;have a1:=ST.out.l.c1;have a2:=ST.out.l.c2;have b0:=ST.out.h.c0;have b1:=ST.out.h.c1;have b2:=ST.out.h.c2
  have u0:=ST.out.u 0 _ rfl;have u1:=ST.out.u 1 _ rfl;have u2:=ST.out.u 2 _ rfl;have u3:=ST.out.u 3 _ rfl;have u4:=ST.out.u 4 _ rfl;have u5:=ST.out.u 5 _ rfl
  go_wp2_with fail
  refine (acY _ _ _ _ _ _ _ _ _ _ _ _ _ _ _ _ _ _ _ (H5.out.below ST.out.b).at_ (H6.out.below ST.out.b).at_ ST.out.l.hz.at_ ST.out.l.hq.at_ (by omega) (by omega) hc.fz hc.fq ha.fz ha.fq).mono ?_
  rintro e0 w2 ⟨rfl,hb2⟩
  obtain ⟨C1,hC1⟩:∃ C,C=aec (s.1.z*(r.1.q:Int)) (r.1.z*(s.1.q:Int)):=⟨_,rfl⟩
  rw[<- hC1]
  have HC1:=Lh (show C1=acO s.1 r.1 from hC1)
  replace ST:=Lh (ST.out.move hb2)
  clear a0 a1 a2 b0 b1 b2 u0 u1 u2 u3 u4 u5
  clear hC1 hb2
  obtain ⟨bv,hbv⟩:∃ v,decide (0<C1)=v:=⟨_,rfl⟩
  go_upto_if 19 with (fail)
  have HBV:=Lh hbv
  clear hbv
  go_cut [] (fun wz=>∃ nx Ax lx cx Bx mx dx,EqS w g2 [.bool k,.slice C i e,.slice D j f,.bool k',.slice C' i' e',.slice D' j' f'] gl gh nx Ax lx cx Bx mx dx lo n' A' l' c' B' m' d' r.2 wz)
  case first =>
   rcases Bool.eq_false_or_eq_true bv with hh | hh
   ·subst hh
    have c1:0<C1:=of_decide_eq_true HBV.out
    have EL:=Lh (show lo=s.1 by rw[HLO.out,if_pos (by rw[<- HC1.out];exact c1)])
    clear c1
    have g0:=ST.out.l.f0
    have g3:=ST.out.l.f1
    have g4:=ST.out.l.f2
    have a0:=ST.out.l.c0;have a1:=ST.out.l.c1;have a2:=ST.out.l.c2;have b0:=ST.out.h.c0;have b1:=ST.out.h.c1;have b2:=ST.out.h.c2
    have u0:=ST.out.u 0 _ rfl;have u1:=ST.out.u 1 _ rfl;have u2:=ST.out.u 2 _ rfl;have u3:=ST.out.u 3 _ rfl;have u4:=ST.out.u 4 _ rfl;have u5:=ST.out.u 5 _ rfl
    go_wp2_with fail
    go_meet
    exact ⟨_,_,_,_,_,_,_,by rw[EL.out];exact ST.out.aAF H5.out H6.out⟩
   ·subst hh
    have c1:¬ 0<C1:=of_decide_eq_false HBV.out
    have EL:=Lh (show lo=r.1 by rw[HLO.out,if_neg (by rw[<- HC1.out];exact c1)])
    clear c1
    go_wp2_with fail
    go_meet
    exact ⟨_,_,_,_,_,_,_,by rw[EL.out];exact ST.out⟩
  case rest =>
   obtain ⟨nx,Ax,lx,cx,Bx,mx,dx,st⟩:=hcut
   replace ST:=Lh st
   clear st HC1 HLO HBV bv
   obtain ⟨wy,hwy⟩:∃ wy,wy=wc:=⟨_,rfl⟩
   rw[<- hwy] at ST ⊢
   clear hwy
   have a0:=ST.out.l.c0;have a1:=ST.out.l.c1;have a2:=ST.out.l.c2;have b0:=ST.out.h.c0;have b1:=ST.out.h.c1;have b2:=ST.out.h.c2
   have u0:=ST.out.u 0 _ rfl;have u1:=ST.out.u 1 _ rfl;have u2:=ST.out.u 2 _ rfl;have u3:=ST.out.u 3 _ rfl;have u4:=ST.out.u 4 _ rfl;have u5:=ST.out.u 5 _ rfl
   go_wp2_with fail
   refine (acY _ _ _ _ _ _ _ _ _ _ _ _ _ _ _ _ _ _ _ (H7.out.below ST.out.b).at_ (H8.out.below ST.out.b).at_ ST.out.h.hz.at_ ST.out.h.hq.at_ (by omega) (by omega) hd.fz hd.fq hb.fz hb.fq).mono ?_
   rintro e0 w3 ⟨rfl,hb3⟩
   obtain ⟨C2,hC2⟩:∃ C,C=aec (s.2.z*(r.2.q:Int)) (r.2.z*(s.2.q:Int)):=⟨_,rfl⟩
   rw[<- hC2]
   have HC2:=Lh (show C2=acO s.2 r.2 from hC2)
   replace ST:=Lh (ST.out.move hb3)
   clear a0 a1 a2 b0 b1 b2 u0 u1 u2 u3 u4 u5
   clear hC2 hb3
   obtain ⟨bv,hbv⟩:∃ v,decide (C2<0)=v:=⟨_,rfl⟩
   go_upto_if 26 with (fail)
   have HBV:=Lh hbv
   clear hbv
   go_cut [] (fun wz=>∃ ny Ay ly cy By my dy,EqS w g2 [.bool k,.slice C i e,.slice D j f,.bool k',.slice C' i' e',.slice D' j' f'] gl gh nx Ax lx cx Bx mx dx lo ny Ay ly cy By my dy hi wz)
   case first =>
    rcases Bool.eq_false_or_eq_true bv with hh | hh
    ·subst hh
     have c1:C2<0:=of_decide_eq_true HBV.out
     have EL:=Lh (show hi=s.2 by rw[HHI.out,if_pos (by rw[<- HC2.out];exact c1)])
     clear c1
     have g0:=ST.out.h.f0
     have g3:=ST.out.h.f1
     have g4:=ST.out.h.f2
     have a0:=ST.out.l.c0;have a1:=ST.out.l.c1;have a2:=ST.out.l.c2;have b0:=ST.out.h.c0;have b1:=ST.out.h.c1;have b2:=ST.out.h.c2
     have u0:=ST.out.u 0 _ rfl;have u1:=ST.out.u 1 _ rfl;have u2:=ST.out.u 2 _ rfl;have u3:=ST.out.u 3 _ rfl;have u4:=ST.out.u 4 _ rfl;have u5:=ST.out.u 5 _ rfl
     go_wp2_with fail
     go_meet
     exact ⟨_,_,_,_,_,_,_,by rw[EL.out];exact ST.out.aAG H7.out H8.out⟩
    ·subst hh
     have c1:¬ C2<0:=of_decide_eq_false HBV.out
     have EL:=Lh (show hi=r.2 by rw[HHI.out,if_neg (by rw[<- HC2.out];exact c1)])
     clear c1
     go_wp2_with fail
     go_meet
     exact ⟨_,_,_,_,_,_,_,by rw[EL.out];exact ST.out⟩
   case rest =>
    obtain ⟨ny,Ay,ly,cy,By,my,dy,st⟩:=hcut
    replace ST:=Lh st
    clear st HC2 HHI HBV bv
    obtain ⟨wy,hwy⟩:∃ wy,wy=wc:=⟨_,rfl⟩
    rw[<- hwy] at ST ⊢
    clear hwy
    have a0:=ST.out.l.c0;have a1:=ST.out.l.c1;have a2:=ST.out.l.c2;have b0:=ST.out.h.c0;have b1:=ST.out.h.c1;have b2:=ST.out.h.c2
    go_wp2_with fail
    refine (acY _ _ _ _ _ _ _ _ _ _ _ _ _ _ _ _ _ _ _ ST.out.l.hz.at_ ST.out.l.hq.at_ ST.out.h.hz.at_ ST.out.h.hq.at_ (by omega) (by omega) flo.fz flo.fq fhi.fz fhi.fq).mono ?_
    rintro e0 w4 ⟨rfl,hb4⟩
    obtain ⟨C3,hC3⟩:∃ C,C=aec (lo.z*(hi.q:Int)) (hi.z*(lo.q:Int)):=⟨_,rfl⟩
    rw[<- hC3]
    have bq:decide (0<=C3)=false:=decide_eq_false (by rw[hC3];exact Int.not_le.2 HLT.out)
    replace ST:=Lh (ST.out.move hb4)
    clear hC3 hb4 a0 a1 a2 b0 b1 b2
    have a0:=ST.out.l.c0;have a1:=ST.out.l.c1;have a2:=ST.out.l.c2;have b0:=ST.out.h.c0;have b1:=ST.out.h.c1;have b2:=ST.out.h.c2
    go_wp2_with fail
    obtain ⟨NC,hNC⟩:∃ N,N=afL (gres Q Q) lo.z lo.q hi.z hi.q:=⟨_,rfl⟩
    have bN:decide (0<NC)=true:=decide_eq_true (by rw[hNC];exact HC.out)
    have HN:=Lh hNC
    have lgl:=ST.out.l.lt
    have lgh:=ST.out.h.lt
    clear hNC
    refine wp_region_held_drew (S:=fun w'=>w'.cell? ⟨gl,0,none⟩=some (.bool nx)/\w'.cell? ⟨gl,1,none⟩=some (.slice Ax lx cx)/\w'.cell? ⟨gl,2,none⟩=some (.slice Bx mx dx)/\w'.cell? ⟨gh,0,none⟩=some (.bool ny)/\w'.cell? ⟨gh,1,none⟩=some (.slice Ay ly cy)/\w'.cell? ⟨gh,2,none⟩=some (.slice By my dy)) (by kernel_rfl) (by (try dsimp only);go_keep) (fun hHeld=>?_)
    (refine tq 0 ?_;simp only[aad,List.set])
    (refine tq 1 ?_;simp only[aad,List.set])
    (refine tq 3 ?_;simp only[aad,List.set])
    (refine tq 4 ?_;simp only[aad,List.set])
    (refine rdy 2 (fun K hK=>?_);go_simp)
    refine (ap1 ikN ikN _ _ _ Q _ _ _ Q _ ((HP.out.below ikN ST.out.b).below ikN Bel.go) ((HP'.out.below ikN ST.out.b).below ikN Bel.go) hsm hsm (by omega) (by omega) GA.out).mono ?_
    rintro e0 w5 ⟨A5,l5,c5,rfl,h5,hb5⟩
    have G5:=Lh ((Below.trans Bel.go (hb5.mono (by simp<;>omega))):Below w4.heap.size w4 w5)
    have hl5:l5<=9:=by have:=h5.length;have:=GL.out;omega
    have D5:=Lh h5
    clear h5
    obtain ⟨hcx,hfx⟩:=aap hb5;refine hK.out _ _ ?_ (fun _=>?_);(focus (((try dsimp only);repeat' apply And.intro)<;>(rw[hcx _ (by go_simp)];go_simp)));clear hHeld hK K hcx hfx;rename_i hHeld;clear hb5
    (refine rdy 5 (fun K hK=>?_);go_simp)
    refine (aqe ikN _ _ _ (gres Q Q) _ _ _ _ _ _ _ lo.q lo.z _ _ _ _ _ _ _ hi.q hi.z _ (D5.out.below ikN Bel.go) (by omega) G9.out.pq ((ST.out.l.move G5.out).hz.below Bel.go) ((ST.out.l.move G5.out).hq.below Bel.go) ((ST.out.h.move G5.out).hz.below Bel.go) ((ST.out.h.move G5.out).hq.below Bel.go) flo.at fhi.at flo.z flo.q fhi.z fhi.q).mono ?_
    rintro e0 w6 ⟨he,hb6⟩
    have he2:e0=.returned (.int .i64 NC):=by rw[HN.out];exact he
    subst he2
    have G6:=Lh (G5.out.trans (((Below.trans Bel.go (hb6.mono (by simp<;>omega))):Below w5.heap.size w5 w6).mono G5.out.size))
    clear he
    obtain ⟨hcx,hfx⟩:=aap hb6;refine hK.out _ _ ?_ (fun _=>?_);(focus (((try dsimp only);repeat' apply And.intro)<;>(rw[hcx _ (by go_simp)];go_simp)));clear hHeld hK K hcx hfx;rename_i hHeld;clear hb6
    (refine tq 6 ?_;simp only[aad,List.set])
    (refine tq 7 ?_;simp only[aad,List.set])
    refine wpAnyH_done (by kernel_rfl) ?_ _
    have Hf:=Lh (ST.out.b.trans (G6.out.mono ST.out.b.size))
    clear hHeld a0 a1 a2 b0 b1 b2 ST HP HP' G5 G6 D5
    go_wp2
    go_ret
    exact ⟨rfl,Hf.out⟩
set_option maxRecDepth 100000 in
set_option maxHeartbeats 8000000 in
theorem aow {I:aay} (hI:IK I) {Af:Option Addr} {lf cf:Nat} {F:List Int} {w:World} {x:Pt} {r s:Fq×Fq} {n:Bool} {A:Option Addr} {l c:Nat} {B:Option Addr} {m d:Nat} {n':Bool} {A':Option Addr} {l' c':Nat} {B':Option Addr} {m' d':Nat} {k:Bool} {C:Option Addr} {i e:Nat} {D:Option Addr} {j f:Nat} {k':Bool} {C':Option Addr} {i' e':Nat} {D':Option Addr} {j' f':Nat}
 (hf:aaw I w Af lf cf F) (hl:F.length<=9) (h9:P9 F) (h1:∀ j,(F.getD j 0).natAbs<=BB^1) (h0:aac F≠0) (hz:aaE w n A l c r.1.z) (hq:aaW w B m d r.1.q) (hz':aaE w n' A' l' c' r.2.z) (hq':aaW w B' m' d' r.2.q) (gz:aaE w k C i e s.1.z) (gq:aaW w D j f s.1.q) (gz':aaE w k' C' i' e' s.2.z) (gq':aaW w D' j' f' s.2.q) (ha:FqB r.1) (hb:FqB r.2) (hc:FqB s.1) (hd:FqB s.2) (hr:ahV F x r.1 r.2) (hs:ahV F x s.1 s.2) :
 Calls Tryz.prog 10 #[.slice Af lf cf,.agg #[.bool n,.slice A l c,.slice B m d,.bool n',.slice A' l' c',.slice B' m' d'],.slice Af lf cf,.agg #[.bool k,.slice C i e,.slice D j f,.bool k',.slice C' i' e',.slice D' j' f']] w fun e w'=>e=.returned (.tuple #[.int .i64 0,.int .i64 0])/\Below w.heap.size w w':=by
 have o1:=aak w (agU n A l c B m d n' A' l' c' B' m' d')
 have o2:=aak (w.alloc (agU n A l c B m d n' A' l' c' B' m' d')) (agU k C i e D j f k' C' i' e' D' j' f')
 have b2:Below w.heap.size w ((w.alloc (agU n A l c B m d n' A' l' c' B' m' d')).alloc (agU k C i e D j f k' C' i' e' D' j' f')):=o1.alloc (by simp) _
 have t:=(aoJ.make hz hq hz' hq').move o2
 have u:=aoJ.make (gz.below o1) (gq.below o1) (gz'.below o1) (gq'.below o1)
 simp only[World.size_alloc] at u
 have T:=Lh t
 have U:=Lh u
 have Hb:=Lh b2
 have HF:=Lh hf
 have p1:=ha.p
 have p2:=hb.p
 have p3:=hc.p
 have p4:=hd.p
 have hlf:lf<=9:=by have:=hf.length;omega
 have hsm:SmP F:=h9.cp.fit.smp
 have hqf:=acL h9.pq.q h0
 have v1:=(al0 h9.pq h0 p1 p2).2 ⟨x,hr⟩
 have v2:=(al0 h9.pq h0 p3 p4).2 ⟨x,hs⟩
 have V1:=Lh v1
 have V2:=Lh v2
 have he:∀ y,sgp F y=0↔sgp (aaP F) y=0:=fun y=>(hqf.root y).symm
 have hS:=SqF.of9 h9.pq h0
 have hP:=auP h9 h0 h1
 have hqx:sgp (aaP F) x=0:=(he x).1 hr.1
 have hqq:=h9.pq.q
 have EQ:=Lh (fun (c1:¬ acO r.1 r.2=0) (c2:¬ acO s.1 s.2=0)=>And.intro (aqA hr c1 p1 p2) (aqA hs c2 p3 p4))
 have K1:=Lh (show acO s.1 s.2=0->auS (aaP F) r s.1=0 from fun c=>by
  rw[akO hS.q0 hS.s he p1 p2 p3 hr]
  refine ajH ?_
  rcases hs.2 with h | h
  ·exact h.2
  ·have:=(acN p3 p4).1 c
   grind)
 have K2:=Lh (show acO r.1 r.2=0->auS (aaP F) s r.1=0 from fun c=>by
  rw[akO hS.q0 hS.s he p3 p4 p1 hs]
  refine ajH ?_
  rcases hr.2 with h | h
  ·exact h.2
  ·have:=(acN p1 p2).1 c
   grind)
 obtain ⟨Q,hQ⟩:∃ Q,Q=aaP F:=⟨_,rfl⟩
 rw[<- hQ] at hS hP hqx K1 K2
 have HQ:=Lh hQ
 have hlq:=hS.lq
 have PO:=Lh (fun (a:Fq) (h:FqB a)=>(hS.cp (by decide)).at hlq h.z h.q)
 have HS:=Lh hS
 have Hqx:=Lh hqx
 clear hz hq hz' hq' gz gq gz' gq' o1 o2 b2 t u hf v1 v2 he hqf hr hs hS hqx hQ
 go_enter Tryz.func10,Tryz.ntmps10
 obtain ⟨wb,hwb⟩:∃ wb,wb=(w.alloc (agU n A l c B m d n' A' l' c' B' m' d')).alloc (agU k C i e D j f k' C' i' e' D' j' f'):=⟨_,rfl⟩
 obtain ⟨g1,hg1⟩:∃ g,g=w.heap.size:=⟨_,rfl⟩
 obtain ⟨g2,hg2⟩:∃ g,g=w.heap.size+1:=⟨_,rfl⟩
 go_upto_region 1 with (fail)
 rw[<- hwb,<- hg1] at T
 rw[<- hwb,<- hg2] at U
 rw[<- hwb] at Hb ⊢
 rw[<- hg2,<- hg1]
 clear hwb hg1 hg2
 have x0:=T.out.r.c0;have x1:=T.out.r.c1;have x2:=T.out.r.c2;have x3:=T.out.c3;have x4:=T.out.c4;have x5:=T.out.c5;have y0:=U.out.r.c0;have y1:=U.out.r.c1;have y2:=U.out.r.c2;have y3:=U.out.c3;have y4:=U.out.c4;have y5:=U.out.c5
 go_wp2_with fail
 refine (akL hI _ _ _ F r.1 r.2 _ _ _ _ _ _ _ _ _ _ _ _ _ _ _ (HF.out.below hI Hb.out) (by omega) h9.pq T.out.r.hz T.out.r.hq T.out.hz T.out.hq ha hb).mono ?_
 rintro e0 w1 ⟨rfl,hb1⟩
 rw[V1.out]
 clear x0 x1 x2 x3 x4 x5 y0 y1 y2 y3 y4 y5
 replace T:=Lh (T.out.move hb1);replace U:=Lh (U.out.move hb1);replace Hb:=Lh (Hb.out.trans ((hb1).mono Hb.out.size))
 clear hb1
 have x0:=T.out.r.c0;have x1:=T.out.r.c1;have x2:=T.out.r.c2;have x3:=T.out.c3;have x4:=T.out.c4;have x5:=T.out.c5;have y0:=U.out.r.c0;have y1:=U.out.r.c1;have y2:=U.out.r.c2;have y3:=U.out.c3;have y4:=U.out.c4;have y5:=U.out.c5
 go_wp2_with fail
 refine (akL hI _ _ _ F s.1 s.2 _ _ _ _ _ _ _ _ _ _ _ _ _ _ _ (HF.out.below hI Hb.out) (by omega) h9.pq U.out.r.hz U.out.r.hq U.out.hz U.out.hq hc hd).mono ?_
 rintro e0 w2 ⟨rfl,hb2⟩
 rw[V2.out]
 clear x0 x1 x2 x3 x4 x5 y0 y1 y2 y3 y4 y5
 replace T:=Lh (T.out.move hb2);replace U:=Lh (U.out.move hb2);replace Hb:=Lh (Hb.out.trans ((hb2).mono Hb.out.size))
 clear hb2
 go_wp2_with fail
 refine (aiv hI _ _ _ _ _ (HF.out.below hI Hb.out) hsm (fun _=>hqq) (by omega)).mono ?_
 rintro e0 w3 ⟨A3,l3,c3,rfl,h3,hb3⟩
 rw[<- HQ.out] at h3
 replace T:=Lh (T.out.move hb3);replace U:=Lh (U.out.move hb3);replace Hb:=Lh (Hb.out.trans ((hb3).mono Hb.out.size))
 have H3:=Lh h3
 clear hb3 h3
 go_wp2_with fail
 refine (aiv hI _ _ _ _ _ (HF.out.below hI Hb.out) hsm (fun _=>hqq) (by omega)).mono ?_
 rintro e0 w4 ⟨A4,l4,c4,rfl,h4,hb4⟩
 rw[<- HQ.out] at h4
 replace T:=Lh (T.out.move hb4);replace U:=Lh (U.out.move hb4);replace Hb:=Lh (Hb.out.trans ((hb4).mono Hb.out.size))
 replace H3:=Lh (H3.out.below ikN hb4)
 have H4:=Lh h4
 have hl3:l3<=10:=by have:=H3.out.length;omega
 have hl4:l4<=10:=by have:=H4.out.length;omega
 clear hb4 h4 V1 V2 HF
 obtain ⟨ce,hce⟩:∃ ce,ce=decide (¬ acO r.1 r.2=0/\¬ acO s.1 s.2=0):=⟨_,rfl⟩
 have HCE:=Lh hce
 clear hce
 go_upto_region 4 with (fail)
 obtain ⟨wy,hwy⟩:∃ wy,wy=w4:=⟨_,rfl⟩
 rw[<- hwy] at T U Hb H3 H4 ⊢
 clear hwy
 have x0:=T.out.r.c0;have x1:=T.out.r.c1;have x2:=T.out.r.c2;have x3:=T.out.c3;have x4:=T.out.c4;have x5:=T.out.c5;have y0:=U.out.r.c0;have y1:=U.out.r.c1;have y2:=U.out.r.c2;have y3:=U.out.c3;have y4:=U.out.c4;have y5:=U.out.c5
 go_cut [40] (fun s40 wz=>s40=.bool ce/\Below wy.heap.size wy wz)
 case first =>
  go_wp2_with fail
  refine (adw (r:=r) T.out.r.hz T.out.r.hq T.out.hz T.out.hq ha hb).mono ?_
  rintro e0 w5 ⟨rfl,hb5⟩
  have H5:=Lh hb5
  by_cases c1:acO r.1 r.2=0
  ·have bq:(acO r.1 r.2 == 0)=true:=by rw[c1];rfl
   have EV:=Lh (show ce=false from HCE.out.trans (decide_eq_false fun h=>h.1 c1))
   clear c1 hb5
   go_wp2_with fail
   go_meet
   exact ⟨by rw[EV.out],H5.out⟩
  have bq:(acO r.1 r.2 == 0)=false:=by rw[beq_eq_false_iff_ne];exact c1
  have C1:=Lh c1
  replace T:=Lh (T.out.move hb5)
  replace U:=Lh (U.out.move hb5)
  clear hb5 c1
  clear x0 x1 x2 x3 x4 x5 y0 y1 y2 y3 y4 y5
  have x0:=T.out.r.c0;have x1:=T.out.r.c1;have x2:=T.out.r.c2;have x3:=T.out.c3;have x4:=T.out.c4;have x5:=T.out.c5;have y0:=U.out.r.c0;have y1:=U.out.r.c1;have y2:=U.out.r.c2;have y3:=U.out.c3;have y4:=U.out.c4;have y5:=U.out.c5
  go_wp2_with fail
  refine (adw (r:=s) U.out.r.hz U.out.r.hq U.out.hz U.out.hq hc hd).mono ?_
  rintro e0 w6 ⟨rfl,hb6⟩
  have H6:=Lh (H5.out.trans (hb6.mono H5.out.size))
  by_cases c2:acO s.1 s.2=0
  ·have bq2:(acO s.1 s.2 == 0)=true:=by rw[c2];rfl
   have EV:=Lh (show ce=false from HCE.out.trans (decide_eq_false fun h=>h.2 c2))
   clear c2 hb6
   go_wp2_with fail
   go_meet
   exact ⟨by rw[EV.out],H6.out⟩
  have bq2:(acO s.1 s.2 == 0)=false:=by rw[beq_eq_false_iff_ne];exact c2
  have EV:=Lh (show ce=true from HCE.out.trans (decide_eq_true ⟨C1.out,c2⟩))
  have IE:=Lh (EQ.out C1.out c2)
  replace T:=Lh (T.out.move hb6)
  replace U:=Lh (U.out.move hb6)
  clear hb6 c2
  clear x0 x1 x2 x3 x4 x5 y0 y1 y2 y3 y4 y5
  have x0:=T.out.r.c0;have x1:=T.out.r.c1;have x2:=T.out.r.c2;have x3:=T.out.c3;have x4:=T.out.c4;have x5:=T.out.c5;have y0:=U.out.r.c0;have y1:=U.out.r.c1;have y2:=U.out.r.c2;have y3:=U.out.c3;have y4:=U.out.c4;have y5:=U.out.c5
  go_wp2_with fail
  refine (aov (x:=x) (r:=r) (s:=s) (H3.out.below ikN H6.out) (H4.out.below ikN H6.out) hlq hP HS.out.q0 T.out.r.hz T.out.r.hq T.out.hz T.out.hq U.out.r.hz U.out.r.hq U.out.hz U.out.hq ha hb hc hd Hqx.out IE.out.1 IE.out.2).mono ?_
  rintro e0 w7 ⟨rfl,hb7⟩
  have H7:=Lh (H6.out.trans (hb7.mono H6.out.size))
  clear hb7
  go_wp2_with fail
  go_meet
  exact ⟨by rw[EV.out],H7.out⟩
 case rest =>
  obtain ⟨rfl,hb8⟩:=hcut
  clear x0 x1 x2 x3 x4 x5 y0 y1 y2 y3 y4 y5
  replace T:=Lh (T.out.move hb8);replace U:=Lh (U.out.move hb8);replace Hb:=Lh (Hb.out.trans ((hb8).mono Hb.out.size))
  replace H3:=Lh (H3.out.below ikN hb8)
  replace H4:=Lh (H4.out.below ikN hb8)
  clear hb8
  rcases Bool.eq_false_or_eq_true ce with hh | hh
  ·subst hh
   go_wp2_with fail
   refine bodyPost_ret (v:=.tuple #[.int .i64 0,.int .i64 0]) (by simp[results,Tryz.results10,go_sem]) rfl ⟨rfl,Hb.out⟩
  subst hh
  have HN:=Lh (of_decide_eq_false HCE.out.symm)
  clear HCE EQ
  obtain ⟨wo,hwo⟩:∃ wo,wo=wc:=⟨_,rfl⟩
  rw[<- hwo] at T U Hb H3 H4 ⊢
  clear hwo
  go_wp2_with fail
  go_loopw [] (fun wr=>wr=wo) (fun _=>0)
  case atStart=>rfl
  case round =>
   subst hrel
   have x0:=T.out.r.c0;have x1:=T.out.r.c1;have x2:=T.out.r.c2;have x3:=T.out.c3;have x4:=T.out.c4;have x5:=T.out.c5;have y0:=U.out.r.c0;have y1:=U.out.r.c1;have y2:=U.out.r.c2;have y3:=U.out.c3;have y4:=U.out.c4;have y5:=U.out.c5
   go_wp2_with fail
   refine (adw (r:=s) U.out.r.hz U.out.r.hq U.out.hz U.out.hq hc hd).mono ?_
   rintro e0 w5 ⟨rfl,hb5⟩
   clear x0 x1 x2 x3 x4 x5 y0 y1 y2 y3 y4 y5
   replace T:=Lh (T.out.move hb5);replace U:=Lh (U.out.move hb5);replace Hb:=Lh (Hb.out.trans ((hb5).mono Hb.out.size))
   replace H3:=Lh (H3.out.below ikN hb5)
   replace H4:=Lh (H4.out.below ikN hb5)
   clear hb5
   have x0:=T.out.r.c0;have x1:=T.out.r.c1;have x2:=T.out.r.c2;have x3:=T.out.c3;have x4:=T.out.c4;have x5:=T.out.c5;have y0:=U.out.r.c0;have y1:=U.out.r.c1;have y2:=U.out.r.c2;have y3:=U.out.c3;have y4:=U.out.c4;have y5:=U.out.c5
   by_cases c2:acO s.1 s.2=0
   ·have bq:(acO s.1 s.2 == 0)=true:=by rw[c2];rfl
    have KV:=Lh (K1.out c2)
    clear c2
    go_wp2_with fail
    refine (ahQ ikN (Q:=Q) (r:=r) (a:=s.1) H3.out (by omega) PO.out T.out.r.hz T.out.r.hq T.out.hz T.out.hq U.out.r.hz U.out.r.hq ha hb hc).mono ?_
    rintro e0 w6 ⟨rfl,hb6⟩
    rw[KV.out]
    replace Hb:=Lh (Hb.out.trans (hb6.mono Hb.out.size))
    clear x0 x1 x2 x3 x4 x5 y0 y1 y2 y3 y4 y5
    clear hb6 T U H3 H4
    go_wp2_with fail
    refine bodyPost_ret (v:=.tuple #[.int .i64 0,.int .i64 0]) (by simp[results,Tryz.results10,go_sem]) rfl ⟨rfl,Hb.out⟩
   ·have c1:acO r.1 r.2=0:=Classical.byContradiction fun h=>HN.out ⟨h,c2⟩
    have bq:(acO s.1 s.2 == 0)=false:=by rw[beq_eq_false_iff_ne];exact c2
    have br:(acO r.1 r.2 == 0)=true:=by rw[c1];rfl
    have KV:=Lh (K2.out c1)
    clear c1 c2
    go_wp2_with fail
    refine (adw (r:=r) T.out.r.hz T.out.r.hq T.out.hz T.out.hq ha hb).mono ?_
    rintro e0 w6 ⟨rfl,hb6⟩
    clear x0 x1 x2 x3 x4 x5 y0 y1 y2 y3 y4 y5
    replace T:=Lh (T.out.move hb6);replace U:=Lh (U.out.move hb6);replace Hb:=Lh (Hb.out.trans ((hb6).mono Hb.out.size))
    replace H3:=Lh (H3.out.below ikN hb6)
    replace H4:=Lh (H4.out.below ikN hb6)
    clear hb6
    have x0:=T.out.r.c0;have x1:=T.out.r.c1;have x2:=T.out.r.c2;have x3:=T.out.c3;have x4:=T.out.c4;have x5:=T.out.c5;have y0:=U.out.r.c0;have y1:=U.out.r.c1;have y2:=U.out.r.c2;have y3:=U.out.c3;have y4:=U.out.c4;have y5:=U.out.c5
    go_wp2_with fail
    refine (ahQ ikN (Q:=Q) (r:=s) (a:=r.1) H4.out (by omega) PO.out U.out.r.hz U.out.r.hq U.out.hz U.out.hq T.out.r.hz T.out.r.hq hc hd ha).mono ?_
    rintro e0 w7 ⟨rfl,hb7⟩
    rw[KV.out]
    replace Hb:=Lh (Hb.out.trans (hb7.mono Hb.out.size))
    clear x0 x1 x2 x3 x4 x5 y0 y1 y2 y3 y4 y5
    clear hb7 T U H3 H4
    go_wp2_with fail
    refine bodyPost_ret (v:=.tuple #[.int .i64 0,.int .i64 0]) (by simp[results,Tryz.results10,go_sem]) rfl ⟨rfl,Hb.out⟩
end Go.Proofs.YtdimmlckpgpgcaaGreat
namespace Go.Proofs.YtdimmlckpgpgcaaGreat
open Go.RowKit
def lcd (a b:Nat):Int:=((((a:Int).tdiv ((Nat.gcd (a:Int).natAbs (b:Int).natAbs:Nat):Int))*(b:Int)).natAbs:Nat)
theorem ank (a b:Nat):lcd a b=((a / Nat.gcd a b*b:Nat):Int):=by
 unfold lcd
 rw[Int.natAbs_natCast,Int.natAbs_natCast,<- Int.ofNat_tdiv,<- Int.natCast_mul,Int.natAbs_natCast]
theorem auV {a b:Nat} (ha:0<a) (hb:0<b):0<a / Nat.gcd a b*b:=Nat.mul_pos (Nat.div_pos (Nat.gcd_le_left _ ha) (Nat.gcd_pos_of_pos_left _ ha)) hb
theorem anl {a b:Nat}:(lcd a b).tmod (a:Int)=0:=by
 rw[ank,<- Int.ofNat_tmod]
 obtain ⟨k,hk⟩:=Nat.gcd_dvd_right a b
 obtain ⟨j,hj⟩:=Nat.gcd_dvd_left a b
 have h:a / Nat.gcd a b*b=a*k:=by
  by_cases hg:Nat.gcd a b=0
  ·have h0:a=0:=Nat.eq_zero_of_gcd_eq_zero_left hg
   rw[h0];simp
  ·have h1:a / Nat.gcd a b=j:=by
    refine Nat.div_eq_of_eq_mul_right (Nat.pos_of_ne_zero hg) hj
   rw[h1]
   calc j*b=j*(Nat.gcd a b*k):=by rw[<- hk]
    _=(Nat.gcd a b*j)*k:=by rw[<- Nat.mul_assoc,Nat.mul_comm j]
    _=a*k:=by rw[<- hj]
 rw[h,Nat.mul_mod_right];rfl
theorem akQ {a b:Nat}:(lcd a b).tmod (b:Int)=0:=by
 rw[ank,<- Int.ofNat_tmod,Nat.mul_mod_left];rfl
theorem aaE.amX {W:World} {n n':Bool} {A A' B':Option Addr} {l c l' c' m' d' g':Nat} {z z':Int} {q':Nat} (h:aaE W n A l c z) (h':abV W g' n' A' l' c' B' m' d' z' q') (u v x:Value):aaE (((W.setCell ⟨g',0,none⟩ u).setCell ⟨g',1,none⟩ v).setCell ⟨g',2,none⟩ x) n A l c z:=by
 have j2:((W.setCell ⟨g',0,none⟩ u).setCell ⟨g',1,none⟩ v).cell? ⟨g',2,none⟩=some (.slice B' m' d'):=by
  rw[World.cell?_setCell_other _ _ _ _ (by simp),World.cell?_setCell_other _ _ _ _ (by simp)];exact h'.c2
 exact (h.ret u v h'.c0 h'.c1).store x j2 (aai _ _ _)
theorem aaW.amX {W:World} {n':Bool} {A' B B':Option Addr} {m d l' c' m' d' g':Nat} {q q':Nat} {z':Int} (h:aaW W B m d q) (h':abV W g' n' A' l' c' B' m' d' z' q') (u v x:Value):aaW (((W.setCell ⟨g',0,none⟩ u).setCell ⟨g',1,none⟩ v).setCell ⟨g',2,none⟩ x) B m d q:=by
 have j1:(W.setCell ⟨g',0,none⟩ u).cell? ⟨g',1,none⟩=some (.slice A' l' c'):=by
  rw[World.cell?_setCell_other W _ _ _ (by simp)];exact h'.c1
 have j2:((W.setCell ⟨g',0,none⟩ u).setCell ⟨g',1,none⟩ v).cell? ⟨g',2,none⟩=some (.slice B' m' d'):=by
  rw[World.cell?_setCell_other _ _ _ _ (by simp),World.cell?_setCell_other _ _ _ _ (by simp)];exact h'.c2
 exact ((h.store u h'.c0 (aaL _)).store v j1 (aai _ _ _)).store x j2 (aai _ _ _)
def CdA (w:World) (z1:Int) (a:Nat) (z2:Int) (b:Nat) (wx:World):Prop:=∃ n1 A1 l1 c1 B1 m1 d1 n2 A2 l2 c2 B2 m2 d2,abV wx w.heap.size n1 A1 l1 c1 B1 m1 d1 z1 a/\abV wx (w.heap.size+1) n2 A2 l2 c2 B2 m2 d2 z2 b/\aaN wx (w.heap.size+1+1) false none 0 0 0/\aaN wx (w.heap.size+1+1+1) false none 0 0 0/\aaN wx (w.heap.size+1+1+1+1) false none 0 0 0/\Below w.heap.size w wx
set_option maxRecDepth 100000 in
set_option maxHeartbeats 4000000 in
theorem aox (n:Bool) (A:Option Addr) (l c:Nat) (B:Option Addr) (m d q:Nat) (z:Int) (n':Bool) (A':Option Addr) (l' c':Nat) (B':Option Addr) (m' d' q':Nat) (z':Int) (w:World) (hz:aaE w n A l c z) (hq:aaW w B m d q) (hz':aaE w n' A' l' c' z') (hq':aaW w B' m' d' q') (hu:Fit z) (hv:Fit (q:Int)) (h0:0<q) (hu':Fit z') (hv':Fit (q':Int)) (h0':0<q') (hfD:Fit (lcd (q / Nat.gcd z.natAbs q) (q' / Nat.gcd z'.natAbs q'))) :
 Calls Tryz.prog 113 #[.agg #[.bool n,.slice A l c,.slice B m d],.agg #[.bool n',.slice A' l' c',.slice B' m' d']] w fun e w'=>∃ z1 a z2 b,z1=z.tdiv (Nat.gcd z.natAbs q)/\a=q / Nat.gcd z.natAbs q/\z2=z'.tdiv (Nat.gcd z'.natAbs q')/\b=q' / Nat.gcd z'.natAbs q'/\∃ n1 A1 l1 c1 n2 A2 l2 c2 n3 A3 l3 c3,e=.returned (.tuple #[.agg #[.bool n1,.slice A1 l1 c1],.agg #[.bool n2,.slice A2 l2 c2],.agg #[.bool n3,.slice A3 l3 c3]])/\aaE w' n1 A1 l1 c1 (z1*(lcd a b).tdiv (a:Int))/\aaE w' n2 A2 l2 c2 (z2*(lcd a b).tdiv (b:Int))/\aaE w' n3 A3 l3 c3 (lcd a b)/\Below w.heap.size w w':=by
 obtain ⟨z1,hz1⟩:∃ z1,z1=z.tdiv (Nat.gcd z.natAbs q):=⟨_,rfl⟩
 obtain ⟨a,ha⟩:∃ a,a=q / Nat.gcd z.natAbs q:=⟨_,rfl⟩
 obtain ⟨z2,hz2⟩:∃ z2,z2=z'.tdiv (Nat.gcd z'.natAbs q'):=⟨_,rfl⟩
 obtain ⟨b,hb⟩:∃ b,b=q' / Nat.gcd z'.natAbs q':=⟨_,rfl⟩
 have fa:Fit (a:Int):=by unfold Fit;rw[ha,Int.natAbs_natCast];unfold Fit at hv;rw[Int.natAbs_natCast] at hv;exact Nat.lt_of_le_of_lt (Nat.div_le_self _ _) hv
 have fb:Fit (b:Int):=by unfold Fit;rw[hb,Int.natAbs_natCast];unfold Fit at hv';rw[Int.natAbs_natCast] at hv';exact Nat.lt_of_le_of_lt (Nat.div_le_self _ _) hv'
 have pa:0<a:=by rw[ha];exact Nat.div_pos (Nat.gcd_le_right _ h0) (Nat.gcd_pos_of_pos_right _ h0)
 have pb:0<b:=by rw[hb];exact Nat.div_pos (Nat.gcd_le_right _ h0') (Nat.gcd_pos_of_pos_right _ h0')
 have f1:Fit z1:=Nat.lt_of_le_of_lt (by rw[hz1,Int.natAbs_tdiv];exact Nat.div_le_self _ _) hu
 have f2:Fit z2:=Nat.lt_of_le_of_lt (by rw[hz2,Int.natAbs_tdiv];exact Nat.div_le_self _ _) hu'
 refine Calls.mono ?_ (fun e w' h=>⟨z1,a,z2,b,hz1,ha,hz2,hb,h⟩)
 have Z1:=Lh hz1
 have HA:=Lh ha
 have Z2:=Lh hz2
 have HB:=Lh hb
 clear hz1 ha hz2 hb
 have fD:Fit (lcd a b):=by rw[HA.out,HB.out];exact hfD
 have tl:(lcd a b).tmod (a:Int)=0:=anl
 have tr:(lcd a b).tmod (b:Int)=0:=akQ
 have hcE:((((a:Int).tdiv ((Nat.gcd (a:Int).natAbs (b:Int).natAbs:Nat):Int))*(b:Int)).natAbs:Nat)=lcd a b:=rfl
 obtain ⟨D,hD⟩:∃ D,D=lcd a b:=⟨_,rfl⟩
 rw[<- hD] at fD tl tr hcE ⊢
 obtain ⟨U,hU⟩:∃ U,U=D.tdiv (a:Int):=⟨_,rfl⟩
 obtain ⟨V,hV⟩:∃ V,V=D.tdiv (b:Int):=⟨_,rfl⟩
 have fU:Fit U:=Nat.lt_of_le_of_lt (by rw[hU,Int.natAbs_tdiv];exact Nat.div_le_self _ _) fD
 have fV:Fit V:=Nat.lt_of_le_of_lt (by rw[hV,Int.natAbs_tdiv];exact Nat.div_le_self _ _) fD
 rw[<- hU,<- hV]
 have HU:=Lh hU
 have HV:=Lh hV
 have HC:=Lh hcE
 have Ta:=Lh tl
 have Tb:=Lh tr
 clear hU hV hcE hD tl tr
 have na0:(a:Int)≠0:=by omega
 have nb0:(b:Int)≠0:=by omega
 have o1:=aak w (aaV n A l c B m d)
 have o2:=aak (w.alloc (aaV n A l c B m d)) (aaV n' A' l' c' B' m' d')
 have o3:=aak ((w.alloc (aaV n A l c B m d)).alloc (aaV n' A' l' c' B' m' d')) (aaq false none 0 0)
 have o4:=aak (((w.alloc (aaV n A l c B m d)).alloc (aaV n' A' l' c' B' m' d')).alloc (aaq false none 0 0)) (aaq false none 0 0)
 have o5:=aak ((((w.alloc (aaV n A l c B m d)).alloc (aaV n' A' l' c' B' m' d')).alloc (aaq false none 0 0)).alloc (aaq false none 0 0)) (aaq false none 0 0)
 have R1:=((((abV.make hz hq).move o2).move o3).move o4).move o5
 have R2:=(((abV.make (hz'.below o1) (hq'.below o1)).move o3).move o4).move o5
 have I4:=((aaN.nil ((w.alloc (aaV n A l c B m d)).alloc (aaV n' A' l' c' B' m' d'))).move o4).move o5
 have I5:=(aaN.nil (((w.alloc (aaV n A l c B m d)).alloc (aaV n' A' l' c' B' m' d')).alloc (aaq false none 0 0))).move o5
 have I6:=aaN.nil ((((w.alloc (aaV n A l c B m d)).alloc (aaV n' A' l' c' B' m' d')).alloc (aaq false none 0 0)).alloc (aaq false none 0 0))
 have b5:Below w.heap.size w (((((w.alloc (aaV n A l c B m d)).alloc (aaV n' A' l' c' B' m' d')).alloc (aaq false none 0 0)).alloc (aaq false none 0 0)).alloc (aaq false none 0 0)):=((((o1.alloc (by simp) _).alloc (by simp;omega) _).alloc (by simp;omega) _).alloc (by simp;omega) _)
 simp only[World.size_alloc] at R2 I4 I5 I6
 replace R1:=Lh R1
 replace R2:=Lh R2
 replace I4:=Lh I4
 replace I5:=Lh I5
 replace I6:=Lh I6
 have Hb:=Lh b5
 clear b5 o1 o2 o3 o4 o5 hz hq hz' hq'
 go_enter Tryz.func113,Tryz.ntmps113
 go_wp2_with fail
 go_cut [] (fun wx=>CdA w z1 a z2 b wx)
 case first =>
  obtain ⟨wb,hwb⟩:∃ wb,wb=(((((w.alloc (aaV n A l c B m d)).alloc (aaV n' A' l' c' B' m' d')).alloc (aaq false none 0 0)).alloc (aaq false none 0 0)).alloc (aaq false none 0 0)):=⟨_,rfl⟩
  rw[<- hwb] at R1 R2 I4 I5 I6 Hb ⊢
  clear hwb
  have s0:=R2.out.c0
  have s1:=R2.out.c1
  have s2:=R2.out.c2
  have t0:=R1.out.c0
  have t1:=R1.out.c1
  have t2:=R1.out.c2
  refine aaK (S:=fun w'=>w'.cell? ⟨w.heap.size+1,0,none⟩=some (.bool n')/\w'.cell? ⟨w.heap.size+1,1,none⟩=some (.slice A' l' c')/\w'.cell? ⟨w.heap.size+1,2,none⟩=some (.slice B' m' d')) (by kernel_rfl) (by kernel_rfl) (by (try dsimp only);go_keep) (fun hHeld=>?_)
  simp only[List.pop_toArray,List.dropLast]
  (refine tq 2 ?_;simp only[aad,List.set])
  refine rdy 0 (fun K hK=>?_);go_simp
  refine hK.out _ _ ?_ (fun _=>?_)
  ·(try dsimp only);go_keep
  clear hHeld hK K
  rename_i hHeld
  (try (simp only[aad,List.set]))
  refine rdy 1 (fun K hK=>?_);go_simp
  refine (abP _ _ _ _ _ _ _ _ _ _ (R1.out.hz.below Bel.go) (R1.out.hq.below Bel.go) hu hv h0).mono ?_
  rintro e w7 ⟨⟨n7,A7,l7,c7,B7,m7,d7,rfl,h7,k7⟩,hb7⟩
  rw[<- Z1.out] at h7
  rw[<- HA.out] at k7
  obtain ⟨hcx,hfx⟩:=aap hb7
  replace R1:=Lh (R1.out.move (Below.trans Bel.go (hb7.mono (by simp<;>omega))))
  replace R2:=Lh (R2.out.move (Below.trans Bel.go (hb7.mono (by simp<;>omega))))
  replace I4:=Lh (I4.out.move (Below.trans Bel.go (hb7.mono (by simp<;>omega))))
  replace I5:=Lh (I5.out.move (Below.trans Bel.go (hb7.mono (by simp<;>omega))))
  replace I6:=Lh (I6.out.move (Below.trans Bel.go (hb7.mono (by simp<;>omega))))
  replace Hb:=Lh (Hb.out.trans ((Below.trans Bel.go (hb7.mono (by simp<;>omega))).mono Hb.out.size))
  have H7:=Lh h7
  have K7:=Lh k7
  refine hK.out _ _ ?_ (fun _=>?_)
  ·((try dsimp only);repeat' apply And.intro)<;>(rw[hcx _ (by go_simp)];go_simp)
  clear hHeld hK K hcx hfx;rename_i hHeld
  clear h7 k7 hb7
  refine rdy 3 (fun K hK=>?_);go_simp
  refine (abP _ _ _ _ _ _ _ _ _ _ (R2.out.hz.below Bel.go) (R2.out.hq.below Bel.go) hu' hv' h0').mono ?_
  rintro e w8 ⟨⟨n8,A8,l8,c8,B8,m8,d8,rfl,h8,k8⟩,hb8⟩
  rw[<- Z2.out] at h8
  rw[<- HB.out] at k8
  obtain ⟨hcx,hfx⟩:=aap hb8
  replace R1:=Lh (R1.out.move (Below.trans Bel.go (hb8.mono (by simp<;>omega))))
  replace R2:=Lh (R2.out.move (Below.trans Bel.go (hb8.mono (by simp<;>omega))))
  replace I4:=Lh (I4.out.move (Below.trans Bel.go (hb8.mono (by simp<;>omega))))
  replace I5:=Lh (I5.out.move (Below.trans Bel.go (hb8.mono (by simp<;>omega))))
  replace I6:=Lh (I6.out.move (Below.trans Bel.go (hb8.mono (by simp<;>omega))))
  replace Hb:=Lh (Hb.out.trans ((Below.trans Bel.go (hb8.mono (by simp<;>omega))).mono Hb.out.size))
  have H7':=Lh (H7.out.below (Below.trans Bel.go (hb8.mono (by simp<;>omega))))
  have K7':=Lh (K7.out.below (Below.trans Bel.go (hb8.mono (by simp<;>omega))))
  have H8:=Lh h8
  have K8:=Lh k8
  refine hK.out _ _ ?_ (fun _=>?_)
  ·((try dsimp only);repeat' apply And.intro)<;>(rw[hcx _ (by go_simp)];go_simp)
  clear hHeld hK K hcx hfx;rename_i hHeld
  clear h8 k8 hb8 H7 K7
  have p0:=R1.out.c0
  have p1:=R1.out.c1
  have p2:=R1.out.c2
  have p3:=R1.out.f0
  have p4:=R1.out.f1
  have p5:=R1.out.f2
  refine rdy 4 (fun K hK=>?_);go_simp
  refine hK.out _ _ ?_ (fun _=>?_)
  ·(try dsimp only);go_keep
  clear hHeld hK K
  have P1:=R1.out.put H7'.out K7'.out
  have P2:=R2.out.far R1.out (by omega) (.bool n7) (.slice A7 l7 c7) (.slice B7 m7 d7)
  have J4:=I4.out.asX R1.out (by omega) (.bool n7) (.slice A7 l7 c7) (.slice B7 m7 d7)
  have J5:=I5.out.asX R1.out (by omega) (.bool n7) (.slice A7 l7 c7) (.slice B7 m7 d7)
  have J6:=I6.out.asX R1.out (by omega) (.bool n7) (.slice A7 l7 c7) (.slice B7 m7 d7)
  have G8:=H8.out.amX R1.out (.bool n7) (.slice A7 l7 c7) (.slice B7 m7 d7)
  have L8:=K8.out.amX R1.out (.bool n7) (.slice A7 l7 c7) (.slice B7 m7 d7)
  have Hbp:=((Hb.out.setCell (p:=⟨w.heap.size,0,none⟩) (Nat.le_refl _) (.bool n7)).setCell (p:=⟨w.heap.size,1,none⟩) (Nat.le_refl _) (.slice A7 l7 c7)).setCell (p:=⟨w.heap.size,2,none⟩) (Nat.le_refl _) (.slice B7 m7 d7)
  obtain ⟨wp,hwp⟩:∃ wp,wp=((w8.setCell ⟨w.heap.size,0,none⟩ (.bool n7)).setCell ⟨w.heap.size,1,none⟩ (.slice A7 l7 c7)).setCell ⟨w.heap.size,2,none⟩ (.slice B7 m7 d7):=⟨_,rfl⟩
  unfold amX at P1
  (try simp only[aad,List.set])
  rw[<- hwp] at P1 P2 J4 J5 J6 G8 L8 Hbp
  rw[<- hwp]
  clear hwp p0 p1 p2 p3 p4 p5 R1 R2 I4 I5 I6 Hb H7' K7' H8 K8 s0 s1 s2 t0 t1 t2
  have p0:=P2.c0
  have p1:=P2.c1
  have p2:=P2.c2
  have p3:=P2.f0
  have p4:=P2.f1
  have p5:=P2.f2
  refine wpAnyH_done (by kernel_rfl) (aaS rfl ?_) _
  have Q1:=Lh (P1.far P2 (by omega) (.bool n8) (.slice A8 l8 c8) (.slice B8 m8 d8))
  have Q2:=Lh (P2.put G8 L8)
  have Q4:=Lh (J4.asX P2 (by omega) (.bool n8) (.slice A8 l8 c8) (.slice B8 m8 d8))
  have Q5:=Lh (J5.asX P2 (by omega) (.bool n8) (.slice A8 l8 c8) (.slice B8 m8 d8))
  have Q6:=Lh (J6.asX P2 (by omega) (.bool n8) (.slice A8 l8 c8) (.slice B8 m8 d8))
  have Qb:=Lh (((Hbp.setCell (p:=⟨w.heap.size+1,0,none⟩) (by simp) (.bool n8)).setCell (p:=⟨w.heap.size+1,1,none⟩) (by simp) (.slice A8 l8 c8)).setCell (p:=⟨w.heap.size+1,2,none⟩) (by simp) (.slice B8 m8 d8))
  clear P1 P2 J4 J5 J6 G8 L8 Hbp
  go_wp2
  go_meet
  exact ⟨_,_,_,_,_,_,_,_,_,_,_,_,_,_,Q1.out,Q2.out,Q4.out,Q5.out,Q6.out,Qb.out⟩
 case rest =>
  obtain ⟨n1,A1,l1,c1,B1,m1,d1,n2,A2,l2,c2,B2,m2,d2,r1,r2,i4,i5,i6,hb⟩:=hcut
  clear R1 R2 I4 I5 I6 Hb
  have R1:=Lh r1
  have R2:=Lh r2
  have I4:=Lh i4
  have I5:=Lh i5
  have I6:=Lh i6
  have Hb:=Lh hb
  have p0:=r1.c2
  have q0:=r2.c2
  have ltA:=r1.lt
  have ltB:=r2.lt
  have ltI:=i6.lt
  have nn1:wc.heap.size≠w.heap.size:=by omega
  have nn2:wc.heap.size≠w.heap.size+1:=by omega
  have nn3:wc.heap.size+1≠w.heap.size:=by omega
  have nn4:wc.heap.size+1≠w.heap.size+1:=by omega
  clear r1 r2 i4 i5 i6 hb
  go_wp2_with fail
  go_cut [7,8] (fun s7 s8 wx=>Two wc (a:Int) (b:Int) s7 s8 wx)
  case first =>
   go_region_held3 (fun w'=>w'.cell? ⟨w.heap.size,2,none⟩=some (.slice B1 m1 d1)/\w'.cell? ⟨w.heap.size+1,2,none⟩=some (.slice B2 m2 d2)) (go_keep) (first
    | (go_at_call_of 68 (Value.slice B1 m1 d1);go_must (refine (adb _ _ _ _ _ _ ?_ fa.smn).mono ?_;(exact R1.out.hq.at_.below Bel.go);rintro e w8 ⟨n8,A8,l8,c8,rfl,h8,hb8⟩;rw[abx] at h8;have H8:=Lh h8;have Hb8:Hid (Below wc.heap.size wc w8):=Lh (Below.trans Bel.go (hb8.mono (by simp<;>omega)));have zy:=hb8.size;(try simp only[World.size_alloc,World.size_drew] at zy);have v8:w8.heap.size≠w.heap.size:=(by omega);have v9:w8.heap.size≠w.heap.size+1:=(by omega);have v10:w8.heap.size+1≠w.heap.size:=(by omega);have v11:w8.heap.size+1≠w.heap.size+1:=(by omega);obtain ⟨hcx,hfx⟩:=aap hb8;have v0:w8.cell? ⟨w.heap.size,2,none⟩=some (.slice B1 m1 d1):=(hcx _ (by go_simp)).trans (by go_simp);have v1:w8.cell? ⟨w.heap.size+1,2,none⟩=some (.slice B2 m2 d2):=(hcx _ (by go_simp)).trans (by go_simp);(try (have cpa:World.cell? w8 ⟨wc.heap.size,0,none⟩=some (.bool false):=?_;rotate_left;(focus (refine (hcx _ ?_).trans ?_<;>(go_simp;done)));have cpb:World.cell? w8 ⟨wc.heap.size,1,none⟩=some (.slice none 0 0):=?_;rotate_left;(focus (refine (hcx _ ?_).trans ?_<;>(go_simp;done)));have cpc:World.frozen? w8 ⟨wc.heap.size,0,none⟩=false:=?_;rotate_left;(focus (refine (hfx _ ?_).trans ?_<;>(go_simp;done)));have cpd:World.frozen? w8 ⟨wc.heap.size,1,none⟩=false:=?_;rotate_left;(focus (refine (hfx _ ?_).trans ?_<;>(go_simp;done)));have cpe:wc.heap.size<w8.heap.size:=(by omega);have cpn:=Lh (Nbx.mk cpa cpb cpc cpd cpe)));(try (have cqa:World.cell? w8 ⟨wc.heap.size+1,0,none⟩=some (.bool false):=?_;rotate_left;(focus (refine (hcx _ ?_).trans ?_<;>(go_simp;done)));have cqb:World.cell? w8 ⟨wc.heap.size+1,1,none⟩=some (.slice none 0 0):=?_;rotate_left;(focus (refine (hcx _ ?_).trans ?_<;>(go_simp;done)));have cqc:World.frozen? w8 ⟨wc.heap.size+1,0,none⟩=false:=?_;rotate_left;(focus (refine (hfx _ ?_).trans ?_<;>(go_simp;done)));have cqd:World.frozen? w8 ⟨wc.heap.size+1,1,none⟩=false:=?_;rotate_left;(focus (refine (hfx _ ?_).trans ?_<;>(go_simp;done)));have cqe:wc.heap.size+1<w8.heap.size:=(by omega);have cqn:=Lh (Nbx.mk cqa cqb cqc cqd cqe)));clear h8 hcx hfx hb8))
    | (go_at_call_of 68 (Value.slice B2 m2 d2);go_must (refine (adb _ _ _ _ _ _ ?_ fb.smn).mono ?_;(exact (R2.out.move Hb8.out).hq.at_.below Bel.go);rintro e w9 ⟨n9,A9,l9,c9,rfl,h9,hb9⟩;rw[abx] at h9;have H8':=Lh (H8.out.below (Below.trans Bel.go (hb9.mono (by simp<;>omega))));have H9:=Lh h9;have Hb9:Hid (Below wc.heap.size wc w9):=Lh (Hb8.out.trans ((Below.trans Bel.go (hb9.mono (by simp<;>omega))).mono Hb8.out.size));have zz:=hb9.size;(try simp only[World.size_alloc] at zz);have v18:w9.heap.size≠w.heap.size:=(by omega);have v19:w9.heap.size≠w.heap.size+1:=(by omega);have v20:w9.heap.size+1≠w.heap.size:=(by omega);have v21:w9.heap.size+1≠w.heap.size+1:=(by omega);obtain ⟨hcx,hfx⟩:=aap hb9;have u0:w9.cell? ⟨w.heap.size,2,none⟩=some (.slice B1 m1 d1):=(hcx _ (by go_simp)).trans (by go_simp);have u1:w9.cell? ⟨w.heap.size+1,2,none⟩=some (.slice B2 m2 d2):=(hcx _ (by go_simp)).trans (by go_simp);(try (have cra:World.cell? w9 ⟨wc.heap.size,0,none⟩=some (.bool false):=?_;rotate_left;(focus (refine (hcx _ ?_).trans ?_<;>(go_simp;done)));have crb:World.cell? w9 ⟨wc.heap.size,1,none⟩=some (.slice none 0 0):=?_;rotate_left;(focus (refine (hcx _ ?_).trans ?_<;>(go_simp;done)));have crc:World.frozen? w9 ⟨wc.heap.size,0,none⟩=false:=?_;rotate_left;(focus (refine (hfx _ ?_).trans ?_<;>(go_simp;done)));have crd:World.frozen? w9 ⟨wc.heap.size,1,none⟩=false:=?_;rotate_left;(focus (refine (hfx _ ?_).trans ?_<;>(go_simp;done)));have cre:wc.heap.size<w9.heap.size:=(by omega);have crn:=Lh (Nbx.mk cra crb crc crd cre)));(try (have csa:World.cell? w9 ⟨wc.heap.size+1,0,none⟩=some (.bool false):=?_;rotate_left;(focus (refine (hcx _ ?_).trans ?_<;>(go_simp;done)));have csb:World.cell? w9 ⟨wc.heap.size+1,1,none⟩=some (.slice none 0 0):=?_;rotate_left;(focus (refine (hcx _ ?_).trans ?_<;>(go_simp;done)));have csc:World.frozen? w9 ⟨wc.heap.size+1,0,none⟩=false:=?_;rotate_left;(focus (refine (hfx _ ?_).trans ?_<;>(go_simp;done)));have csd:World.frozen? w9 ⟨wc.heap.size+1,1,none⟩=false:=?_;rotate_left;(focus (refine (hfx _ ?_).trans ?_<;>(go_simp;done)));have cse:wc.heap.size+1<w9.heap.size:=(by omega);have csn:=Lh (Nbx.mk csa csb csc csd cse)));(try (have cta:World.cell? w9 ⟨w8.heap.size,0,none⟩=some (.bool false):=?_;rotate_left;(focus (refine (hcx _ ?_).trans ?_<;>(go_simp;done)));have ctb:World.cell? w9 ⟨w8.heap.size,1,none⟩=some (.slice none 0 0):=?_;rotate_left;(focus (refine (hcx _ ?_).trans ?_<;>(go_simp;done)));have ctc:World.frozen? w9 ⟨w8.heap.size,0,none⟩=false:=?_;rotate_left;(focus (refine (hfx _ ?_).trans ?_<;>(go_simp;done)));have ctd:World.frozen? w9 ⟨w8.heap.size,1,none⟩=false:=?_;rotate_left;(focus (refine (hfx _ ?_).trans ?_<;>(go_simp;done)));have cte:w8.heap.size<w9.heap.size:=(by omega);have ctn:=Lh (Nbx.mk cta ctb ctc ctd cte)));(try (have cua:World.cell? w9 ⟨w8.heap.size+1,0,none⟩=some (.bool false):=?_;rotate_left;(focus (refine (hcx _ ?_).trans ?_<;>(go_simp;done)));have cub:World.cell? w9 ⟨w8.heap.size+1,1,none⟩=some (.slice none 0 0):=?_;rotate_left;(focus (refine (hcx _ ?_).trans ?_<;>(go_simp;done)));have cuc:World.frozen? w9 ⟨w8.heap.size+1,0,none⟩=false:=?_;rotate_left;(focus (refine (hfx _ ?_).trans ?_<;>(go_simp;done)));have cud:World.frozen? w9 ⟨w8.heap.size+1,1,none⟩=false:=?_;rotate_left;(focus (refine (hfx _ ?_).trans ?_<;>(go_simp;done)));have cue:w8.heap.size+1<w9.heap.size:=(by omega);have cun:=Lh (Nbx.mk cua cub cuc cud cue)));clear h9 hcx hfx hb9)))
   all_goals go_wp2_with fail
   all_goals go_meet
   all_goals (rename_i hHeld;clear hHeld R1 R2 I4 I5 I6 Hb H8 Hb8)
   all_goals (first | exact auw H8'.out H9.out Hb9.out | exact awm H8'.out H9.out Hb9.out | (refine auy ?_ H8'.out H9.out Hb9.out (by omega);exact Hid.out (by assumption)) | (refine awn ?_ H8'.out H9.out Hb9.out (by omega);exact Hid.out (by assumption)) | (refine awo ?_ ?_ (by omega) H8'.out H9.out Hb9.out (by omega) (by omega)<;>exact Hid.out (by assumption)))
  case rest =>
   obtain ⟨g7,n7,A7,l7,c7,g8,n8,A8,l8,c8,rfl,rfl,aBF,hg7,hg8,h7,h8,hb8⟩:=hcut
   replace R1:=Lh (R1.out.move hb8)
   replace R2:=Lh (R2.out.move hb8)
   replace I4:=Lh (I4.out.move hb8)
   replace I5:=Lh (I5.out.move hb8)
   replace I6:=Lh (I6.out.move hb8)
   replace Hb:=Lh (Hb.out.trans (hb8.mono Hb.out.size))
   have I7:=Lh h7
   have I8:=Lh h8
   clear h7 h8 hb8 p0 q0
   have x0:=I7.out.c0
   have x1:=I7.out.c1
   have y0:=I8.out.c0
   have y1:=I8.out.c1
   go_wp2_with fail
   refine (auz _ _ _ _ _ _ _ _ _ _ _ I7.out.hz I8.out.hz na0 nb0 fa fb).mono ?_
   rintro e w9 ⟨n9,A9,l9,c9,rfl,h9,hb9⟩
   rw[HC.out] at h9
   replace R1:=Lh (R1.out.move hb9)
   replace R2:=Lh (R2.out.move hb9)
   replace I4:=Lh (I4.out.move hb9)
   replace I5:=Lh (I5.out.move hb9)
   replace I6:=Lh (I6.out.move hb9)
   replace I7:=Lh (I7.out.move hb9)
   replace I8:=Lh (I8.out.move hb9)
   replace Hb:=Lh (Hb.out.trans (hb9.mono Hb.out.size))
   have v0:=I6.out.c0
   have v1:=I6.out.c1
   have v2:=I6.out.f0
   have v3:=I6.out.f1
   have H9:=Lh h9
   clear h9 hb9 x0 x1 y0 y1
   have x0:=I7.out.c0
   have x1:=I7.out.c1
   have y0:=I8.out.c0
   have y1:=I8.out.c1
   have ng7:w.heap.size+1+1+1+1≠g7:=by omega
   have ng8:w.heap.size+1+1+1+1≠g8:=by omega
   have aAH:g7≠w.heap.size+1+1+1+1:=by omega
   have aAI:g8≠w.heap.size+1+1+1+1:=by omega
   have S1:=R1.out.auo I6.out (by omega) (.bool n9) (.slice A9 l9 c9)
   have S2:=R2.out.auo I6.out (by omega) (.bool n9) (.slice A9 l9 c9)
   have J4:=I4.out.far I6.out (by omega) (.bool n9) (.slice A9 l9 c9)
   have J5:=I5.out.far I6.out (by omega) (.bool n9) (.slice A9 l9 c9)
   have J7:=I7.out.far I6.out aAH (.bool n9) (.slice A9 l9 c9)
   have J8:=I8.out.far I6.out aAI (.bool n9) (.slice A9 l9 c9)
   have J6:=I6.out.put H9.out
   have Jb:=(Hb.out.setCell (p:=⟨w.heap.size+1+1+1+1,0,none⟩) (by simp;omega) (.bool n9)).setCell (p:=⟨w.heap.size+1+1+1+1,1,none⟩) (by simp;omega) (.slice A9 l9 c9)
   have HS1:=Lh S1
   have HS2:=Lh S2
   have HJ4:=Lh J4
   have HJ5:=Lh J5
   have HJ6:=Lh J6
   have HJ7:=Lh J7
   have HJ8:=Lh J8
   have HJb:=Lh Jb
   clear S1 S2 J4 J5 J6 J7 J8 Jb R1 R2 I4 I5 I6 I7 I8 Hb H9
   go_wp2_with fail
   refine (aeM _ _ _ _ _ _ _ _ _ _ _ HJ6.out.hz.at_ HJ7.out.hz.at_ fD.sm fa.sm na0 Ta.out).mono ?_
   rintro e w10 ⟨n10,A10,l10,c10,rfl,h10,abM⟩
   rw[<- HU.out] at h10
   have hbn:=aak w10 (aaq n10 A10 l10 c10)
   have afS:=abM.trans (hbn.mono abM.size)
   have R1:=Lh (HS1.out.move afS)
   have R2:=Lh (HS2.out.move afS)
   have I4:=Lh (HJ4.out.move afS)
   have I5:=Lh (HJ5.out.move afS)
   have I6:=Lh (HJ6.out.move afS)
   have I8:=Lh (HJ8.out.move afS)
   have I9:=Lh (aaN.make h10)
   have Hb:=Lh (HJb.out.trans (afS.mono HJb.out.size))
   have aAJ:w.heap.size+1+1+1+1<w10.heap.size:=(HJ6.out.move abM).lt
   clear HS1 HS2 HJ4 HJ5 HJ6 HJ7 HJ8 HJb h10 abM hbn afS v0 v1 v2 v3 x0 x1 y0 y1
   have v0:=I6.out.c0
   have v1:=I6.out.c1
   have y0:=I8.out.c0
   have y1:=I8.out.c1
   go_wp2_with fail
   refine (aeM _ _ _ _ _ _ _ _ _ _ _ I6.out.hz.at_ I8.out.hz.at_ fD.sm fb.sm nb0 Tb.out).mono ?_
   rintro e w11 ⟨n11,A11,l11,c11,rfl,h11,abM⟩
   rw[<- HV.out] at h11
   have hbn:=aak w11 (aaq n11 A11 l11 c11)
   have afS:=abM.trans (hbn.mono abM.size)
   replace R1:=Lh (R1.out.move afS)
   replace R2:=Lh (R2.out.move afS)
   replace I4:=Lh (I4.out.move afS)
   replace I5:=Lh (I5.out.move afS)
   replace I6:=Lh (I6.out.move afS)
   replace I9:=Lh (I9.out.move afS)
   have I11:=Lh (aaN.make h11)
   replace Hb:=Lh (Hb.out.trans (afS.mono Hb.out.size))
   have aBG:w10.heap.size<w11.heap.size:=by have:=abM.size;simp only[World.size_alloc] at this;omega
   clear h11 abM hbn afS v0 v1 y0 y1 I8
   obtain ⟨wk,hwk⟩:∃ wk,wk=w11.alloc (aaq n11 A11 l11 c11):=⟨_,rfl⟩
   have a0:=R1.out.c0
   have a1:=R1.out.c1
   have b0:=R2.out.c0
   have b1:=R2.out.c1
   have d0:=I6.out.c0
   have d1:=I6.out.c1
   have e0:=I9.out.c0
   have e1:=I9.out.c1
   have h0:=I11.out.c0
   have h1:=I11.out.c1
   go_wp2_with fail
   rw[<- hwk] at R1 R2 I4 I5 I6 I9 I11 Hb a0 a1 b0 b1 d0 d1 e0 e1 h0 h1 ⊢
   have ltw:w11.heap.size<wk.heap.size:=I11.out.lt
   clear hwk
   have y0:w.heap.size+1+1≠w.heap.size:=by omega
   have y1:w.heap.size+1+1≠w.heap.size+1:=by omega
   have y2:w.heap.size+1+1≠w.heap.size+1+1+1+1:=by omega
   have y3:w.heap.size+1+1+1≠w.heap.size:=by omega
   have y4:w.heap.size+1+1+1≠w.heap.size+1:=by omega
   have y5:w.heap.size+1+1+1≠w.heap.size+1+1+1+1:=by omega
   have y6:w.heap.size+1+1+1+1≠w.heap.size:=by omega
   have y7:w.heap.size+1+1+1+1≠w.heap.size+1:=by omega
   have x1:w.heap.size+1+1≠w10.heap.size:=by omega
   have x2:w.heap.size+1+1≠w11.heap.size:=by omega
   have x3:w.heap.size+1+1+1≠w10.heap.size:=by omega
   have x4:w.heap.size+1+1+1≠w11.heap.size:=by omega
   have x5:w.heap.size+1+1+1+1≠w10.heap.size:=by omega
   have x6:w.heap.size+1+1+1+1≠w11.heap.size:=by omega
   refine wp_region_held_drew (S:=fun w'=>w'.cell? ⟨w.heap.size,0,none⟩=some (.bool n1)/\w'.cell? ⟨w.heap.size,1,none⟩=some (.slice A1 l1 c1)/\w'.cell? ⟨w.heap.size+1,0,none⟩=some (.bool n2)/\w'.cell? ⟨w.heap.size+1,1,none⟩=some (.slice A2 l2 c2)/\w'.cell? ⟨w10.heap.size,0,none⟩=some (.bool n10)/\w'.cell? ⟨w10.heap.size,1,none⟩=some (.slice A10 l10 c10)/\w'.cell? ⟨w11.heap.size,0,none⟩=some (.bool n11)/\w'.cell? ⟨w11.heap.size,1,none⟩=some (.slice A11 l11 c11)/\w'.cell? ⟨w.heap.size+1+1+1+1,0,none⟩=some (.bool n9)/\w'.cell? ⟨w.heap.size+1+1+1+1,1,none⟩=some (.slice A9 l9 c9)) (by kernel_rfl) (by (try dsimp only);go_keep) (fun hHeld=>?_)
   (refine tq 0 ?_;simp only[aad,List.set])
   (refine tq 1 ?_;simp only[aad,List.set])
   (refine tq 2 ?_;simp only[aad,List.set])
   (refine tq 4 ?_;simp only[aad,List.set])
   (refine tq 5 ?_;simp only[aad,List.set])
   (refine tq 6 ?_;simp only[aad,List.set])
   (refine tq 8 ?_;simp only[aad,List.set])
   refine rdy 3 (fun K hK=>?_);go_simp
   refine (aa6 _ _ _ _ _ _ _ _ _ _ _ (R1.out.hz.at_.below Bel.go) (I9.out.hz.at_.below Bel.go) f1.sm fU.sm (f1.adA _)).mono ?_
   rintro e w12 ⟨n12,A12,l12,c12,rfl,h12,abB⟩
   obtain ⟨hcx,hfx⟩:=aap abB
   replace R2:=Lh (R2.out.move (Below.trans Bel.go (abB.mono (by simp<;>omega))))
   replace I4:=Lh (I4.out.move (Below.trans Bel.go (abB.mono (by simp<;>omega))))
   replace I5:=Lh (I5.out.move (Below.trans Bel.go (abB.mono (by simp<;>omega))))
   replace I6:=Lh (I6.out.move (Below.trans Bel.go (abB.mono (by simp<;>omega))))
   replace I11:=Lh (I11.out.move (Below.trans Bel.go (abB.mono (by simp<;>omega))))
   replace Hb:=Lh (Hb.out.trans ((Below.trans Bel.go (abB.mono (by simp<;>omega))).mono Hb.out.size))
   have H12:=Lh h12
   refine hK.out _ _ ?_ (fun _=>?_)
   ·((try dsimp only);repeat' apply And.intro)<;>(rw[hcx _ (by go_simp)];go_simp)
   clear hHeld hK K hcx hfx;rename_i hHeld
   clear h12 abB R1 I9
   refine rdy 7 (fun K hK=>?_);go_simp
   refine (aa6 _ _ _ _ _ _ _ _ _ _ _ (R2.out.hz.at_.below Bel.go) (I11.out.hz.at_.below Bel.go) f2.sm fV.sm (f2.adA _)).mono ?_
   rintro e w13 ⟨n13,A13,l13,c13,rfl,h13,abB⟩
   obtain ⟨hcx,hfx⟩:=aap abB
   replace I4:=Lh (I4.out.move (Below.trans Bel.go (abB.mono (by simp<;>omega))))
   replace I5:=Lh (I5.out.move (Below.trans Bel.go (abB.mono (by simp<;>omega))))
   replace I6:=Lh (I6.out.move (Below.trans Bel.go (abB.mono (by simp<;>omega))))
   replace Hb:=Lh (Hb.out.trans ((Below.trans Bel.go (abB.mono (by simp<;>omega))).mono Hb.out.size))
   replace H12:=Lh (H12.out.below (Below.trans Bel.go (abB.mono (by simp<;>omega))))
   have H13:=Lh h13
   refine hK.out _ _ ?_ (fun _=>?_)
   ·((try dsimp only);repeat' apply And.intro)<;>(rw[hcx _ (by go_simp)];go_simp)
   clear hHeld hK K hcx hfx;rename_i hHeld
   clear h13 abB R2 I11 a0 a1 b0 b1 d0 d1 e0 e1 h0 h1
   have p0:=I4.out.c0
   have p1:=I4.out.c1
   have p2:=I4.out.f0
   have p3:=I4.out.f1
   refine rdy 9 (fun K hK=>?_);go_simp
   refine hK.out _ _ ?_ (fun _=>?_)
   ·(try dsimp only);go_keep
   clear hHeld hK K
   rename_i hHeld
   have F4:aaN ((w13.setCell ⟨w.heap.size+1+1,0,none⟩ (.bool n12)).setCell ⟨w.heap.size+1+1,1,none⟩ (.slice A12 l12 c12)) (w.heap.size+1+1) n12 A12 l12 c12 (z1*U):=I4.out.put H12.out
   have F5:=I5.out.far I4.out (by omega) (.bool n12) (.slice A12 l12 c12)
   have F6:=I6.out.far I4.out (by omega) (.bool n12) (.slice A12 l12 c12)
   have G13:=H13.out.ret (.bool n12) (.slice A12 l12 c12) p0 p1
   have Fb:=(Hb.out.setCell (p:=⟨w.heap.size+1+1,0,none⟩) (by simp;omega) (.bool n12)).setCell (p:=⟨w.heap.size+1+1,1,none⟩) (by simp;omega) (.slice A12 l12 c12)
   obtain ⟨wp,hwp⟩:∃ wp,wp=(w13.setCell ⟨w.heap.size+1+1,0,none⟩ (.bool n12)).setCell ⟨w.heap.size+1+1,1,none⟩ (.slice A12 l12 c12):=⟨_,rfl⟩
   (try simp only[aad,List.set])
   rw[<- hwp] at F4 F5 F6 G13 Fb hHeld
   rw[<- hwp]
   clear hwp p0 p1 p2 p3 I4 I5 I6 H12 H13 Hb
   have p0:=F5.c0
   have p1:=F5.c1
   have p2:=F5.f0
   have p3:=F5.f1
   have K4:=Lh F4
   have K5:=Lh F5
   have K6:=Lh F6
   have K13:=Lh G13
   have Kb:=Lh Fb
   clear F4 F5 F6 G13 Fb
   refine rdy 10 (fun K hK=>?_);go_simp
   refine hK.out _ _ ?_ (fun _=>?_)
   ·(try dsimp only);go_keep
   clear hHeld hK K
   rename_i hHeld
   have F5:aaN ((wp.setCell ⟨w.heap.size+1+1+1,0,none⟩ (.bool n13)).setCell ⟨w.heap.size+1+1+1,1,none⟩ (.slice A13 l13 c13)) (w.heap.size+1+1+1) n13 A13 l13 c13 (z2*V):=K5.out.put K13.out
   have F4:=K4.out.far K5.out (by omega) (.bool n13) (.slice A13 l13 c13)
   have F6:=K6.out.far K5.out (by omega) (.bool n13) (.slice A13 l13 c13)
   have Fb:=(Kb.out.setCell (p:=⟨w.heap.size+1+1+1,0,none⟩) (by simp;omega) (.bool n13)).setCell (p:=⟨w.heap.size+1+1+1,1,none⟩) (by simp;omega) (.slice A13 l13 c13)
   obtain ⟨wq,hwq⟩:∃ wq,wq=(wp.setCell ⟨w.heap.size+1+1+1,0,none⟩ (.bool n13)).setCell ⟨w.heap.size+1+1+1,1,none⟩ (.slice A13 l13 c13):=⟨_,rfl⟩
   (try simp only[aad,List.set])
   rw[<- hwq] at F4 F5 F6 Fb hHeld
   rw[<- hwq]
   clear hwq p0 p1 p2 p3 K4 K5 K6 K13 Kb
   have p0:=F6.c0
   have p1:=F6.c1
   have p2:=F6.f0
   have p3:=F6.f1
   have K4:=Lh F4
   have K5:=Lh F5
   have K6:=Lh F6
   have Kb:=Lh Fb
   clear F4 F5 F6 Fb
   refine rdy 11 (fun K hK=>?_);go_simp
   refine hK.out _ _ ?_ (fun _=>?_)
   ·(try dsimp only);go_keep;exact ⟨(K6.out.put K6.out.hz).c0,(K6.out.put K6.out.hz).c1⟩
   clear hHeld hK K
   have F6:aaN ((wq.setCell ⟨w.heap.size+1+1+1+1,0,none⟩ (.bool n9)).setCell ⟨w.heap.size+1+1+1+1,1,none⟩ (.slice A9 l9 c9)) (w.heap.size+1+1+1+1) n9 A9 l9 c9 D:=K6.out.put K6.out.hz
   have F4:=K4.out.far K6.out (by omega) (.bool n9) (.slice A9 l9 c9)
   have F5:=K5.out.far K6.out (by omega) (.bool n9) (.slice A9 l9 c9)
   have Fb:=(Kb.out.setCell (p:=⟨w.heap.size+1+1+1+1,0,none⟩) (by simp;omega) (.bool n9)).setCell (p:=⟨w.heap.size+1+1+1+1,1,none⟩) (by simp;omega) (.slice A9 l9 c9)
   obtain ⟨wr,hwr⟩:∃ wr,wr=(wq.setCell ⟨w.heap.size+1+1+1+1,0,none⟩ (.bool n9)).setCell ⟨w.heap.size+1+1+1+1,1,none⟩ (.slice A9 l9 c9):=⟨_,rfl⟩
   rw[<- hwr] at F4 F5 F6 Fb
   rw[<- hwr]
   clear hwr p0 p1 p2 p3 K4 K5 K6 Kb
   have r0:=F4.c0
   have r1:=F4.c1
   have r2:=F5.c0
   have r3:=F5.c1
   have r4:=F6.c0
   have r5:=F6.c1
   have K4:=Lh F4
   have K5:=Lh F5
   have K6:=Lh F6
   have Kb:=Lh Fb
   clear F4 F5 F6 Fb
   refine wpAnyH_done (by kernel_rfl) ?_ _
   go_wp2
   refine bodyPost_ret (v:=.tuple #[.agg #[.bool n12,.slice A12 l12 c12],.agg #[.bool n13,.slice A13 l13 c13],.agg #[.bool n9,.slice A9 l9 c9]]) (by simp[results,Tryz.results113,go_sem,r0,r1,r2,r3,r4,r5]) rfl ⟨_,_,_,_,_,_,_,_,_,_,_,_,rfl,K4.out.hz,K5.out.hz,K6.out.hz,Kb.out⟩
end Go.Proofs.YtdimmlckpgpgcaaGreat
namespace Go.Proofs.YtdimmlckpgpgcaaGreat
open Go.RowKit
set_option maxRecDepth 100000 in
set_option maxHeartbeats 1000000 in
theorem aoy {I J:aay} (hI:IK I) (hJ:IK J) (A:Option Addr) (la ca:Nat) (f:List Int) (B:Option Addr) (lb cb:Nat) (g:List Int) (w:World) (hf:aaw I w A la ca f) (hg:aaw J w B lb cb g) (ff:abH f) (fg:abH g) (hma:la<=400000000) (hmb:lb<=400000000) :
 Calls Tryz.prog 114 #[.slice A la ca,.slice B lb cb] w fun e w'=>∃ A' l' c',e=.returned (.slice A' l' c')/\aaR w' A' l' c' (aag (aaf f) (aaf g))/\(l'=0∨∃ r,A'=some ⟨r,0,none⟩/\w.heap.size<=r)/\Below w.heap.size w w':=by
 have hpf:aac f<=400000000:=by have:=aas f;have:=hf.length;omega
 have hpg:aac g<=400000000:=by have:=aas g;have:=hg.length;omega
 have avS:∀ {q:List Int},abH q->abH (aaf q):=fun {q} h k=>by
  rcases Nat.lt_or_ge k (aac q) with h1 | h1
  ·rw[aaf,adk q h1];exact h k
  ·rw[aaC _ (by rw[aae];exact h1)];unfold Fit;exact Nat.pow_pos aaI
 have ff2:=avS ff
 have fg2:=avS fg
 go_enter Tryz.func114,Tryz.ntmps114
 go_wp2_with fail
 refine (abD hI _ _ _ _ _ hf ff.smp (by omega)).mono ?_
 rintro e w1 ⟨l1,rfl,h1,hl1,hb1⟩
 have hg1:=hg.below hJ hb1
 have Hb1:=Lh hb1
 have H1:=Lh h1
 have Hl1:=Lh hl1
 have b1:l1<=400000000:=by omega
 clear hf hg hb1 h1 hl1
 go_wp2_with fail
 refine (abD hJ _ _ _ _ _ hg1 fg.smp (by omega)).mono ?_
 rintro e w2 ⟨l2,rfl,h2,hl2,hb2⟩
 have h12:=H1.out.below hI hb2
 have Hb2:=Lh (Hb1.out.trans (hb2.mono Hb1.out.size))
 have Hl2:=Lh hl2
 have b2:l2<=400000000:=by omega
 have E1:=Lh (aae f)
 have E2:=Lh (aae g)
 clear hb2 hg1 H1 Hb1 hl2
 by_cases h0:l1=0∨l2=0
 ·have hp:aag (aaf f) (aaf g)=[]:=by
   unfold aag
   rw[if_pos]
   rcases h0 with h0 | h0
   ·exact .inl (List.eq_nil_of_length_eq_zero (by rw[E1.out,<- Hl1.out];exact h0))
   ·exact .inr (List.eq_nil_of_length_eq_zero (by rw[E2.out,<- Hl2.out];exact h0))
  have Hp:=Lh hp
  have H0:=Lh h0
  clear hp h0
  go_wp2_with fail
  refine (agx _ _ _ _ _ _ _ H0.out b1 b2).mono ?_
  rintro e w3 ⟨rfl,hb3⟩
  have Hb3:=Lh (Hb2.out.trans (hb3.mono Hb2.out.size))
  clear h12 h2 hb3
  go_wp2
  go_ret
  exact ⟨_,_,_,rfl,by rw[Hp.out];exact aaw.nil _ _ _ _,.inl rfl,Hb3.out⟩
 ·have hp:aag (aaf f) (aaf g)=ake (aaf f) (aaf g):=by
   unfold aag
   rw[if_neg]
   rintro (e | e)
   ·have:=E1.out;rw[e] at this;have:=Hl1.out;simp at *;omega
   ·have:=E2.out;rw[e] at this;have:=Hl2.out;simp at *;omega
  have hlp:=ab4 (aaf f) (aaf g)
  rw[E1.out,E2.out,<- Hl1.out,<- Hl2.out] at hlp
  have Hp:=Lh hp
  have Hlp:=Lh hlp
  have q1:0<l1:=by omega
  have q2:0<l2:=by omega
  clear hp h0 hlp
  go_wp2_with fail
  refine (agw hI hJ _ _ _ _ _ _ _ _ _ h12 h2 ff2 fg2 q1 q2 b1 b2).mono ?_
  rintro e w3 ⟨r,rfl,hr,hle,hb3⟩
  have Hb3:=Lh (Hb2.out.trans (hb3.mono Hb2.out.size))
  have hpo:=hr.poly (cap:=l1+l2-1) (by rw[Hlp.out];exact Nat.le_refl _)
  rw[Hlp.out] at hpo
  have Hpo:=Lh hpo
  have hle2:w.heap.size<=r:=Nat.le_trans Hb2.out.size hle
  clear h12 h2 hb3 hr hle hpo
  go_wp2
  go_ret
  exact ⟨_,_,_,rfl,by rw[Hp.out];exact Hpo.out,.inr ⟨r,rfl,hle2⟩,Hb3.out⟩
set_option maxHeartbeats 1000000 in
theorem aoz {I J:aay} (hI:IK I) (hJ:IK J) (A:Option Addr) (la ca:Nat) (f:List Int) (B:Option Addr) (lb cb:Nat) (g:List Int) (w:World) (hf:aaw I w A la ca f) (hg:aaw J w B lb cb g) (sf:SmP f) (sg:SmP g) (ss:∀ k,Sm ((f.getD k 0).natAbs+(g.getD k 0).natAbs)) (hma:la<=1000000000) (hmb:lb<=1000000000) :
 Calls Tryz.prog 115 #[.slice A la ca,.slice B lb cb] w fun e w'=>∃ A' l' c',e=.returned (.slice A' l' c')/\aaR w' A' l' c' (aaf (acB f g))/\(l'=0∨∃ r,A'=some ⟨r,0,none⟩/\w.heap.size<=r)/\Below w.heap.size w w':=by
 have hlen:(acB f g).length=max la lb:=by rw[ads,hf.length,hg.length]
 have Hlen:=Lh hlen
 have Hss:=Lh ss
 clear hlen
 go_enter Tryz.func115,Tryz.ntmps115
 go_wp2_with fail
 refine (alp hI hJ _ _ _ _ _ _ _ _ _ hf hg sf sg ss hma hmb).mono ?_
 rintro e w1 ⟨r,n,rfl,hn,hrow,hr,hb1⟩
 have hp:=hrow.poly (cap:=n) (by rw[Hlen.out,hn];exact Nat.le_refl _)
 rw[Hlen.out,<- hn] at hp
 have Hb1:=Lh hb1
 have hnb:n<=1000000000:=by omega
 have hsr:SmP (acB f g):=fun c hc=>by
  obtain ⟨k,hk⟩:=List.getElem?_of_mem hc
  have e1:(acB f g).getD k 0=c:=by rw[List.getD_eq_getElem?_getD,hk];rfl
  rw[aa7] at e1
  rw[<- e1]
  exact (Hss.out k).mono (Int.natAbs_add_le _ _)
 have hr2:=hr
 clear hrow hb1 hr hn ss hf hg
 go_wp2_with fail
 refine (abD ikN _ _ _ _ _ hp hsr (by omega)).mono ?_
 rintro e w2 ⟨l2,rfl,h2,-,hb2⟩
 have H2:=Lh h2
 have Hb2:=Lh (Hb1.out.trans (hb2.mono Hb1.out.size))
 clear hp h2 hb2
 go_wp2
 go_ret
 exact ⟨_,_,_,rfl,H2.out,.inr ⟨r,rfl,hr2⟩,Hb2.out⟩
structure adx (g:Nat) (w:World) (A:Option Addr) (l c:Nat) (p:List Int):Prop where
 n:aaR w A l c p
 off:l=0∨∃ b o,A=some ⟨b,o,none⟩/\b≠g
section
variable {g:Nat} {w w':World} {A:Option Addr} {l c:Nat} {p:List Int}
theorem adx.old (h:aaR w A l c p) (hg:w.heap.size<=g):adx g w A l c p:=by
 refine ⟨h,?_⟩
 rcases h.elems with h0 | ⟨b,o,hA,hlt,_⟩
 ·exact .inl h0
 ·exact .inr ⟨b,o,hA,by omega⟩
theorem adx.fresh {B:Nat} (h:aaR w A l c p) (hf:l=0∨∃ r,A=some ⟨r,0,none⟩/\B<=r) (hg:g<B):adx g w A l c p :=
 ⟨h,hf.imp id (fun ⟨r,hA,hr⟩=>⟨r,0,hA,by omega⟩)⟩
theorem adx.below (h:adx g w A l c p) (hb:Below w.heap.size w w'):adx g w' A l c p:=⟨h.n.below ikN hb,h.off⟩
theorem adx.put {n n':Bool} {A1 A2:Option Addr} {l1 c1 l2 c2:Nat} {z:Int} (h:adx g w A l c p) (hr:aaN w g n A1 l1 c1 z):adx g (adz w g n' A2 l2 c2) A l c p:=by
 refine ⟨⟨h.n.length,h.n.cap,?_⟩,h.off⟩
 rcases h.n.elems with h0 | ⟨b,o,hA,hlt,he⟩
 ·exact .inl h0
 ·rcases h.off with h0 | ⟨b',o',hA',hne⟩
  ·exact .inl h0
  ·rw[hA] at hA'
   injection hA' with e
   injection e with e1 e2 e3
   subst e1 e2
   refine .inr ⟨b,o,hA,by simpa [adz,World.setCell] using hlt,fun j hj=>?_⟩
   obtain ⟨neg,Aj,lj,cj,h1,h2,h3⟩:=he j hj
   refine ⟨neg,Aj,lj,cj,?_,?_,h3.ret _ _ hr.c0 hr.c1⟩
   ·unfold adz
    rw[World.cell?_setCell_other _ _ _ _ (by intro e;injection e with e _;exact hne e.symm),World.cell?_setCell_other _ _ _ _ (by intro e;injection e with e _;exact hne e.symm)]
    exact h1
   ·unfold adz
    rw[World.cell?_setCell_other _ _ _ _ (by intro e;injection e with e _;exact hne e.symm),World.cell?_setCell_other _ _ _ _ (by intro e;injection e with e _;exact hne e.symm)]
    exact h2
end
end Go.Proofs.YtdimmlckpgpgcaaGreat
namespace Go.Proofs.YtdimmlckpgpgcaaGreat
open Go.RowKit
def trs (f:List Int) (P Q D:Int):Nat->List Int×List Int×Int
 | 0=>([f.getD (f.length-1) 0],[1],1)
 | k+1 =>
   let s:=trs f P Q D k
   (aaf (acB (aag (aaf s.1) (aaf [P,Q])) (aaf (psc (f.getD (f.length-2-k) 0) (aag (aaf s.2.1) (aaf [D,D]))))),aag (aaf s.2.1) (aaf [D,D]),s.2.2*D)
def axq (f:List Int) (P Q D:Int):Prop:=Fit P/\Fit Q/\Fit D/\∀ k,k<f.length->abH (trs f P Q D k).1/\abH (trs f P Q D k).2.1/\Fit (trs f P Q D k).2.2/\(trs f P Q D k).1.length<=900000/\(trs f P Q D k).2.1.length<=900000
theorem anm {w:World} {n n':Bool} {A A':Option Addr} {l c l' c':Nat} {z z':Int} (h:aaE w n A l c z) (h':aaE w n' A' l' c' z'):aaR (w.alloc (.cells #[.bool n,.slice A l c,.bool n',.slice A' l' c'] 35)) (some ⟨w.heap.size,0,none⟩) 2 2 [z,z']:=by
 have hb:=aak w (.cells #[.bool n,.slice A l c,.bool n',.slice A' l' c'] 35)
 refine ⟨rfl,Nat.le_refl _,.inr ⟨w.heap.size,0,rfl,by simp,fun j hj=>?_⟩⟩
 match j,hj with
 | 0,_=>exact ⟨n,A,l,c,by go_simp,by go_simp,h.below hb⟩
 | 1,_=>exact ⟨n',A',l',c',by go_simp,by go_simp,h'.below hb⟩
def aym (g:Nat) (A:Option Addr) (l:Nat):Prop:=l=0∨∃ b o,A=some ⟨b,o,none⟩/\b≠g
theorem aaw.elem {w:World} {b o len cap:Nat} {p:List Int} (h:aaR w (some ⟨b,o,none⟩) len cap p) {j:Nat} (hj:j<len):b<w.heap.size/\∃ neg A l c,w.cell? ⟨b,o+j*2,none⟩=some (.bool neg)/\w.cell? ⟨b,o+j*2+1,none⟩=some (.slice A l c)/\aaE w neg A l c (p.getD j 0):=by
 obtain ⟨b',o',e,hb,hc⟩:=h.get (by omega)
 injection e with e
 injection e with e1 e2 e3
 subst e1 e2
 exact ⟨hb,hc j hj⟩
theorem awP {q g p:List Int} {c:Int} (hq:abH q) (hg:abH g) (hl:q.length+g.length<=1000000) (hc:Fit c) (hp:abH p):SmP (aag q g)/\SmP (psc c p)/\SmP (aaf (psc c p))/\∀ k,Sm (((aag q g).getD k 0).natAbs+((aaf (psc c p)).getD k 0).natAbs):=by
 have h1:Bd (1000000*BB^(FW+FW)) (aag q g):=aic hq hg 1000000 hl
 have h2:Bd (BB^(FW+FW)) (psc c p):=fun k=>by
  rw[aav]
  exact Nat.le_of_lt (hc.mul (hp k))
 have h3:1000000*BB^(FW+FW)<BB^(FW+FW+1):=ac4 (Nat.le_refl _)
 have h4:BB^(FW+FW)<BB^(FW+FW+1):=by have:=ac4 (n:=1) (k:=FW+FW) (by omega);omega
 have h5:FW+FW+2<=1000000000:=by rw[ach];omega
 refine ⟨h1.smp h3 (by omega),h2.smp h4 (by omega),h2.aaf.smp h4 (by omega),fun k=>adE (k:=FW+FW+2) ?_ h5⟩
 have a1:=h1 k
 have a2:=h2.aaf k
 have a3:2*BB^(FW+FW+1)<BB^(FW+FW+2):=ac4 (by omega)
 omega
set_option maxRecDepth 100000 in
set_option maxHeartbeats 8000000 in
theorem ajI (Af:Option Addr) (lf cf:Nat) (f:List Int) (n:Bool) (A:Option Addr) (l c:Nat) (B:Option Addr) (m d q:Nat) (z:Int) (n':Bool) (A':Option Addr) (l' c':Nat) (B':Option Addr) (m' d' q':Nat) (z':Int) (w:World) (hf:aaR w Af lf cf f) (tf:aac f=f.length) (f1:1<=f.length) (hfm:lf<=1000000) (ase:abH f)
 (hz:aaE w n A l c z) (hq:aaW w B m d q) (hz':aaE w n' A' l' c' z') (hq':aaW w B' m' d' q') (hu:Fit z) (hv:Fit (q:Int)) (h0:0<q) (hu':Fit z') (hv':Fit (q':Int)) (h0':0<q') (P Q D:Int) (a b:Nat) (ea:a=q / Nat.gcd z.natAbs q) (eb:b=q' / Nat.gcd z'.natAbs q')
 (eD:D=lcd a b) (eP:P=z.tdiv (Nat.gcd z.natAbs q)*(lcd a b).tdiv (a:Int)) (eQ:Q=z'.tdiv (Nat.gcd z'.natAbs q')*(lcd a b).tdiv (b:Int)) (hok:axq f P Q D) :
 Calls Tryz.prog 99 #[.slice Af lf cf,.agg #[.bool n,.slice A l c,.slice B m d],.agg #[.bool n',.slice A' l' c',.slice B' m' d']] w fun e w'=>∃ A1 l1 c1 n2 A2 l2 c2,e=.returned (.tuple #[.slice A1 l1 c1,.agg #[.bool n2,.slice A2 l2 c2]])/\aaR w' A1 l1 c1 (trs f P Q D (f.length-1)).1/\aaE w' n2 A2 l2 c2 (trs f P Q D (f.length-1)).2.2/\Below w.heap.size w w':=by
 obtain ⟨fP,fQ,fD,hst⟩:=hok
 have hfD:Fit (lcd (q / Nat.gcd z.natAbs q) (q' / Nat.gcd z'.natAbs q')):=by rw[<- ea,<- eb,<- eD];exact fD
 obtain ⟨S,hS⟩:∃ S,S=trs f P Q D:=⟨_,rfl⟩
 have S0:Hid (S 0=([f.getD (f.length-1) 0],[1],1)):=Lh (by rw[hS];rfl)
 have SS:Hid (∀ k,S (k+1)=(aaf (acB (aag (aaf (S k).1) (aaf [P,Q])) (aaf (psc (f.getD (f.length-2-k) 0) (aag (aaf (S k).2.1) (aaf [D,D]))))),aag (aaf (S k).2.1) (aaf [D,D]),(S k).2.2*D)):=Lh (fun k=>by rw[hS];rfl)
 have SF:Hid (∀ k,k<f.length->abH (S k).1/\abH (S k).2.1/\Fit (S k).2.2/\(S k).1.length<=900000/\(S k).2.1.length<=900000):=Lh (by rw[hS];exact hst)
 rw[<- hS]
 obtain ⟨V1,hV1⟩:∃ V,V=(S (f.length-1)).1:=⟨_,rfl⟩
 obtain ⟨V2,hV2⟩:∃ V,V=(S (f.length-1)).2.2:=⟨_,rfl⟩
 rw[<- hV1,<- hV2]
 have HV1:=Lh hV1
 have HV2:=Lh hV2
 clear hS hV1 hV2
 have o1:=aak w (aaV n A l c B m d)
 have o2:=aak (w.alloc (aaV n A l c B m d)) (aaV n' A' l' c' B' m' d')
 have o3:=aak ((w.alloc (aaV n A l c B m d)).alloc (aaV n' A' l' c' B' m' d')) (aaq false none 0 0)
 have b3:Below w.heap.size w (((w.alloc (aaV n A l c B m d)).alloc (aaV n' A' l' c' B' m' d')).alloc (aaq false none 0 0)):=(o1.alloc (by simp) _).alloc (by simp;omega) _
 have R1:=((abV.make hz hq).move o2).move o3
 have R2:=(abV.make (hz'.below o1) (hq'.below o1)).move o3
 have I7:=aaN.nil ((w.alloc (aaV n A l c B m d)).alloc (aaV n' A' l' c' B' m' d'))
 simp only[World.size_alloc] at R2 I7
 have HF:=Lh (hf.below ikN b3)
 replace R1:=Lh R1
 replace R2:=Lh R2
 replace I7:=Lh I7
 have Hb:=Lh b3
 have hlf:=hf.length
 have EA:=Lh ea
 have EB:=Lh eb
 have ED:=Lh eD
 have EP:=Lh eP
 have EQ:=Lh eQ
 clear o1 o2 o3 b3 hz hq hz' hq' hf ea eb eD eP eQ hst
 go_enter Tryz.func99,Tryz.ntmps99
 go_wp2_with fail
 refine (aox _ _ _ _ _ _ _ _ _ _ _ _ _ _ _ _ _ _ _ R1.out.hz R1.out.hq R2.out.hz R2.out.hq hu hv h0 hu' hv' h0' hfD).mono ?_
 rintro e w1 ⟨z1,a1,z2,b1,hz1,ha1,hz2,hb1,n1,A1,l1,c1,n2,A2,l2,c2,n3,A3,l3,c3,rfl,h1,h2,h3,hbw⟩
 rw[<- EA.out] at ha1
 rw[<- EB.out] at hb1
 subst ha1 hb1 hz1 hz2
 rw[<- EP.out] at h1
 rw[<- EQ.out] at h2
 rw[<- ED.out] at h3
 replace HF:=Lh (HF.out.below ikN hbw)
 replace I7:=Lh (I7.out.move hbw)
 replace Hb:=Lh (Hb.out.trans (hbw.mono Hb.out.size))
 have H1:=Lh h1
 have H2:=Lh h2
 have H3:=Lh h3
 clear h1 h2 h3 hbw R1 R2
 go_wp2_with fail
 have k1:=aak w1 (aaq n1 A1 l1 c1)
 have k2:=aak (w1.alloc (aaq n1 A1 l1 c1)) (aaq n2 A2 l2 c2)
 have k3:=aak ((w1.alloc (aaq n1 A1 l1 c1)).alloc (aaq n2 A2 l2 c2)) (aaq n3 A3 l3 c3)
 have kb:Below w1.heap.size w1 (((w1.alloc (aaq n1 A1 l1 c1)).alloc (aaq n2 A2 l2 c2)).alloc (aaq n3 A3 l3 c3)):=(k1.alloc (by simp) _).alloc (by simp;omega) _
 have i8:=((aaN.make H1.out).move k2).move k3
 have i9:=(aaN.make (H2.out.below k1)).move k3
 have i10:=aaN.make ((H3.out.below k1).below k2)
 simp only[World.size_alloc] at i9 i10
 have I8:=Lh i8
 have I9:=Lh i9
 have I10:=Lh i10
 have hsz1:w.heap.size+1+1<w1.heap.size:=I7.out.lt
 replace HF:=Lh (HF.out.below ikN kb)
 replace I7:=Lh (I7.out.move kb)
 replace Hb:=Lh (Hb.out.trans (kb.mono Hb.out.size))
 clear k1 k2 k3 kb i8 i9 i10 H1 H2 H3
 obtain ⟨wk,hwk⟩:∃ wk,wk=((w1.alloc (aaq n1 A1 l1 c1)).alloc (aaq n2 A2 l2 c2)).alloc (aaq n3 A3 l3 c3):=⟨_,rfl⟩
 rw[<- hwk] at I7 I8 I9 I10 HF Hb ⊢
 have aBH:wk.heap.size=w1.heap.size+1+1+1:=by rw[hwk];simp
 clear hwk
 refine (aaX _ _ _ _ _ (HF.out.at_ ikN) ase.smp (by omega)).mono ?_
 rintro e w2 ⟨rfl,hb2⟩
 obtain ⟨ix,hix⟩:∃ ix:Nat,ix=f.length-1:=⟨_,rfl⟩
 have e0:((aac f:Nat):Int)-1=(ix:Int):=by omega
 rw[e0]
 have hsz2:=hb2.size
 replace HF:=Lh (HF.out.below ikN hb2)
 replace I7:=Lh (I7.out.move hb2)
 replace I8:=Lh (I8.out.move hb2)
 replace I9:=Lh (I9.out.move hb2)
 replace I10:=Lh (I10.out.move hb2)
 replace Hb:=Lh (Hb.out.trans (hb2.mono Hb.out.size))
 clear hb2 e0
 obtain ⟨bf,of,rfl,hbf,hcf⟩:=HF.out.get (by omega)
 have ax3:ix<lf:=by omega
 obtain ⟨ne,Ae,le,ce,f0,f1e,ze⟩:=hcf ix ax3
 have Hcf:=Lh hcf
 have Ze:=Lh ze
 have p0:=I8.out.c0
 have p1:=I8.out.c1
 have q0:=I9.out.c0
 have q1:=I9.out.c1
 have d0:=I10.out.c0
 have d1:=I10.out.c1
 clear hcf ze
 have nb1:w1.heap.size+1+1<w2.heap.size:=by omega
 have nb2:bf<w2.heap.size+1:=by omega
 have Hix:=Lh hix
 clear hix
 go_wp2_with fail
 have L1:=anm I8.out.hz I9.out.hz
 have j1:=aak w2 (.cells #[.bool n1,.slice A1 l1 c1,.bool n2,.slice A2 l2 c2] 35)
 have hzd:=I10.out.hz.below j1
 have L2:=anm hzd hzd
 have j2:=aak (w2.alloc (.cells #[.bool n1,.slice A1 l1 c1,.bool n2,.slice A2 l2 c2] 35)) (.cells #[.bool n3,.slice A3 l3 c3,.bool n3,.slice A3 l3 c3] 35)
 have L3:=akh ((Ze.out.below j1).below j2)
 have j3:=aak ((w2.alloc (.cells #[.bool n1,.slice A1 l1 c1,.bool n2,.slice A2 l2 c2] 35)).alloc (.cells #[.bool n3,.slice A3 l3 c3,.bool n3,.slice A3 l3 c3] 35)) (aaq ne Ae le ce)
 have j4:=aak (((w2.alloc (.cells #[.bool n1,.slice A1 l1 c1,.bool n2,.slice A2 l2 c2] 35)).alloc (.cells #[.bool n3,.slice A3 l3 c3,.bool n3,.slice A3 l3 c3] 35)).alloc (aaq ne Ae le ce)) (.cells #[.int .i64 1] 2)
 replace L1:=((L1.below ikN j2).below ikN j3).below ikN j4
 replace L2:=(L2.below ikN j3).below ikN j4
 replace L3:=L3.below ikN j4
 have jb:=((j1.alloc (by simp) (.cells #[.bool n3,.slice A3 l3 c3,.bool n3,.slice A3 l3 c3] 35)).alloc (by simp;omega) (aaq ne Ae le ce)).alloc (by simp;omega) (.cells #[.int .i64 1] 2)
 simp only[World.size_alloc] at L2 L3
 obtain ⟨wd,hwd⟩:∃ wd,wd=(((w2.alloc (.cells #[.bool n1,.slice A1 l1 c1,.bool n2,.slice A2 l2 c2] 35)).alloc (.cells #[.bool n3,.slice A3 l3 c3,.bool n3,.slice A3 l3 c3] 35)).alloc (aaq ne Ae le ce)).alloc (.cells #[.int .i64 1] 2):=⟨_,rfl⟩
 have azC:afw wd (some ⟨w2.heap.size+1+1+1,0,none⟩) 1 1 [1]:=by
  rw[hwd]
  refine ⟨rfl,Nat.le_refl _,.inr ⟨w2.heap.size+1+1+1,0,rfl,by simp,fun j hj=>?_⟩⟩
  match j,hj with
  | 0,_=>go_simp
 rw[<- hwd] at L1 L2 L3 jb ⊢
 have aBI:wd.heap.size=w2.heap.size+1+1+1+1:=by rw[hwd];simp
 clear hwd j1 j2 j3 j4 hzd
 replace HF:=Lh (HF.out.below ikN jb)
 replace I7:=Lh (I7.out.move jb)
 replace I10:=Lh (I10.out.move jb)
 replace Hb:=Lh (Hb.out.trans (jb.mono Hb.out.size))
 replace L1:=Lh L1
 replace L2:=Lh L2
 replace L3:=Lh L3
 clear I8 I9 Ze jb Hcf p0 p1 q0 q1 d0 d1 nb1 nb2 f0 f1e
 refine (ale _ _ _ _ _ azC (by intro c hc;simp at hc;subst hc;unfold I64;omega) (by omega)).mono ?_
 rintro e w3 ⟨A4,l4,c4,rfl,h4,hb3⟩
 have e1:aaf [(1:Int)]=[1]:=by decide
 rw[e1] at h4
 have H4:=Lh h4
 have hsz3:=hb3.size
 replace HF:=Lh (HF.out.below ikN hb3)
 replace I7:=Lh (I7.out.move hb3)
 replace I10:=Lh (I10.out.move hb3)
 replace Hb:=Lh (Hb.out.trans (hb3.mono Hb.out.size))
 replace L1:=Lh (L1.out.below ikN hb3)
 replace L2:=Lh (L2.out.below ikN hb3)
 replace L3:=Lh (L3.out.below ikN hb3)
 clear h4 hb3 e1 azC
 go_wp2_with fail
 refine (aeo 1 _ (by unfold I64;omega)).mono ?_
 rintro e w4 ⟨n5,A5,l5,c5,rfl,h5,hb4⟩
 have aw8:=hb4.size
 have jx:=aak w4 (aaq n5 A5 l5 c5)
 have jj:=hb4.trans (jx.mono hb4.size)
 have F0:=Lh ((adx.old (g:=w4.heap.size) (HF.out.below ikN hb4) (Nat.le_refl _)).below jx)
 have F1:=Lh ((adx.old (g:=w4.heap.size) (L1.out.below ikN hb4) (Nat.le_refl _)).below jx)
 have F2:=Lh ((adx.old (g:=w4.heap.size) (L2.out.below ikN hb4) (Nat.le_refl _)).below jx)
 have F3:=Lh ((adx.old (g:=w4.heap.size) (L3.out.below ikN hb4) (Nat.le_refl _)).below jx)
 have F4:=Lh ((adx.old (g:=w4.heap.size) (H4.out.below ikN hb4) (Nat.le_refl _)).below jx)
 replace I7:=Lh (I7.out.move jj)
 replace I10:=Lh (I10.out.move jj)
 have I16:=Lh (aaN.make h5)
 replace Hb:=Lh (Hb.out.trans (jj.mono Hb.out.size))
 clear HF L1 L2 L3 H4 h5 hb4 jx jj
 have hw0:IntKind.i64.wrap ((ix:Int)-1)=(ix:Int)-1:=IntWalk.i64_in _ (by omega)
 obtain ⟨g16,ayn⟩:∃ g16,g16=w4.heap.size:=⟨_,rfl⟩
 obtain ⟨g10,ayo⟩:∃ g10,g10=w1.heap.size+1+1:=⟨_,rfl⟩
 have aBJ:g10<g16:=by omega
 have aAJ:w.heap.size+1+1<g10:=by omega
 rw[<- ayn] at F0 F1 F2 F3 F4 I16
 rw[<- ayo] at I10
 have fPQ:abH [P,Q]:=fun k=>by
  match k with
  | 0=>exact fP
  | 1=>exact fQ
  | k+2=>unfold Fit;simp;exact Nat.pow_pos aaI
 have fDD:abH [D,D]:=fun k=>by
  match k with
  | 0=>exact fD
  | 1=>exact fD
  | k+2=>unfold Fit;simp;exact Nat.pow_pos aaI
 go_wp2_with fail
 rw[<- ayn,<- ayo]
 have Hlf:=Lh hlf
 clear ayn ayo hw0 hlf
 obtain ⟨gP,hgP⟩:∃ gP,gP=w2.heap.size:=⟨_,rfl⟩
 obtain ⟨gD,hgD⟩:∃ gD,gD=w2.heap.size+1:=⟨_,rfl⟩
 obtain ⟨gR,hgR⟩:∃ gR,gR=w2.heap.size+1+1:=⟨_,rfl⟩
 have aAK:aym (w.heap.size+1+1) (some ⟨gR,0,none⟩) 1:=.inr ⟨gR,0,rfl,by omega⟩
 rw[<- hgR] at F3 ⊢
 rw[<- hgD] at F2 ⊢
 rw[<- hgP] at F1 ⊢
 clear hgP hgD hgR
 go_loopw [14,15,17] (fun s14 s15 s17 wr=>∃ (k:Nat) (Ar:Option Addr) (lr cr:Nat) (Ap:Option Addr) (lp cp:Nat) (n5:Bool) (A5:Option Addr) (l5 c5:Nat),k<=ix/\s17=.int .i64 ((ix:Int)-1-(k:Int))/\s14=.slice Ar lr cr/\s15=.slice Ap lp cp/\adx g16 wr Ar lr cr (S k).1/\aym (w.heap.size+1+1) Ar lr/\adx g16 wr Ap lp cp (S k).2.1/\aaN wr g16 n5 A5 l5 c5 (S k).2.2/\adx g16 wr (some ⟨bf,of,none⟩) lf cf f/\adx g16 wr (some ⟨gP,0,none⟩) 2 2 [P,Q]/\adx g16 wr (some ⟨gD,0,none⟩) 2 2 [D,D]/\aaN wr (w.heap.size+1+1) false none 0 0 0/\aaN wr g10 n3 A3 l3 c3 D/\Below w.heap.size w wr) (fun _ _ s17 _=>(intOf s17+1).toNat)
 case atStart=>exact ⟨0,_,_,_,_,_,_,_,_,_,_,Nat.zero_le _,by go_num,rfl,rfl,by rw[S0.out,<- Hix.out];exact F3.out,aAK,by rw[S0.out];exact F4.out,by rw[S0.out];exact I16.out,F0.out,F1.out,F2.out,I7.out,I10.out,Hb.out⟩
 case round =>
  clear F0 F1 F2 F3 F4 I16 I7 I10 Hb
  obtain ⟨k,Ar,lr,cr,Ap,lp,cp,n5,A5,l5,c5,hk,rfl,rfl,rfl,f3,azD,f4,i16,f0,f1,f2,i7,i10,hb⟩:=hrel
  by_cases hlt:k<ix
  ·obtain ⟨jx,hjx⟩:∃ jx:Nat,jx=ix-1-k:=⟨_,rfl⟩
   have e0:(ix:Int)-1-(k:Int)=(jx:Int):=by omega
   rw[e0]
   have hjl:jx<lf:=by omega
   have e2:f.length-2-k=jx:=by have:=Hix.out;omega
   obtain ⟨s1,s2,s3,s4,s5⟩:=SF.out k (by have:=Hix.out;omega)
   obtain ⟨t1,t2,t3,t4,t5⟩:=SF.out (k+1) (by have:=Hix.out;omega)
   have hss:=SS.out k
   rw[e2] at hss
   have hlr:=f3.n.length
   have hlp:=f4.n.length
   obtain ⟨pw,hpw⟩:∃ pw,pw=aag (aaf (S k).2.1) (aaf [D,D]):=⟨_,rfl⟩
   obtain ⟨sc,hsc⟩:∃ sc,sc=(S k).2.2*D:=⟨_,rfl⟩
   rw[<- hpw,<- hsc] at hss
   rw[hss] at t1 t2 t3 t4 t5
   dsimp only at t1 t2 t3 t4 t5
   have HSS:=Lh hss
   have Hpw:=Lh hpw
   have Hsc:=Lh hsc
   have Hjx:=Lh hjx
   have F0:=Lh f0
   have F1:=Lh f1
   have F2:=Lh f2
   have F3:=Lh f3
   have F4:=Lh f4
   have I7:=Lh i7
   have I10:=Lh i10
   have I16:=Lh i16
   have Hb:=Lh hb
   clear f0 f1 f2 f3 f4 i7 i10 i16 hb hss hpw hsc hjx e0 e2
   go_wp2_with fail
   refine (aoy ikN ikN _ _ _ _ _ _ _ _ _ F4.out.n F2.out.n s2 fDD (by omega) (by omega)).mono ?_
   rintro e w5 ⟨A6,l6,c6,rfl,h6,hfr,hb5⟩
   rw[<- Hpw.out] at h6
   have P6:=Lh (adx.fresh (g:=g16) h6 hfr I16.out.lt)
   replace F0:=Lh (F0.out.below hb5)
   replace F1:=Lh (F1.out.below hb5)
   replace F2:=Lh (F2.out.below hb5)
   replace F3:=Lh (F3.out.below hb5)
   replace I7:=Lh (I7.out.move hb5)
   replace I10:=Lh (I10.out.move hb5)
   replace I16:=Lh (I16.out.move hb5)
   replace Hb:=Lh (Hb.out.trans (hb5.mono Hb.out.size))
   have x0:=I16.out.c0
   have x1:=I16.out.c1
   have y0:=I10.out.c0
   have y1:=I10.out.c1
   have sD:=fD.sm
   have s3s:=s3.sm
   clear h6 hfr hb5 F4
   go_wp2_with fail
   refine (aa6 _ _ _ _ _ _ _ _ _ _ _ I16.out.hz.at_ I10.out.hz.at_ s3s sD (s3.adA _)).mono ?_
   rintro e w6 ⟨n7,A7,l7,c7,rfl,h7,hb6⟩
   rw[<- Hsc.out] at h7
   have i16:=I16.out.move hb6
   have i7:=(I7.out.move hb6).far i16 (by omega) (.bool n7) (.slice A7 l7 c7)
   have i10:=(I10.out.move hb6).far i16 (by omega) (.bool n7) (.slice A7 l7 c7)
   have axr:=i16.put h7
   have f0:=(F0.out.below hb6).put (n':=n7) (A2:=A7) (l2:=l7) (c2:=c7) i16
   have f1:=(F1.out.below hb6).put (n':=n7) (A2:=A7) (l2:=l7) (c2:=c7) i16
   have f2:=(F2.out.below hb6).put (n':=n7) (A2:=A7) (l2:=l7) (c2:=c7) i16
   have f3:=(F3.out.below hb6).put (n':=n7) (A2:=A7) (l2:=l7) (c2:=c7) i16
   have p6:=(P6.out.below hb6).put (n':=n7) (A2:=A7) (l2:=l7) (c2:=c7) i16
   have hb:=((Hb.out.trans (hb6.mono Hb.out.size)).setCell (p:=⟨g16,0,none⟩) (by simp;omega) (.bool n7)).setCell (p:=⟨g16,1,none⟩) (by simp;omega) (.slice A7 l7 c7)
   obtain ⟨wq,hwq⟩:∃ wq,wq=(w6.setCell ⟨g16,0,none⟩ (.bool n7)).setCell ⟨g16,1,none⟩ (.slice A7 l7 c7):=⟨_,rfl⟩
   unfold adz at f0 f1 f2 f3 p6 axr
   rw[<- hwq] at i7 i10 axr f0 f1 f2 f3 p6 hb
   have v0:=i16.c0
   have v1:=i16.c1
   have v2:=i16.f0
   have v3:=i16.f1
   clear x0 x1 y0 y1 h7 hb6 F0 F1 F2 F3 P6 I7 I10 I16 Hb i16
   replace F0:=Lh f0
   replace F1:=Lh f1
   replace F2:=Lh f2
   replace F3:=Lh f3
   replace P6:=Lh p6
   replace I7:=Lh i7
   replace I10:=Lh i10
   replace I16:=Lh axr
   replace Hb:=Lh hb
   clear f0 f1 f2 f3 p6 i7 i10 axr hb
   go_wp2_with fail
   rw[<- hwq]
   clear hwq v0 v1 v2 v3
   have hlR:=(aae (S k).1)
   have aAL:=aas (S k).1
   have hl2:(aaf (S k).1).length+(aaf [P,Q]).length<=1000000:=by
    have:=aae [P,Q]
    have:=aas [P,Q]
    simp only[List.length_cons,List.length_nil] at this
    omega
   obtain ⟨a1,a2,a3,a4⟩:=awP s1.trim fPQ.trim hl2 (ase jx) t2
   obtain ⟨hbx,nf,Af',lf',cf',g0,g1,ze⟩:=F0.out.n.elem hjl
   have ZE:=Lh ze
   have A4:=Lh a4
   have fcs:=(ase jx).sm
   have fcm:∀ k,ae1 (f.getD jx 0).natAbs (pw.getD k 0).natAbs:=fun k=>(ase jx).adA _
   have hl6:=P6.out.n.length
   have pws:=t2.smp
   have aAM:=I16.out.lt
   obtain ⟨pm,hpm⟩:∃ pm,pm=aag (aaf (S k).1) (aaf [P,Q]):=⟨_,rfl⟩
   rw[<- hpm] at a1 a4 A4 t1 t4 HSS
   have Hpm:=Lh hpm
   have aBK:pm.length<=1000000:=by
    rw[hpm]
    unfold aag
    split
    ·simp
    ·rw[ab4];omega
   clear ze a4 hpm hl2 hlR aAL
   go_region_held3 (fun w'=>w'.cell? ⟨bf,of+jx*2,none⟩=some (.bool nf)/\w'.cell? ⟨bf,of+jx*2+1,none⟩=some (.slice Af' lf' cf')) (go_keep) (first
    | (go_at_call 114;go_must (refine (adr ikN ikN _ _ _ _ _ _ _ _ _ ?_ ?_ s1 fPQ (by omega) (by omega)).mono ?_;(exact F3.out.n.below ikN Bel.go);(exact F1.out.n.below ikN Bel.go);rintro e w8 ⟨A8,l8,c8,rfl,h8,hb8⟩;rw[<- Hpm.out] at h8;have H8:=Lh h8;have Hb8:Hid (Below wq.heap.size wq w8):=Lh (Below.trans Bel.go (hb8.mono (by simp<;>omega)));obtain ⟨hcx,hfx⟩:=aap hb8;have v0:w8.cell? ⟨bf,of+jx*2,none⟩=some (.bool nf):=(hcx _ (by go_simp)).trans (by go_simp);have v1:w8.cell? ⟨bf,of+jx*2+1,none⟩=some (.slice Af' lf' cf'):=(hcx _ (by go_simp)).trans (by go_simp);clear h8 hcx hfx hb8))
    | (go_at_call 65;go_must (refine (aer ikN _ _ _ _ _ _ _ _ _ _ ?_ ?_ pws fcs fcm a2 (by omega)).mono ?_;(exact (P6.out.n.below ikN Hb8.out).below ikN Bel.go);(exact (ZE.out.below Hb8.out).below Bel.go);rintro e w9 ⟨A9,l9,c9,rfl,h9,hb9⟩;have H9:=Lh h9;have H8':=Lh (H8.out.below ikN (Below.trans Bel.go (hb9.mono (by simp<;>omega))));have Hb9:Hid (Below wq.heap.size wq w9):=Lh (Hb8.out.trans ((Below.trans Bel.go (hb9.mono (by simp<;>omega))).mono Hb8.out.size));obtain ⟨hcx,hfx⟩:=aap hb9;have u0:w9.cell? ⟨bf,of+jx*2,none⟩=some (.bool nf):=(hcx _ (by go_simp)).trans (by go_simp);have u1:w9.cell? ⟨bf,of+jx*2+1,none⟩=some (.slice Af' lf' cf'):=(hcx _ (by go_simp)).trans (by go_simp);clear h9 hcx hfx hb9))
    | (go_at_call 115;go_must (refine (aoz ikN ikN _ _ _ _ _ _ _ _ _ ?_ ?_ a1 a3 A4.out ?_ ?_).mono ?_;(exact H8'.out.below ikN Bel.go);(exact H9.out.below ikN Bel.go);(have:=H8'.out.length;omega);(have:=H9.out.length;have:=aae (psc (f.getD jx 0) pw);have:=aas (psc (f.getD jx 0) pw);have:=(show (psc (f.getD jx 0) pw).length=pw.length by unfold psc;rw[List.length_map]);omega);rintro e w10 ⟨A10,l10,c10,rfl,h10,hfr,abM⟩;have H10:=Lh h10;have FR:=Lh hfr;have alk:Hid (Below wq.heap.size wq w10):=Lh (Hb9.out.trans ((Below.trans Bel.go (abM.mono (by simp<;>omega))).mono Hb9.out.size));obtain ⟨hcx,hfx⟩:=aap abM;have z0:w10.cell? ⟨bf,of+jx*2,none⟩=some (.bool nf):=(hcx _ (by go_simp)).trans (by go_simp);have z1:w10.cell? ⟨bf,of+jx*2+1,none⟩=some (.slice Af' lf' cf'):=(hcx _ (by go_simp)).trans (by go_simp);clear h10 hfr hcx hfx abM)))
   rename_i hHeld
   have abM:=alk.out
   have K0:=Lh (F0.out.below abM)
   have K1:=Lh (F1.out.below abM)
   have K2:=Lh (F2.out.below abM)
   have K6:=Lh (P6.out.below abM)
   have K7:=Lh (I7.out.move abM)
   have K10:=Lh (I10.out.move abM)
   have K16:=Lh (I16.out.move abM)
   have Kb:=Lh (Hb.out.trans (abM.mono Hb.out.size))
   have K3:=Lh (adx.fresh (g:=g16) H10.out FR.out (Nat.lt_of_lt_of_le I16.out.lt Hb9.out.size))
   have aAN:aym (w.heap.size+1+1) A10 l10:=FR.out.imp id (fun ⟨r,e1,e2⟩=>⟨r,0,e1,by have:=Hb9.out.size;omega⟩)
   have hwj:IntKind.i64.wrap ((jx:Int)-1)=(jx:Int)-1:=IntWalk.i64_in _ (by omega)
   clear hHeld z0 z1 u0 u1 v0 v1 g0 g1 F0 F1 F2 F3 P6 I7 I10 I16 Hb H8 H8' H9 H10 FR Hb8 Hb9 alk abM ZE A4
   go_wp2_with fail
   go_roundw
   case rel=>exact ⟨k+1,_,_,_,_,_,_,_,_,_,_,by omega,by have:=Hjx.out;go_num,rfl,rfl,by rw[HSS.out];exact K3.out,aAN,by rw[HSS.out];exact K6.out,by rw[HSS.out];exact K16.out,K0.out,K1.out,K2.out,K7.out,K10.out,Kb.out⟩
   case measure=>have:=Hjx.out;simp[intOf]<;>omega
  ·have hki:k=ix:=by omega
   subst hki
   have e0:(k:Int)-1-(k:Int)=-1:=by omega
   rw[e0]
   have x0:=i16.c0
   have x1:=i16.c1
   have y0:=i7.c0
   have y1:=i7.c1
   have y2:=i7.f0
   have y3:=i7.f1
   have k7:=i7.put i16.hz
   have f7:=adx.put (n':=n5) (A2:=A5) (l2:=l5) (c2:=c5) ⟨f3.n,azD⟩ i7
   have hb7:Below w.heap.size w (adz wr (w.heap.size+1+1) n5 A5 l5 c5):=(hb.setCell (p:=⟨w.heap.size+1+1,0,none⟩) (by simp;omega) _).setCell (p:=⟨w.heap.size+1+1,1,none⟩) (by simp;omega) _
   have F7:=Lh f7
   have K7:=Lh k7
   have B7:=Lh hb7
   clear i16 i7 f3 hb k7 f0 f1 f2 f4 i10 f7 e0 azD hb7
   go_wp2_with fail
   go_region
   go_wp2
   obtain ⟨WW,hWW⟩:∃ WW,WW=adz wr (w.heap.size+1+1) n5 A5 l5 c5:=⟨_,rfl⟩
   have K7x:=K7.out.move ((Below.refl _ _).drew)
   have F7x:=F7.out.below ((Below.refl _ _).drew)
   have hbx:=B7.out.drew
   change bodyPost _ _ _ _ _ (adz wr (w.heap.size+1+1) n5 A5 l5 c5).drew
   rw[<- hWW] at K7x F7x hbx ⊢
   generalize WW.drew=W2 at K7x F7x hbx ⊢
   have k70:=K7x.c0
   have k71:=K7x.c1
   have eV:k=f.length-1:=Hix.out
   refine bodyPost_ret (v:=.tuple #[.slice Ar lr cr,.agg #[.bool n5,.slice A5 l5 c5]]) (by simp[results,Tryz.results99,go_sem,k70,k71]) rfl ⟨_,_,_,_,_,_,_,rfl,by rw[HV1.out,<- eV];exact F7x.n,by rw[HV2.out,<- eV];exact K7x.hz,hbx⟩
end Go.Proofs.YtdimmlckpgpgcaaGreat
namespace Go.Proofs.YtdimmlckpgpgcaaGreat
open Go.RowKit
def ajZ (f:List Int):List Int:=f.map (·.tdiv (aal f:Int))
theorem agV (f:List Int) (k:Nat):(ajZ f).getD k 0=(f.getD k 0).tdiv (aal f:Int):=by
 unfold ajZ
 rw[List.getD_eq_getElem?_getD,List.getD_eq_getElem?_getD,List.getElem?_map]
 cases f[k]? with
 | none=>simp
 | some x=>simp
theorem asf {f:List Int} (h:SmP f):SmP (ajZ f):=fun c hc=>by
 obtain ⟨x,hx,rfl⟩:=List.mem_map.1 hc
 exact (h x hx).mono (by rw[Int.natAbs_tdiv];exact Nat.div_le_self _ _)
set_option maxRecDepth 100000 in
set_option maxHeartbeats 4000000 in
theorem aqC (A:Option Addr) (len cap:Nat) (f:List Int) (w:World) (h:aaR w A len cap f) (hs:SmP f) (hm:len<=1000000000) (h1:aac f≠0) :
 Calls Tryz.prog 100 #[.slice A len cap] w fun e w'=>∃ A' l' c',e=.returned (.slice A' l' c')/\aaR w' A' l' c' (aaf (ajZ f))/\Below w.heap.size w w':=by
 have hl:=h.length
 have hc0:(aal f:Int)≠0:=by have:=abN h1;omega
 have scn:SmI (aal f:Int):=by unfold SmI;rw[Int.natAbs_natCast];exact amv hs
 have hmod:∀ k,(f.getD k 0).tmod (aal f:Int)=0:=fun k=>by
  have h2:=abE f k
  have h3:(aal f:Int)∣f.getD k 0:=by rw[<- Int.natAbs_dvd_natAbs,Int.natAbs_natCast];exact h2
  exact Int.tmod_eq_zero_of_dvd h3
 have hq:=agV f
 have hql:(ajZ f).length=len:=by unfold ajZ;rw[List.length_map];exact hl
 have hqs:=asf hs
 obtain ⟨q,hqe⟩:∃ q,q=ajZ f:=⟨_,rfl⟩
 rw[<- hqe] at hq hql hqs ⊢
 obtain ⟨c,hce⟩:∃ c:Int,c=(aal f:Int):=⟨_,rfl⟩
 rw[<- hce] at hc0 scn hmod hq
 have Hq:=Lh hq
 have aAO:=Lh hmod
 have Hql:=Lh hql
 have HCE:=Lh hce
 have sf:∀ k,SmI (f.getD k 0):=fun k=>hs.getD k
 clear hqe hq hmod hql hce h1 hl
 go_enter Tryz.func100,Tryz.ntmps100
 go_wp2_with fail
 refine (ahh ikN _ _ _ _ _ h hs hm).mono ?_
 rintro e w1 ⟨n1,A1,l1,c1,rfl,hz1,hb1⟩
 rw[<- HCE.out] at hz1
 have j1:=aak w1 (aaq n1 A1 l1 c1)
 have HX:=Lh (aaN.make hz1)
 have HF:=Lh ((h.below ikN hb1).below ikN j1)
 have Hb:=Lh (hb1.trans (j1.mono hb1.size))
 clear h hz1 hb1 j1
 obtain ⟨wa,hwa⟩:∃ wa,wa=w1.alloc (aaq n1 A1 l1 c1):=⟨_,rfl⟩
 have hsa:wa.heap.size=w1.heap.size+1:=by rw[hwa];simp
 go_wp2_with (at_make;refine aaU _ rfl (.tmp 10) (.tmp 10) rfl len rfl rfl (by omega) ?_)
 rw[<- hwa] at HX HF Hb ⊢
 clear hwa
 intro w2 hz hb2 hsz
 rw[<- ac2 q len] at hz
 have Hz:=Lh hz
 have Hb2:=Lh hb2
 obtain ⟨gr,hgr⟩:∃ gr,gr=w1.heap.size+1:=⟨_,rfl⟩
 rw[<- hgr] at Hz Hb2 ⊢
 have Hgr:=Lh (hgr.trans hsa.symm)
 have lgr:w1.heap.size<gr:=by omega
 clear hz hb2 hsz hsa hgr
 go_wp2
 go_loopw [14] (fun s14 wr=>∃ k:Nat,k<=len/\s14=.int .i64 (k:Int)/\ab2 wr gr (upto q k len)/\Below gr wa wr) (fun s14 _=>len-(intOf s14).toNat)
 case atStart=>exact ⟨0,Nat.zero_le _,rfl,Hz.out,Hb2.out⟩
 case round =>
  clear Hz Hb2
  obtain ⟨k,hk,rfl,hrow,hbw⟩:=hrel
  by_cases hlt:k<len
  ·obtain ⟨b1,o1,rfl,hb1,hc1⟩:=HF.out.get (by omega)
   obtain ⟨nf,Af,lf,cf,f0,f1,zf⟩:=hc1 k hlt
   have hbg:b1<gr:=by rw[Hgr.out];exact hb1
   have e0:=(hbw.cell (p:=⟨b1,o1+k*2,none⟩) hbg).trans f0
   have e1:=(hbw.cell (p:=⟨b1,o1+k*2+1,none⟩) hbg).trans f1
   have ayp:Below wa.heap.size wa wr:=by rw[<- Hgr.out];exact hbw
   have zf2:=zf.below ayp
   have x2:=HX.out.move ayp
   have x0:=x2.c0
   have x1:=x2.c1
   have hul:(upto q k len).length=len:=upto_length _ _ _
   have hgs:=hrow.lt
   obtain ⟨n0,A0,l0,c0,d0,d1,_⟩:=hrow.elems k (by rw[hul];exact hlt)
   have fr0:=hrow.frozen (k*2)
   have fr1:=hrow.frozen (k*2+1)
   have Zf:=Lh zf2
   have X2:=Lh x2
   have abW:=Lh hrow
   have Hbw:=Lh hbw
   have hd:=aAO.out k
   have sk:=sf k
   have HE:=Lh (Hq.out k)
   have lt1:w1.heap.size<wr.heap.size:=by omega
   have lt2:gr<wr.heap.size:=hgs
   have hkn:(k:Int)<(len:Int):=by omega
   clear hc1 f0 f1 zf hb1 ayp zf2 x2 hrow hbw
   go_wp2_with fail
   refine (aeM _ _ _ _ _ _ _ _ _ _ _ (Zf.out.at_.below Bel.go) (X2.out.hz.at_.below Bel.go) sk scn hc0 hd).mono ?_
   rintro e w3 ⟨n3,A3,l3,c3,rfl,h3,hb3⟩
   have hba:Below wr.heap.size wr w3:=Below.trans Bel.go (hb3.mono (by simp<;>omega))
   have hrw:=abW.out.below hba
   have Hb3:=Lh (Hbw.out.trans (hba.mono (by omega)))
   have hst:=adD q (k:=k) (n:=len) hlt
   rw[HE.out] at hst
   have hr2:=hrw.acP (i:=k) (by rw[hul];exact hlt) h3
   rw[hst] at hr2
   have Hr2:=Lh hr2
   obtain ⟨n5,A5,l5,c5,p0,p1,_⟩:=hrw.elems k (by rw[hul];exact hlt)
   have p2:=hrw.frozen (k*2)
   have p3:=hrw.frozen (k*2+1)
   clear e0 e1 x0 x1 d0 d1 fr0 fr1 h3 hb3 hba hrw hst hr2 hul Zf X2 abW Hbw HE
   go_wp2_with fail
   go_roundw
   case rel=>exact ⟨k+1,by omega,by go_num,Hr2.out,(Hb3.out.setCell (p:=⟨gr,k*2,none⟩) (Nat.le_refl _) _).setCell (p:=⟨gr,k*2+1,none⟩) (Nat.le_refl _) _⟩
   case measure=>simp[intOf];omega
  ·have hk2:len=k:=by omega
   subst hk2
   have hkn:¬ (len:Int)<(len:Int):=by omega
   have hup:upto q len len=q:=by have:=ac3 q;rw[Hql.out] at this;exact this
   rw[hup] at hrow
   have hp:=hrow.poly (cap:=len) (by rw[Hql.out];exact Nat.le_refl _)
   rw[Hql.out] at hp
   have hb4:Below w.heap.size w wr:=Hb.out.trans (hbw.mono (by rw[Hgr.out];exact Hb.out.size))
   have Hb4:=Lh hb4
   clear hup hrow hbw hb4
   go_wp2_with fail
   refine (abm ikN _ _ _ _ _ hp hqs (by omega)).mono ?_
   rintro e w5 ⟨g5,rfl,hr5,hg5,hb5⟩
   have hp5:=hr5.poly (cap:=aac q) (by rw[aae];exact Nat.le_refl _)
   rw[aae] at hp5
   have Hp5:=Lh hp5
   have Hb5:=Lh (Hb4.out.trans (hb5.mono Hb4.out.size))
   clear hp hr5 hb5 hp5
   go_wp2
   go_ret
   exact ⟨_,_,_,rfl,Hp5.out,Hb5.out⟩
def cdD (q q':Nat) (z z':Int):Int:=lcd (q / Nat.gcd z.natAbs q) (q' / Nat.gcd z'.natAbs q')
def cdP (q q':Nat) (z z':Int):Int:=z.tdiv (Nat.gcd z.natAbs q)*(cdD q q' z z').tdiv ((q / Nat.gcd z.natAbs q:Nat):Int)
def cdQ (q q':Nat) (z z':Int):Int:=z'.tdiv (Nat.gcd z'.natAbs q')*(cdD q q' z z').tdiv ((q' / Nat.gcd z'.natAbs q':Nat):Int)
def afO (f:List Int) (P Q D:Int):List Int:=aaf (ajZ (trs f P Q D (f.length-1)).1)
def abA (f:List Int) (q q':Nat) (z z':Int):List Int:=if aac f=0∨¬ (z*(q':Int)<z'*(q:Int)) then [] else afO (aaf f) (cdP q q' z z') (cdQ q q' z z') (cdD q q' z z')
def auW (f:List Int) (q q':Nat) (z z':Int):Prop:=1<=aac f->z*(q':Int)<z'*(q:Int)->axq (aaf f) (cdP q q' z z') (cdQ q q' z z') (cdD q q' z z')/\aac (trs (aaf f) (cdP q q' z z') (cdQ q q' z z') (cdD q q' z z') ((aaf f).length-1)).1≠0/\1<=(aaf f).length
set_option maxRecDepth 100000 in
set_option maxHeartbeats 4000000 in
theorem aoA {I:aay} (hI:IK I) (Af:Option Addr) (lf cf:Nat) (f:List Int) (n:Bool) (A:Option Addr) (l c:Nat) (B:Option Addr) (m d q:Nat) (z:Int) (n':Bool) (A':Option Addr) (l' c':Nat) (B':Option Addr) (m' d' q':Nat) (z':Int) (w:World) (hf:aaw I w Af lf cf f) (hfm:lf<=900000) (ase:abH f)
 (hz:aaE w n A l c z) (hq:aaW w B m d q) (hz':aaE w n' A' l' c' z') (hq':aaW w B' m' d' q') (hu:Fit z) (hv:Fit (q:Int)) (h0:0<q) (hu':Fit z') (hv':Fit (q':Int)) (h0':0<q') (hok:auW f q q' z z') :
 Calls Tryz.prog 80 #[.slice Af lf cf,.agg #[.bool n,.slice A l c,.slice B m d],.agg #[.bool n',.slice A' l' c',.slice B' m' d']] w fun e w'=>∃ A1 l1 c1,e=.returned (.slice A1 l1 c1)/\aaR w' A1 l1 c1 (abA f q q' z z')/\Below w.heap.size w w':=by
 have o1:=aak w (aaV n A l c B m d)
 have o2:=aak (w.alloc (aaV n A l c B m d)) (aaV n' A' l' c' B' m' d')
 have b2:Below w.heap.size w ((w.alloc (aaV n A l c B m d)).alloc (aaV n' A' l' c' B' m' d')):=o1.alloc (by simp) _
 have R1:=(abV.make hz hq).move o2
 have R2:=abV.make (hz'.below o1) (hq'.below o1)
 simp only[World.size_alloc] at R2
 have hf2:=hf.below hI b2
 replace R1:=Lh R1
 replace R2:=Lh R2
 have Hb:=Lh b2
 have hlf:=hf.length
 have aBL:=aas f
 obtain ⟨V,hV⟩:∃ V,V=abA f q q' z z':=⟨_,rfl⟩
 rw[<- hV]
 have HV:=Lh hV
 have Hok:=Lh hok
 clear o1 o2 b2 hz hq hz' hq' hf hV hok
 go_enter Tryz.func80,Tryz.ntmps80
 go_wp2_with fail
 refine (abm hI _ _ _ _ _ hf2 ase.smp (by omega)).mono ?_
 rintro e w1 ⟨g1,rfl,hr1,hg1,hb1⟩
 have hp1:=hr1.poly (cap:=aac f) (by rw[aae];exact Nat.le_refl _)
 rw[aae] at hp1
 have HP:=Lh hp1
 replace R1:=Lh (R1.out.move hb1)
 replace R2:=Lh (R2.out.move hb1)
 replace Hb:=Lh (Hb.out.trans (hb1.mono Hb.out.size))
 obtain ⟨L,hL⟩:∃ L,L=aac f:=⟨_,rfl⟩
 rw[<- hL] at HP ⊢
 have HL:=Lh hL
 clear hf2 hr1 hb1 hp1
 by_cases h1:L=0
 ·have hb0:((L:Int) == 0)=true:=by rw[h1];rfl
  have hV0:V=[]:=by rw[HV.out];unfold abA;rw[if_pos (.inl (by rw[<- HL.out];exact h1))]
  have HV0:=Lh hV0
  clear h1 hV0 hL
  go_wp2_with fail
  go_ret
  exact ⟨_,_,_,rfl,by rw[HV0.out];exact aaw.nil _ _ _ _,Hb.out⟩
 ·have hb0:((L:Int) == 0)=false:=by rw[beq_eq_false_iff_ne];omega
  have x0:=R1.out.c0
  have x1:=R1.out.c1
  have x2:=R1.out.c2
  have y0:=R2.out.c0
  have y1:=R2.out.c1
  have y2:=R2.out.c2
  have H1:=Lh (show 1<=aac f by omega)
  clear h1 hL
  go_wp2_with fail
  refine (acY _ _ _ _ _ _ _ _ _ _ _ _ _ _ _ _ _ _ _ R1.out.hz.at_ R1.out.hq.at_ R2.out.hz.at_ R2.out.hq.at_ (by omega) (by omega) hu hv hu' hv').mono ?_
  rintro e w2 ⟨rfl,hb2⟩
  replace R1:=Lh (R1.out.move hb2)
  replace R2:=Lh (R2.out.move hb2)
  replace HP:=Lh (HP.out.below ikN hb2)
  replace Hb:=Lh (Hb.out.trans (hb2.mono Hb.out.size))
  clear hb2 x0 x1 x2 y0 y1 y2
  by_cases hlt:z*(q':Int)<z'*(q:Int)
  ·have hcm:¬ (0<=aec (z*(q':Int)) (z'*(q:Int))):=by unfold aec;rw[if_pos hlt];omega
   have x0:=R1.out.c0
   have x1:=R1.out.c1
   have x2:=R1.out.c2
   have y0:=R2.out.c0
   have y1:=R2.out.c1
   have y2:=R2.out.c2
   obtain ⟨tok,tne,tl⟩:=Hok.out H1.out hlt
   have hVe:V=afO (aaf f) (cdP q q' z z') (cdQ q q' z z') (cdD q q' z z'):=by
    rw[HV.out];unfold abA
    rw[if_neg]
    rintro (h | h)
    ·have:=H1.out;omega
    ·exact h hlt
   have HVe:=Lh hVe
   have tfp:=ase.trim
   have tpl:aac (aaf f)=(aaf f).length:=by rw[abb,aae]
   obtain ⟨p,hp⟩:∃ p,p=aaf f:=⟨_,rfl⟩
   rw[<- hp] at HP tok tne tl HVe tfp tpl
   obtain ⟨C,hC⟩:∃ C,C=aec (z*(q':Int)) (z'*(q:Int)):=⟨_,rfl⟩
   rw[<- hC] at hcm ⊢
   obtain ⟨T1,hT1⟩:∃ T,T=(trs p (cdP q q' z z') (cdQ q q' z z') (cdD q q' z z') (p.length-1)).1:=⟨_,rfl⟩
   have hT:=tok.2.2.2 (p.length-1) (by omega)
   rw[<- hT1] at tne hT
   have hVt:V=aaf (ajZ T1):=by rw[HVe.out,hT1];rfl
   have HVt:=Lh hVt
   have HT1:=Lh hT1
   have sT:=hT.1.smp
   have lT:=hT.2.2.2.1
   have Tok:=Lh tok
   have Htl:=Lh tl
   have HLe:=Lh (show L<=1000000 by have:=HL.out;omega)
   clear hVe hVt hC hT hT1 tok tl hp hlt
   go_wp2_with fail
   refine (ajI _ _ _ _ _ _ _ _ _ _ _ _ _ _ _ _ _ _ _ _ _ _ _ HP.out tpl Htl.out HLe.out tfp R1.out.hz R1.out.hq R2.out.hz R2.out.hq hu hv h0 hu' hv' h0' _ _ _ _ _ rfl rfl rfl rfl rfl Tok.out).mono ?_
   rintro e w3 ⟨A3,l3,c3,n4,A4,l4,c4,rfl,h3,h4,hb3⟩
   replace h3:aaR w3 A3 l3 c3 T1:=by rw[HT1.out];exact h3
   have jb:=aak w3 (aaq n4 A4 l4 c4)
   have hl3:=h3.length
   have H3:=Lh (h3.below ikN jb)
   replace Hb:=Lh ((Hb.out.trans (hb3.mono Hb.out.size)).trans (jb.mono (Hb.out.trans (hb3.mono Hb.out.size)).size))
   clear h3 h4 hb3 jb x0 x1 x2 y0 y1 y2 R1 R2 HP
   go_wp2_with fail
   refine (aqC _ _ _ _ _ H3.out sT (by omega) tne).mono ?_
   rintro e w5 ⟨A5,l5,c5,rfl,h5,hb5⟩
   have H5:=Lh h5
   have Hb5:=Lh (Hb.out.trans (hb5.mono Hb.out.size))
   clear h5 hb5 H3 Hb
   go_wp2
   go_ret
   exact ⟨_,_,_,rfl,by rw[HVt.out];exact H5.out,Hb5.out⟩
  ·have hcm:0<=aec (z*(q':Int)) (z'*(q:Int)):=by unfold aec;rw[if_neg hlt];split<;>omega
   have hV0:V=[]:=by rw[HV.out];unfold abA;rw[if_pos (.inr hlt)]
   have HV0:=Lh hV0
   obtain ⟨C,hC⟩:∃ C,C=aec (z*(q':Int)) (z'*(q:Int)):=⟨_,rfl⟩
   rw[<- hC] at hcm ⊢
   clear hV0 hC hlt
   go_wp2_with fail
   go_ret
   exact ⟨_,_,_,rfl,by rw[HV0.out];exact aaw.nil _ _ _ _,Hb.out⟩
set_option maxRecDepth 100000 in
set_option maxHeartbeats 4000000 in
theorem asg {I:aay} (hI:IK I) (Af:Option Addr) (lf cf:Nat) (f:List Int) (n:Bool) (A:Option Addr) (l c:Nat) (B:Option Addr) (m d q:Nat) (z:Int) (n':Bool) (A':Option Addr) (l' c':Nat) (B':Option Addr) (m' d' q':Nat) (z':Int) (w:World) (hf:aaw I w Af lf cf f) (hfm:lf<=900000) (ase:abH f)
 (hz:aaE w n A l c z) (hq:aaW w B m d q) (hz':aaE w n' A' l' c' z') (hq':aaW w B' m' d' q') (hu:Fit z) (hv:Fit (q:Int)) (h0:0<q) (hu':Fit z') (hv':Fit (q':Int)) (h0':0<q') (hok:auW f q q' z z') (hs:SmP (abA f q q' z z')) (hl:(abA f q q' z z').length<=1000000) :
 Calls Tryz.prog 51 #[.slice Af lf cf,.agg #[.bool n,.slice A l c,.slice B m d],.agg #[.bool n',.slice A' l' c',.slice B' m' d']] w fun e w'=>e=.returned (.int .i64 ((vst (abA f q q' z z') (abA f q q' z z').length).1:Nat))/\Below w.heap.size w w':=by
 have o1:=aak w (aaV n A l c B m d)
 have o2:=aak (w.alloc (aaV n A l c B m d)) (aaV n' A' l' c' B' m' d')
 have b2:Below w.heap.size w ((w.alloc (aaV n A l c B m d)).alloc (aaV n' A' l' c' B' m' d')):=o1.alloc (by simp) _
 have R1:=(abV.make hz hq).move o2
 have R2:=abV.make (hz'.below o1) (hq'.below o1)
 simp only[World.size_alloc] at R2
 have hf2:=hf.below hI b2
 replace R1:=Lh R1
 replace R2:=Lh R2
 have Hb:=Lh b2
 obtain ⟨V,hV⟩:∃ V,V=abA f q q' z z':=⟨_,rfl⟩
 rw[<- hV] at hs hl ⊢
 have HV:=Lh hV
 have Hok:=Lh hok
 clear o1 o2 b2 hz hq hz' hq' hf hV hok
 go_enter Tryz.func51,Tryz.ntmps51
 go_wp2_with fail
 refine (aoA hI _ _ _ _ _ _ _ _ _ _ _ _ _ _ _ _ _ _ _ _ _ _ _ hf2 hfm ase R1.out.hz R1.out.hq R2.out.hz R2.out.hq hu hv h0 hu' hv' h0' Hok.out).mono ?_
 rintro e w1 ⟨A1,l1,c1,rfl,h1,hb1⟩
 rw[<- HV.out] at h1
 have hl1:=h1.length
 have H1:=Lh h1
 replace Hb:=Lh (Hb.out.trans (hb1.mono Hb.out.size))
 clear h1 hb1 hf2 R1 R2
 go_wp2_with fail
 refine (ard _ _ _ _ _ (H1.out.at_ ikN) hs (by omega)).mono ?_
 rintro e w2 ⟨rfl,hb2⟩
 rw[<- hl1]
 have Hb2:=Lh (Hb.out.trans (hb2.mono Hb.out.size))
 obtain ⟨X,hX⟩:∃ X,X=(vst V V.length).1:=⟨_,rfl⟩
 rw[<- hX]
 have HX:=Lh hX
 clear hb2 H1 Hb hX
 go_wp2
 go_ret
 exact ⟨by show Ending.returned (.int .i64 (X:Int))=_;rw[HX.out],Hb2.out⟩
end Go.Proofs.YtdimmlckpgpgcaaGreat
namespace Go.Proofs.YtdimmlckpgpgcaaGreat
open Go.RowKit
theorem awR {S T:List Int} {k:Nat} (tS:aaf S=S) (tT:aaf T=T) (l2:2<=aac T) (lT:aac T<=aac S) (l10:aac S<=10) (hb:∀ j,(S.getD j 0).natAbs<=BB^k) (hd:∀ j,(T.getD j 0).natAbs<=BB^k) (hk:k<=60) (hc:∀ p,Dvq p S->Dvq p T->aac p<=1) :
 ∃ (U V:List Int) (c:Int),c≠0/\U.length<=10/\V.length<=10/\(∀ j,(U.getD j 0).natAbs<=BB^(20*(k+3)))/\(∀ j,(V.getD j 0).natAbs<=BB^(20*(k+3)))/\∀ x,ev U x*ev S x+ev V x*ev T x=c:=by
 have lS:S.length=aac S:=by rw[<- aae,tS]
 have lT2:T.length=aac T:=by rw[<- aae,tT]
 obtain ⟨m,hm⟩:∃ m,aac S=m+1:=⟨aac S-1,by omega⟩
 obtain ⟨n,hn⟩:∃ n,aac T=n+1:=⟨aac T-1,by omega⟩
 have hG:1<=BB^(k+2):=Nat.pow_pos aaI
 have ok:GOK (BB^(k+2)) m n 0 1100:=alU (by omega) hG (Nat.pow_lt_pow_right (by rw[aao];decide) (by omega))
 have hb':∀ j,(S.getD j 0).natAbs<=BB^(k+1):=fun j=>Nat.le_trans (hb j) (abf (by omega))
 have hd':∀ j,(T.getD j 0).natAbs<=BB^(k+1):=fun j=>Nat.le_trans (hd j) (abf (by omega))
 have up:∀ {x:Nat},x<=BB^(k+1)->x*(m+n)<=BB^(k+2):=fun hx=>by
  rw[Nat.pow_succ]
  exact Nat.mul_le_mul hx (by rw[aao];omega)
 have hs:=aeV (f:=S) (g:=T) (m:=m) (n:=n) (G:=BB^(k+2)) (e:=0) (by omega) (by omega) (by omega) (by omega) (by omega) (by omega) hG (fun j=>Nat.le_trans (hb' j) (abf (by omega))) (fun j=>Nat.le_trans (hd' j) (abf (by omega)))
 have hlow:∀ p,acT S T p->1<=aac p->0+1<=aac p:=fun p _ h=>by omega
 obtain ⟨_,d1,d2⟩:=adn.spec ok hlow (fun j=>up (hb' j)) (fun j=>up (hd' j)) 20 _ _ hs (by show T.length<=20;omega)
 obtain ⟨L,hL⟩:∃ L,L=lst T (rsq 20 ⟨S,T,-1,(-1)^(S.length-T.length+1)⟩):=⟨_,rfl⟩
 have hl1:aac L<=1:=by rw[hL];exact hc _ d1 d2
 have hl0:aac L≠0:=by
  rw[hL]
  intro e0
  obtain ⟨c,q,hc0,e⟩:=d2
  have:aac T=0:=by
   refine Classical.byContradiction fun hn=>?_
   refine (ahF (p:=T) (r:=psc c T) hc0 (fun t=>aaG _ _ _)).2 hn ?_
   rw[adM (r:=aag q (lst T (rsq 20 ⟨S,T,-1,(-1)^(S.length-T.length+1)⟩))) fun t=>by rw[aaG,aat,e]]
   exact acI (.inr e0)
  omega
 obtain ⟨U,V,c,c0,u1,u2,u3,u4,u5⟩:=adn.uv ok hlow (fun j=>up (hb' j)) (fun j=>up (hd' j)) hb' hd' 20 _ _ hs (by show T.length<=20;omega) (by show 2<=T.length;omega) (by show aac (lst T _)=1;rw[<- hL];omega)
 have hbd:((n+m)*BB^(k+1)+1)^(n+m)<=BB^(20*(k+3)):=by
  have x1:(n+m)*BB^(k+1)+1<=BB^(k+2):=by
   have:BB^(k+1)*20<=BB^(k+1)*BB:=Nat.mul_le_mul_left _ (by rw[aao];decide)
   have h1:1<=BB^(k+1):=Nat.pow_pos aaI
   have h2:(n+m)*BB^(k+1)<=19*BB^(k+1):=Nat.mul_le_mul_right _ (by omega)
   have e9:BB^(k+2)=BB^(k+1)*BB:=Nat.pow_succ ..
   rw[e9]
   omega
  calc ((n+m)*BB^(k+1)+1)^(n+m)<=(BB^(k+2))^(n+m):=Nat.pow_le_pow_left x1 _
   _=BB^((k+2)*(n+m)):=by rw[<- Nat.pow_mul]
   _<=BB^(20*(k+3)):=abf (by
    have:(k+2)*(n+m)<=(k+2)*20:=Nat.mul_le_mul_left _ (by omega)
    omega)
 exact ⟨U,V,c,c0,by omega,by omega,fun j=>Nat.le_trans (u3 j) hbd,fun j=>Nat.le_trans (u4 j) hbd,u5⟩
theorem azF {S T:List Int} {k:Nat} (tS:aaf S=S) (tT:aaf T=T) (lS:2<=aac S) (lT:2<=aac T) (l10:aac S<=10) (t10:aac T<=10) (hb:∀ j,(S.getD j 0).natAbs<=BB^k) (hd:∀ j,(T.getD j 0).natAbs<=BB^k) (hk:k<=60) (hc:∀ p,Dvq p S->Dvq p T->aac p<=1) :
 ∃ (U V:List Int) (c:Int),c≠0/\U.length<=10/\V.length<=10/\(∀ j,(U.getD j 0).natAbs<=BB^(20*(k+3)))/\(∀ j,(V.getD j 0).natAbs<=BB^(20*(k+3)))/\∀ x,ev U x*ev S x+ev V x*ev T x=c:=by
 rcases Nat.le_total (aac T) (aac S) with h | h
 ·exact awR tS tT lT h l10 hb hd hk hc
 ·obtain ⟨U,V,c,c0,u1,u2,u3,u4,u5⟩:=awR tT tS lS h t10 hd hb hk (fun p p1 p2=>hc p p2 p1)
  exact ⟨V,U,c,c0,u2,u1,u4,u3,fun x=>by rw[<- u5 x,Int.add_comm]⟩
end Go.Proofs.YtdimmlckpgpgcaaGreat
namespace Go.Proofs.YtdimmlckpgpgcaaGreat
open Go.RowKit
def pwl (p:List Int):Nat->List Int
 | 0=>[1]
 | k+1=>aag p (pwl p k)
theorem agG (p:List Int) (x:Int):∀ k,ev (pwl p k) x=ev p x^k
 | 0=>by rw[show pwl p 0=[1] from rfl,aaY,Int.pow_zero]
 | k+1=>by rw[show pwl p (k+1)=aag p (pwl p k) from rfl,aat,agG p x k,Int.pow_succ,Int.mul_comm]
theorem anp {p:List Int} (h:aal p=1):∀ k,aal (pwl p k)=1
 | 0=>by show aal [1]=1;decide
 | k+1=>by rw[show pwl p (k+1)=aag p (pwl p k) from rfl,aex,h,anp h k]
theorem anq {p:List Int} (h:2<=aac p):∀ k,k+1<=aac (pwl p k)
 | 0=>by show 0+1<=aac [1];decide
 | k+1=>by
   have ih:=anq h k
   rw[show pwl p (k+1)=aag p (pwl p k) from rfl,(abX (by omega) (by omega)).1]
   omega
theorem ath (p:List Int) (x:Int):∀ k,dv (pwl p (k+1)) x=((k:Int)+1)*(ev p x^k*dv p x)
 | 0=>by
   have h:=ano (p:=pwl p 1) (a:=p) (b:=[1]) (fun x=>by rw[show pwl p (0+1)=aag p (pwl p 0) from rfl,aat];rfl) x
   rw[show pwl p (0+1)=pwl p 1 from rfl,h,aaY]
   have e:dv [1] x=0:=by show ev [] x+x*0=0;rw[abt];omega
   rw[e,Int.pow_zero]
   simp
 | k+1=>by
   have h:=ano (p:=pwl p (k+1+1)) (a:=p) (b:=pwl p (k+1)) (fun x=>by rw[show pwl p (k+1+1)=aag p (pwl p (k+1)) from rfl,aat]) x
   rw[h,ath p x k,agG,Int.pow_succ]
   push_cast
   grind
theorem ash (c1 e r r' t s1 t' U V:Int) (h1:c1*(r'*t+r*t')=s1*r) (h2:U*r+V*r'=e):(e*c1)*t=(c1*(U*t)+V*s1 + -(c1*(V*t')))*r:=by
 have h3:V*(c1*(r'*t+r*t'))=V*(s1*r):=by rw[h1]
 rw[<- h2]
 grind
theorem aqE {p:List Int} (h:aac p<=1) (x:Int):ev p x=p.getD 0 0:=by
 rw[aaz (q:=[p.getD 0 0]) (fun k=>by
  match k with
  | 0=>rfl
  | k+1=>exact aah _ _ (by omega)) x,aaY]
section
variable {F:List Int}
theorem au0 {r:List Int} {k:Nat} (t:aaf r=r) (h2:2<=aac r) (h10:aac r<=10) (hb:∀ j,(r.getD j 0).natAbs<=BB^k) (hk:k+1<=60) (hc:∀ p,Dvq p r->Dvq p (aau r)->aac p<=1):∃ (U V:List Int) (e:Int),e≠0/\∀ x,ev U x*ev r x+ev V x*dv r x=e:=by
 have hl:=acn h2
 by_cases c:aac r=2
 ·have h1:aac (aau r)<=1:=by omega
  refine ⟨[],[1],(aau r).getD 0 0,fun e0=>?_,fun x=>?_⟩
  ·have:aac (aau r)=0:=by
    have h:=aax (p:=aau r) (n:=0) fun j _=>by
     match j with
     | 0=>exact e0
     | j+1=>exact aah _ _ (by omega)
    omega
   omega
  ·rw[abt,aaY,<- afr,aqE h1]
   omega
 ·have hd:∀ j,((aaf (aau r)).getD j 0).natAbs<=BB^(k+1):=fun j=>by
   rw[aam];exact adg (by omega) hb j
  obtain ⟨U,V,e,e0,_,_,_,_,h⟩:=azF (S:=r) (T:=aaf (aau r)) (k:=k+1) t (by rw[acu]) h2 (by rw[abb];omega) h10 (by rw[abb];omega) (fun j=>Nat.le_trans (hb j) (abf (by omega))) hd hk (fun p p1 p2=>hc p p1 (by
   obtain ⟨c,q,hc0,e⟩:=p2
   exact ⟨c,q,hc0,fun x=>by rw[<- e x,aeY]⟩))
  exact ⟨U,V,e,e0,fun x=>by rw[<- h x,aeY,afr]⟩
theorem aqF (hF:QOK F) (F0:aac F≠0) (h10:aac (aaP F)<=10) (azG:∀ j,((aaP F).getD j 0).natAbs<=BB^16):∀ (n:Nat) (p:List Int),aac p<=n->Dvq p (aaP F)->Dvq p (aau (aaP F))->aac p<=1
 | 0,p,h,_,_=>by omega
 | n+1,p,h,d1,d2=>by
   refine Classical.byContradiction fun hn=>?_
   have hq:=acL hF F0
   have p0:aac p≠0:=by omega
   obtain ⟨r,hr⟩:∃ r,r=aan p:=⟨_,rfl⟩
   have rl:aac r=aac p:=by rw[hr];exact acJ p
   have rc:aal r=1:=by rw[hr];exact ajl p0
   have rt:aaf r=r:=by rw[hr];exact ahz p
   have r1:Dvq r (aaP F):=by rw[hr];exact (acU p0).trans d1
   have r2:Dvq r (aau (aaP F)):=by rw[hr];exact (acU p0).trans d2
   obtain ⟨c,s,hc0,e⟩:=r1
   obtain ⟨t,ht⟩:=aeD (l:=r) (f:=aaP F) (r:=s) rc hc0 (fun x=>by rw[e,Int.mul_comm])
   have hrb:∀ j,(r.getD j 0).natAbs<=BB^(16+6):=ahD (p:=aaP F) (g:=t) (by omega) hq.q0 azG (fun x=>by rw[ht,Int.mul_comm])
   have av7:aac r<=10:=by
    have:=ad6 (f:=r) (g:=aaP F) ⟨c,s,hc0,e⟩ hq.q0
    omega
   have hpd:=acn (p:=r) (by omega)
   obtain ⟨U,V,e1,e10,hUV⟩:=au0 (k:=22) rt (by omega) av7 hrb (by omega) (fun d g1 g2=>by
    have hdl:=ad6 g2 (by omega)
    exact aqF hF F0 h10 azG n d (by omega) (g1.trans ⟨c,s,hc0,e⟩) (g1.trans r2))
   -- r divides t
   obtain ⟨c1,s1,hc1,e2⟩:=r2
   have hdq:∀ x,dv (aaP F) x=dv r x*ev t x+ev r x*dv t x:=ano ht
   obtain ⟨t2,ht2⟩:=aeD (l:=r) (f:=t) (r:=acB (acB (psc c1 (aag U t)) (aag V s1)) (psc (-c1) (aag V (aau t)))) (c:=e1*c1) rc (Int.mul_ne_zero e10 hc1) (fun x=>by
    have h1:=e2 x
    rw[afr,hdq x] at h1
    rw[ash c1 e1 (ev r x) (dv r x) (ev t x) (ev s1 x) (dv t x) (ev U x) (ev V x) h1 (hUV x),abU,abU,aaG,aaG,aat,aat,aat,afr]
    grind)
   -- the powers of r
   have hpw:∀ k,∃ u:List Int,∀ x,ev (aan F) x=ev r x^(k+2)*ev u x:=fun k=>by
    induction k with
    | zero =>
      refine ⟨aag t2 (am6 F),fun x=>?_⟩
      rw[hq.prod,ht,ht2,aat]
      grind
    | succ k ih =>
      obtain ⟨u,hu⟩:=ih
      have hdP:∀ x,dv (aan F) x=ev r x^(k+1)*(((k:Int)+1+1)*(dv r x*ev u x)+ev r x*dv u x):=fun x=>by
       have h:=ano (p:=aan F) (a:=pwl r (k+2)) (b:=u) (fun x=>by rw[hu,agG]) x
       rw[h,ath r x (k+1),agG,Int.pow_succ (ev r x) (k+1)]
       push_cast
       generalize ev r x^(k+1)=R
       grind
      have hg:Dvq (pwl r (k+1)) (am6 F):=by
       have hg':adv (aan F) (aau (aan F)) (am6 F):=((ahB hq.ga).resolve_left (fun h=>(by rw[acJ] at h;exact F0 h.1))).2
       refine Dvq.comb ⟨1,aag r u,by decide,fun x=>?_⟩ ⟨1,acB (psc ((k:Int)+1+1) (aag (aau r) u)) (aag r (aau u)),by decide,fun x=>?_⟩ hg'.c
       ·rw[hu,agG,aat,Int.pow_succ (ev r x) (k+1)]
        generalize ev r x^(k+1)=R
        grind
       ·rw[afr,hdP,agG,abU,aaG,aat,aat,afr,afr]
        generalize ev r x^(k+1)=R
        grind
      obtain ⟨c3,s3,hc3,e3⟩:=hg
      obtain ⟨v,hv⟩:=aeD (l:=pwl r (k+1)) (f:=am6 F) (r:=s3) (anp rc _) hc3 (fun x=>by rw[e3,Int.mul_comm])
      refine ⟨aag t2 v,fun x=>?_⟩
      rw[hq.prod,ht,ht2,hv,agG,aat,Int.pow_succ (ev r x) (k+2),Int.pow_succ (ev r x) (k+1)]
      generalize ev r x^(k+1)=R
      grind
   obtain ⟨u,hu⟩:=hpw (aac F)
   have hl:=anq (p:=r) (by omega) (aac F+2)
   have P0:aac (aan F)≠0:=by rw[acJ];exact F0
   have e9:aac (aan F)=aac (aag (pwl r (aac F+2)) u):=adM fun x=>by rw[hu,aat,agG]
   have u0:aac u≠0:=fun h=>P0 (by rw[e9];exact acI (.inr h))
   rw[(abX (by omega) (by omega)).1,acJ] at e9
   omega
theorem csq {f:List Int} (h9:P9 f) (h0:aac f≠0) (p:List Int) (d1:Dvq p (aaP f)) (d2:Dvq p (aau (aaP f))):aac p<=1 :=
 aqF h9.q h0 (by have:=h9.aqa;have:=h9.len;omega) h9.ait _ p (Nat.le_refl _) d1 d2
end
end Go.Proofs.YtdimmlckpgpgcaaGreat
namespace Go.Proofs.YtdimmlckpgpgcaaGreat
def hv (f:List Int) (u v:Int):Nat->Int
 | 0=>f.getD (f.length-1) 0
 | k+1=>hv f u v k*u+f.getD (f.length-2-k) 0*v^(k+1)
theorem aoC {c:Int} (hc:0<c) (y:Int):sg (c*y)=sg y:=by
 rcases aar y with ⟨h,e⟩ | ⟨h,e⟩ | ⟨h,e⟩
 ·rw[e,ahc (Int.mul_neg_of_pos_of_neg hc h)]
 ·rw[h,Int.mul_zero]
 ·rw[e,adN (Int.mul_pos hc h)]
theorem ati (a b x:Int):ev [a,b] x=a+b*x:=by simp[ev,evn,Int.pow_succ]
theorem awS (f:List Int) (P Q D x:Int):∀ k,ev (trs f P Q D k).1 x=hv f (P+Q*x) (D+D*x) k/\ev (trs f P Q D k).2.1 x=(D+D*x)^k
 | 0=>⟨aaY _ _,by rw[Int.pow_zero];exact aaY 1 x⟩
 | k+1=>by
   obtain ⟨h1,h2⟩:=awS f P Q D x k
   have h3:ev (aag (aaf (trs f P Q D k).2.1) (aaf [D,D])) x=(D+D*x)^(k+1):=by
    rw[aat,acS,acS,ati,h2,Int.pow_succ]
   refine ⟨?_,h3⟩
   show ev (aaf (acB (aag (aaf (trs f P Q D k).1) (aaf [P,Q])) (aaf (psc (f.getD (f.length-2-k) 0) (aag (aaf (trs f P Q D k).2.1) (aaf [D,D])))))) x=_
   rw[acS,abU,aat,acS,acS,ati,acS,aaG,h3,h1,hv]
theorem anr (f:List Int) (u:Int):∀ k,hv f u 0 k=f.getD (f.length-1) 0*u^k
 | 0=>by simp[hv]
 | k+1=>by
   rw[hv,anr f u k,Int.zero_pow (by omega),Int.mul_zero,Int.add_zero,Int.pow_succ,Int.mul_assoc]
theorem asi {f:List Int} {P Q D:Int} (hf:f.getD (f.length-1) 0≠0) (h:P≠Q) (k:Nat):aac (trs f P Q D k).1≠0:=by
 intro h0
 have h1:=(awS f P Q D (-1) k).1
 rw[show D+D * -1=0 by omega,anr] at h1
 have h2:ev (trs f P Q D k).1 (-1)=0:=by
  have h3:aaf (trs f P Q D k).1=[]:=List.eq_nil_of_length_eq_zero (by rw[aae];exact h0)
  rw[<- acS,h3,abt]
 rw[h2] at h1
 have h3:(P+Q * -1)^k≠0:=Int.pow_ne_zero (by omega)
 exact Int.mul_ne_zero hf h3 h1.symm
theorem ajK (g:List Int) (k:Nat):g.getD k 0=(aal g:Int)*(ajZ g).getD k 0:=by
 rw[agV]
 have h2:=abE g k
 have h3:(aal g:Int)∣g.getD k 0:=by rw[<- Int.natAbs_dvd_natAbs,Int.natAbs_natCast];exact h2
 exact (Int.mul_tdiv_cancel' h3).symm
theorem aqG {g:List Int} (h:aac g≠0):aal (ajZ g)=1:=by
 have h2:=acH (aal g:Int) (ajZ g)
 have h3:aal (psc (aal g:Int) (ajZ g))=aal g:=abS fun k=>by rw[aav,<- ajK]
 rw[h3,Int.natAbs_natCast] at h2
 have h5:=abN h
 exact Nat.eq_of_mul_eq_mul_left (Nat.pos_of_ne_zero h5) (by rw[Nat.mul_one];exact h2.symm)
theorem aqH (g:List Int):aac (ajZ g)<=aac g:=aax fun k hk=>by rw[agV,aah g k hk,Int.zero_tdiv]
section
variable {f:List Int} {P Q D:Int}
theorem aqI (hf:f.getD (f.length-1) 0≠0) (h:P≠Q):aal (afO f P Q D)=1:=by
 unfold afO
 have h1:=abS (p:=aaf (ajZ (trs f P Q D (f.length-1)).1)) (q:=ajZ (trs f P Q D (f.length-1)).1) fun k=>by rw[aam]
 rw[h1]
 exact aqG (asi hf h _)
end
end Go.Proofs.YtdimmlckpgpgcaaGreat
namespace Go.Proofs.YtdimmlckpgpgcaaGreat
theorem akT {g:List Int} (hg:∀ j,2<=j->g.getD j 0=0):∀ (f:List Int) (k:Nat),pc f g k=f.getD k 0*g.getD 0 0+(if k=0 then 0 else f.getD (k-1) 0*g.getD 1 0)
 | [],k=>by rw[aki];simp
 | a :: t,0=>by rw[afi];simp
 | a :: t,1=>by
   rw[afi,akT hg t 0]
   simp
   grind
 | a :: t,k+2=>by
   rw[afi,show k+2-1=k+1 by omega,akT hg t (k+1),hg (k+2) (by omega)]
   simp
theorem ajL (a b:Int):∀ j,2<=j->(aaf [a,b]).getD j 0=0:=fun j h=>by rw[aam];exact aaC _ (by simpa using h)
theorem akU {f:List Int} {X:Nat} (hf:∀ j,(f.getD j 0).natAbs<=X) (a b:Int) (k:Nat):((aag f (aaf [a,b])).getD k 0).natAbs<=X*(a.natAbs+b.natAbs):=by
 rw[aa0,akT (ajL a b),aam,aam]
 have h1:(f.getD k 0*a).natAbs<=X*a.natAbs:=by rw[Int.natAbs_mul];exact Nat.mul_le_mul_right _ (hf k)
 have h2:(if k=0 then (0:Int) else f.getD (k-1) 0*b).natAbs<=X*b.natAbs:=by
  split
  ·simp
  ·rw[Int.natAbs_mul];exact Nat.mul_le_mul_right _ (hf _)
 rw[Nat.mul_add]
 exact Nat.le_trans (Int.natAbs_add_le _ _) (Nat.add_le_add h1 h2)
theorem aqJ (f:List Int) (a b:Int):(aag (aaf f) (aaf [a,b])).length<=f.length+1:=by
 unfold aag
 split
 ·simp
 ·rw[ab4,aae,aae]
  have h1:=aas f
  have h2:=aas [a,b]
  simp at h2
  omega
theorem ahR (f:List Int) (P Q D:Int) {M B:Nat} (hM:∀ j,(f.getD j 0).natAbs<=M) (h1:P.natAbs+Q.natAbs<=B) (h2:D.natAbs+D.natAbs<=B):∀ k,
 (∀ j,((trs f P Q D k).1.getD j 0).natAbs<=M*(k+1)*B^k)/\(∀ j,((trs f P Q D k).2.1.getD j 0).natAbs<=B^k)/\(trs f P Q D k).2.2.natAbs<=B^k/\(trs f P Q D k).1.length<=k+1/\(trs f P Q D k).2.1.length<=k+1
 | 0=>by
   refine ⟨fun j=>?_,fun j=>?_,by simp[trs],by simp[trs],by simp[trs]⟩
   ·show ([f.getD (f.length-1) 0].getD j 0).natAbs<=_
    match j with
    | 0=>simpa using hM (f.length-1)
    | j+1=>simp
   ·show (([1]:List Int).getD j 0).natAbs<=_
    match j with
    | 0=>simp
    | j+1=>simp
 | k+1=>by
   obtain ⟨a1,a2,a3,a4,a5⟩:=ahR f P Q D hM h1 h2 k
   have b2:∀ j,((aag (aaf (trs f P Q D k).2.1) (aaf [D,D])).getD j 0).natAbs<=B^(k+1):=fun j=>by
    refine Nat.le_trans (akU (X:=B^k) (fun i=>by rw[aam];exact a2 i) D D j) ?_
    rw[Nat.pow_succ]
    exact Nat.mul_le_mul_left _ h2
   have b5:(aag (aaf (trs f P Q D k).2.1) (aaf [D,D])).length<=k+1+1:=Nat.le_trans (aqJ _ _ _) (by omega)
   refine ⟨fun j=>?_,b2,?_,?_,b5⟩
   ·show ((aaf (acB (aag (aaf (trs f P Q D k).1) (aaf [P,Q])) (aaf (psc (f.getD (f.length-2-k) 0) (aag (aaf (trs f P Q D k).2.1) (aaf [D,D])))))).getD j 0).natAbs<=_
    rw[aam,aa7,aam,aav]
    have c1:=akU (X:=M*(k+1)*B^k) (fun i=>by rw[aam];exact a1 i) P Q j
    have c2:(f.getD (f.length-2-k) 0*(aag (aaf (trs f P Q D k).2.1) (aaf [D,D])).getD j 0).natAbs<=M*B^(k+1):=by
     rw[Int.natAbs_mul];exact Nat.mul_le_mul (hM _) (b2 j)
    refine Nat.le_trans (Int.natAbs_add_le _ _) (Nat.le_trans (Nat.add_le_add c1 c2) ?_)
    calc M*(k+1)*B^k*(P.natAbs+Q.natAbs)+M*B^(k+1)<=M*(k+1)*B^k*B+M*B^(k+1):=Nat.add_le_add_right (Nat.mul_le_mul_left _ h1) _
     _=M*(k+1)*B^(k+1)+M*B^(k+1):=by rw[Nat.mul_assoc,<- Nat.pow_succ]
     _=M*(k+1+1)*B^(k+1):=by rw[<- Nat.add_mul,<- Nat.mul_succ]
   ·show ((trs f P Q D k).2.2*D).natAbs<=_
    rw[Int.natAbs_mul,Nat.pow_succ]
    exact Nat.mul_le_mul a3 (by omega)
   ·show (aaf (acB (aag (aaf (trs f P Q D k).1) (aaf [P,Q])) (aaf (psc (f.getD (f.length-2-k) 0) (aag (aaf (trs f P Q D k).2.1) (aaf [D,D])))))).length<=_
    rw[aae]
    refine Nat.le_trans (aas _) ?_
    rw[ads,aae]
    have d1:=aqJ (trs f P Q D k).1 P Q
    have d2:=aas (psc (f.getD (f.length-2-k) 0) (aag (aaf (trs f P Q D k).2.1) (aaf [D,D])))
    have d3:(psc (f.getD (f.length-2-k) 0) (aag (aaf (trs f P Q D k).2.1) (aaf [D,D]))).length=(aag (aaf (trs f P Q D k).2.1) (aaf [D,D])).length:=by unfold psc;rw[List.length_map]
    omega
theorem akV (f:List Int) (P Q D:Int) (h:1<=f.length):aac (afO f P Q D)<=f.length:=by
 unfold afO
 rw[abb]
 have h1:=aqH (trs f P Q D (f.length-1)).1
 have h2:=aas (trs f P Q D (f.length-1)).1
 have h3:(trs f P Q D (f.length-1)).1.length<=f.length-1+1:=by
  have hM:∃ M:Nat,∀ j,(f.getD j 0).natAbs<=M:=by
   refine ⟨f.foldr (fun a g=>a.natAbs+g) 0,fun j=>?_⟩
   clear h h1 h2
   induction f generalizing j with
   | nil=>simp
   | cons a t ih =>
     match j with
     | 0=>simp
     | j+1=>have:=ih j;simp at this ⊢;omega
  obtain ⟨M,hM⟩:=hM
  exact (ahR f P Q D (B:=P.natAbs+Q.natAbs+(D.natAbs+D.natAbs)) hM (by omega) (by omega) _).2.2.2.1
 omega
theorem asj {q q':Nat} (z z':Int) (hq:0<q) (hq':0<q'):0<cdD q q' z z'/\cdP q q' z z'*(q:Int)=z*cdD q q' z z'/\cdQ q q' z z'*(q':Int)=z'*cdD q q' z z':=by
 have g1:Nat.gcd z.natAbs q∣q:=Nat.gcd_dvd_right _ _
 have g2:Nat.gcd z'.natAbs q'∣q':=Nat.gcd_dvd_right _ _
 have p1:0<q / Nat.gcd z.natAbs q:=Nat.div_pos (Nat.le_of_dvd hq g1) (Nat.gcd_pos_of_pos_right _ hq)
 have p2:0<q' / Nat.gcd z'.natAbs q':=Nat.div_pos (Nat.le_of_dvd hq' g2) (Nat.gcd_pos_of_pos_right _ hq')
 have hz:z.tdiv (Nat.gcd z.natAbs q)*((Nat.gcd z.natAbs q:Nat):Int)=z:=Int.tdiv_mul_cancel (by rw[<- Int.natAbs_dvd_natAbs,Int.natAbs_natCast];exact Nat.gcd_dvd_left _ _)
 have hz':z'.tdiv (Nat.gcd z'.natAbs q')*((Nat.gcd z'.natAbs q':Nat):Int)=z':=Int.tdiv_mul_cancel (by rw[<- Int.natAbs_dvd_natAbs,Int.natAbs_natCast];exact Nat.gcd_dvd_left _ _)
 have hqq:((q / Nat.gcd z.natAbs q:Nat):Int)*((Nat.gcd z.natAbs q:Nat):Int)=(q:Int):=by rw[<- Int.natCast_mul,Nat.div_mul_cancel g1]
 have aAP:((q' / Nat.gcd z'.natAbs q':Nat):Int)*((Nat.gcd z'.natAbs q':Nat):Int)=(q':Int):=by rw[<- Int.natCast_mul,Nat.div_mul_cancel g2]
 have hD:(0:Int)<cdD q q' z z':=by
  unfold cdD
  rw[ank]
  have:=auV p1 p2
  omega
 have l1:(cdD q q' z z').tdiv ((q / Nat.gcd z.natAbs q:Nat):Int)*((q / Nat.gcd z.natAbs q:Nat):Int)=cdD q q' z z':=Int.tdiv_mul_cancel (Int.dvd_of_tmod_eq_zero anl)
 have l2:(cdD q q' z z').tdiv ((q' / Nat.gcd z'.natAbs q':Nat):Int)*((q' / Nat.gcd z'.natAbs q':Nat):Int)=cdD q q' z z':=Int.tdiv_mul_cancel (Int.dvd_of_tmod_eq_zero akQ)
 refine ⟨hD,?_,?_⟩
 ·unfold cdP
  generalize (cdD q q' z z').tdiv ((q / Nat.gcd z.natAbs q:Nat):Int)=T at *
  generalize cdD q q' z z'=D at *
  generalize z.tdiv (Nat.gcd z.natAbs q)=y at *
  calc y*T*(q:Int)=y*T*(((q / Nat.gcd z.natAbs q:Nat):Int)*((Nat.gcd z.natAbs q:Nat):Int)):=by rw[hqq]
   _=(y*((Nat.gcd z.natAbs q:Nat):Int))*(T*((q / Nat.gcd z.natAbs q:Nat):Int)):=by grind
   _=z*D:=by rw[hz,l1]
 ·unfold cdQ
  generalize (cdD q q' z z').tdiv ((q' / Nat.gcd z'.natAbs q':Nat):Int)=T at *
  generalize cdD q q' z z'=D at *
  generalize z'.tdiv (Nat.gcd z'.natAbs q')=y at *
  calc y*T*(q':Int)=y*T*(((q' / Nat.gcd z'.natAbs q':Nat):Int)*((Nat.gcd z'.natAbs q':Nat):Int)):=by rw[aAP]
   _=(y*((Nat.gcd z'.natAbs q':Nat):Int))*(T*((q' / Nat.gcd z'.natAbs q':Nat):Int)):=by grind
   _=z'*D:=by rw[hz',l2]
theorem asl {q q':Nat} {z z':Int} (hq:0<q) (hq':0<q') (h:z*(q':Int)<z'*(q:Int)):cdP q q' z z'≠cdQ q q' z z':=by
 obtain ⟨hD,h1,h2⟩:=asj z z' hq hq'
 intro e
 rw[e] at h1
 have h3:z*cdD q q' z z'*(q':Int)=z'*cdD q q' z z'*(q:Int):=by rw[<- h1,<- h2];grind
 have h4:cdD q q' z z'*(z*(q':Int))=cdD q q' z z'*(z'*(q:Int)):=by grind
 have h5:=Int.mul_lt_mul_of_pos_left h hD
 omega
theorem asn {f:List Int} {P Q D:Int} (h:axq f P Q D) (h1:1<=f.length):abH (afO f P Q D):=fun k=>by
 unfold afO
 rw[aam,agV]
 exact Fit.le ((h.2.2.2 (f.length-1) (by omega)).1 k) (by rw[Int.natAbs_tdiv];exact Nat.div_le_self _ _)
theorem aeZ {f:List Int} {q q':Nat} {z z':Int} (h:aac f≠0) (hlt:z*(q':Int)<z'*(q:Int)) (tf:aaf f=f):abA f q q' z z'=afO f (cdP q q' z z') (cdQ q q' z z') (cdD q q' z z'):=by
 unfold abA
 rw[if_neg (fun e=>e.elim h (fun h1=>h1 hlt)),tf]
end Go.Proofs.YtdimmlckpgpgcaaGreat
namespace Go.Proofs.YtdimmlckpgpgcaaGreat
section
variable {f:List Int} {q0 q1:Nat} {z0 z1:Int}
theorem agW (h:aac f≠0) (tf:aaf f=f):f.getD (f.length-1) 0≠0:=by
 have hl:f.length=aac f:=by rw[<- aae,tf]
 rw[hl]
 exact fun e=>h (aa1.1 (show aaj f=0 from e))
theorem aso (h:aac f≠0) (tf:aaf f=f) (hq0:0<q0) (hq1:0<q1) (hlt:z0*(q1:Int)<z1*(q0:Int)):aal (abA f q0 q1 z0 z1)=1:=by
 rw[aeZ h hlt tf]
 exact aqI (agW h tf) (asl hq0 hq1 hlt)
end
end Go.Proofs.YtdimmlckpgpgcaaGreat
namespace Go.Proofs.YtdimmlckpgpgcaaGreat
end Go.Proofs.YtdimmlckpgpgcaaGreat
namespace Go.Proofs.YtdimmlckpgpgcaaGreat
section
variable {f:List Int} {q0 q1:Nat} {z0 z1:Int}
end
end Go.Proofs.YtdimmlckpgpgcaaGreat
namespace Go.Proofs.YtdimmlckpgpgcaaGreat
open Go.RowKit
theorem sg0:sg 0=0:=by decide
theorem ajM:∀ (S:List Int) (l:Int),(∀ k,S.getD k 0=0)->chg l S=0
 | [],_,_=>rfl
 | s :: S,l,h=>by
   have h0:s=0:=h 0
   rw[h0,aeR]
   exact ajM S l fun k=>h (k+1)
theorem aqK:∀ (S T:List Int) (l:Int),(∀ k,S.getD k 0=T.getD k 0)->chg l S=chg l T
 | [],T,l,h=>(ajM T l fun k=>(h k).symm).symm
 | s :: S,[],l,h=>ajM (s :: S) l h
 | s :: S,t :: T,l,h=>by
   have h0:s=t:=h 0
   subst h0
   simp only[chg,aqK S T _ (fun k=>h (k+1))]
theorem aqL:∀ (S:List Int) (l:Int),0<=chg l S
 | [],_=>Int.le_refl _
 | s :: S,l=>by
   unfold chg
   split
   ·exact aqL S l
   ·have:=aqL S s
    split<;>omega
theorem ant:∀ (S:List Int) (l:Int),chg 0 S<=chg l S
 | [],_=>Int.le_refl _
 | s :: S,l=>by
   unfold chg
   split
   ·exact ant S l
   ·rw[if_neg (by omega)]
    split<;>omega
def sgl (p:List Int):List Int:=p.map sg
theorem al5 (p:List Int) (k:Nat):(sgl p).getD k 0=sg (p.getD k 0):=by
 unfold sgl
 rw[List.getD_eq_getElem?_getD,List.getElem?_map,List.getD_eq_getElem?_getD]
 cases p[k]? with
 | none=>exact sg0.symm
 | some a=>rfl
def agK (p:List Int):Int:=chg 0 (sgl p)
theorem aoD {p r:List Int} (h:∀ k,sg (p.getD k 0)=sg (r.getD k 0)):agK p=agK r:=aqK _ _ _ fun k=>by rw[al5,al5,h k]
def lnz:Int->List Int->Int
 | l,[]=>l
 | l,s :: t=>if s=0 then lnz l t else lnz s t
theorem al6:∀ (S:List Int) (l:Int),(l=1∨l=-1)->(∀ s∈S,s=1∨s=-1∨s=0)->(lnz l S=l/\chg l S % 2=0)∨(lnz l S=-l/\chg l S % 2=1)
 | [],l,_,_=>.inl ⟨rfl,rfl⟩
 | s :: S,l,hl,h=>by
   have hS:∀ s∈S,s=1∨s=-1∨s=0:=fun x hx=>h x (List.mem_cons_of_mem _ hx)
   unfold chg lnz
   by_cases c:s=0
   ·rw[if_pos c,if_pos c]
    exact al6 S l hl hS
   ·rw[if_neg c,if_neg c]
    have hs:s=1∨s=-1:=by
     rcases h s List.mem_cons_self with h | h | h
     ·exact .inl h
     ·exact .inr h
     ·exact absurd h c
    have ih:=al6 S s hs hS
    split<;>omega
theorem anu:∀ (p:List Int) (l:Int),aac p=0->lnz l (sgl p)=l
 | [],_,_=>rfl
 | a :: t,l,h=>by
   have ht:aac t=0:=by
    by_cases c:aac t=0
    ·exact c
    ·rw[aaA c] at h;omega
   have ha:a=0:=by
    by_cases c:a=0
    ·exact c
    ·rw[aa2 ht c] at h;omega
   subst ha
   show lnz l (sg 0 :: sgl t)=l
   unfold lnz
   rw[sg0,if_pos rfl]
   exact anu t l ht
theorem ajN:∀ (p:List Int) (l:Int),aac p≠0->lnz l (sgl p)=sg (aaj p)
 | [],_,h=>absurd rfl h
 | a :: t,l,h=>by
   show lnz l (sg a :: sgl t)=_
   unfold lnz
   by_cases c:aac t=0
   ·have ha:a≠0:=fun e=>h (abg c e)
    have e1:aaj (a :: t)=a:=by
     show (a :: t).getD (aac (a :: t)-1) 0=a
     rw[aa2 c ha]
     rfl
    rw[if_neg (afF ha),anu t _ c,e1]
   ·have e1:aaj (a :: t)=aaj t:=by
     show (a :: t).getD (aac (a :: t)-1) 0=t.getD (aac t-1) 0
     rw[aaA c]
     obtain ⟨n,hn⟩:∃ n,aac t=n+1:=⟨aac t-1,by omega⟩
     rw[hn]
     rfl
    rw[e1,ajN t _ c,ajN t _ c]
    split<;>rfl
noncomputable def Mu (p:List Int) (xs:List Pt):Int:=alA (xs.map fun x=>(mult x p:Int))
theorem ady (p:List Int) (x:Pt) (xs:List Pt):Mu p (x :: xs)=(mult x p:Int)+Mu p xs:=rfl
theorem awT (p:List Int):∀ xs,0<=Mu p xs
 | []=>Int.le_refl _
 | x :: xs=>by rw[ady];have:=awT p xs;omega
theorem aqM (p:List Int):∀ (ys zs:List Pt),Asc ys->Asc zs->(∀ z∈zs,z∈ys)->Mu p zs<=Mu p ys
 | ys,[],_,_,_=>awT p ys
 | [],z :: zs,_,_,h=>by cases h z List.mem_cons_self
 | y :: ys,z :: zs,hy,hz,h=>by
   have hy':=List.pairwise_cons.1 hy
   have hz':=List.pairwise_cons.1 hz
   by_cases c:z=y
   ·subst c
    rw[ady,ady]
    have:=aqM p ys zs hy'.2 hz'.2 fun t ht=>by
     rcases List.mem_cons.1 (h t (List.mem_cons_of_mem _ ht)) with e | e
     ·have:=hz'.1 t ht
      rw[e] at this
      exact absurd this (Pt.irr _)
     ·exact e
    omega
   ·have hzy:z∈ys:=by
     rcases List.mem_cons.1 (h z List.mem_cons_self) with e | e
     ·exact absurd e c
     ·exact e
    have:=aqM p ys (z :: zs) hy'.2 hz fun t ht=>by
     rcases List.mem_cons.1 ht with e | e
     ·rw[e];exact hzy
     ·rcases List.mem_cons.1 (h t ht) with e2 | e2
      ·have h1:=hz'.1 t e
       rw[e2] at h1
       exact absurd (Pt.lt_trans h1 (hy'.1 z hzy)) (Pt.irr _)
      ·exact e2
    rw[ady p y ys]
    omega
theorem ajO {p:List Int} (hp:aac p≠0):∀ (xs:List Pt) (a b:Pt),a<b->sgp p a≠0->sgp p b≠0->Lst (fun x=>sgp p x=0/\a<x/\x<b) xs->(sgp p b=sgp p a/\Mu p xs % 2=0)∨(sgp p b=- sgp p a/\Mu p xs % 2=1)
 | [],a,b,hab,ha,hb,hx=>.inl ⟨(ad1 hab (fun z h1 h2 h3=>by cases (hx.2 z).2 ⟨h3,h1,h2⟩) ha hb).symm,rfl⟩
 | x :: xs,a,b,hab,ha,hb,hx=>by
   obtain ⟨h0,h1,h2⟩:=(hx.2 x).1 List.mem_cons_self
   have hxs:=List.pairwise_cons.1 hx.1
   obtain ⟨l,u,hs⟩:=ai5 hp x
   obtain ⟨c,c1,c2,c3,c4⟩:∃ c,x<c/\c<Pt.of u/\c<b/\∀ y∈xs,c<y:=by
    obtain ⟨c,c1,c2,c3⟩:=Pt.ahn hs.hi h2
    cases xs with
    | nil=>exact ⟨c,c1,c2,c3,fun y hy=>by cases hy⟩
    | cons y ys =>
      obtain ⟨d,d1,d2,d3⟩:=Pt.ahn c1 (hxs.1 y List.mem_cons_self)
      refine ⟨d,d1,Pt.lt_trans d2 c2,Pt.lt_trans d2 c3,fun z hz=>?_⟩
      rcases List.mem_cons.1 hz with e | e
      ·rw[e];exact d3
      ·exact Pt.lt_trans d3 ((List.pairwise_cons.1 hxs.2).1 z e)
   obtain ⟨d,d1,d2,d3⟩:=Pt.akl h1 hs.lo
   have ec:sgp p c=rs x p:=hs.r c c1 c2
   have ed:sgp p d=(-1)^(mult x p)*rs x p:=hs.l d d3 d1
   have hr:=an3 hp x
   have hpm:=ae8 (mult x p)
   have hdn:sgp p d≠0:=by
    rw[ed]
    rcases hpm with ⟨e,_⟩ | ⟨e,_⟩<;>rw[e]<;>omega
   have hcn:sgp p c≠0:=by rw[ec];omega
   have ead:sgp p a=sgp p d:=ad1 d2 (fun z k1 k2 k3=>by
    rcases List.mem_cons.1 ((hx.2 z).2 ⟨k3,k1,Pt.lt_trans k2 (Pt.lt_trans d1 h2)⟩) with e | e
    ·rw[e] at k2
     exact Pt.asym k2 d1
    ·exact Pt.asym (Pt.lt_trans k2 d1) (hxs.1 z e)) ha hdn
   have ih:=ajO hp xs c b c3 hcn hb ⟨hxs.2,fun z=>⟨fun hz=>⟨((hx.2 z).1 (List.mem_cons_of_mem _ hz)).1,c4 z hz,((hx.2 z).1 (List.mem_cons_of_mem _ hz)).2.2⟩,fun ⟨k1,k2,k3⟩=>by
    rcases List.mem_cons.1 ((hx.2 z).2 ⟨k1,Pt.lt_trans h1 (Pt.lt_trans c1 k2),k3⟩) with e | e
    ·rw[e] at k2
     exact absurd k2 (Pt.asym c1)
    ·exact e⟩⟩
   rw[ady]
   rw[ec] at ih
   rw[ead,ed]
   rcases hpm with ⟨e,e2⟩ | ⟨e,e2⟩
   ·rw[e,Int.one_mul]
    rcases ih with ⟨i1,i2⟩ | ⟨i1,i2⟩
    ·exact .inl ⟨i1,by omega⟩
    ·exact .inr ⟨i1,by omega⟩
   ·rw[e]
    rcases ih with ⟨i1,i2⟩ | ⟨i1,i2⟩
    ·exact .inr ⟨by omega,by omega⟩
    ·exact .inl ⟨by omega,by omega⟩
theorem aiD {p:List Int} (hp:aac p≠0):∀ (xs:List Pt) (x:Pt),Asc (x :: xs)->(∀ y∈x :: xs,sgp p y=0)->∃ zs,Asc zs/\(∀ z∈zs,z=x∨x<z)/\Mu p (x :: xs)<=Mu (aau p) zs+1
 | [],x,_,h=>by
   refine ⟨[x],List.pairwise_singleton _ _,fun z hz=>.inl (List.mem_singleton.1 hz),?_⟩
   rw[ady,ady,(aco hp (h x List.mem_cons_self)).1]
   show _+Mu p []<=_+Mu (aau p) []+1
   rw[show Mu p []=0 from rfl,show Mu (aau p) []=0 from rfl]
   omega
 | y :: xs,x,ha,h=>by
   have ha':=List.pairwise_cons.1 ha
   obtain ⟨zs,z1,z2,z3⟩:=aiD hp xs y ha'.2 fun t ht=>h t (List.mem_cons_of_mem _ ht)
   have hxy:=ha'.1 y List.mem_cons_self
   obtain ⟨t,t1,t2,t3⟩:=ahm hxy (h x List.mem_cons_self) (h y (List.mem_cons_of_mem _ List.mem_cons_self))
   obtain ⟨m1,m2⟩:=aco hp (h x List.mem_cons_self)
   have m3:mult t (aau p)≠0:=fun e=>(aaT m2).1 e t3
   have hz:∀ z∈zs,t<z:=fun z hz=>by
    rcases z2 z hz with e | e
    ·rw[e];exact t2
    ·exact Pt.lt_trans t2 e
   refine ⟨x :: t :: zs,List.pairwise_cons.2 ⟨fun z h1=>?_,List.pairwise_cons.2 ⟨hz,z1⟩⟩,fun z h1=>?_,?_⟩
   ·rcases List.mem_cons.1 h1 with e | e
    ·rw[e];exact t1
    ·exact Pt.lt_trans t1 (hz z e)
   ·rcases List.mem_cons.1 h1 with e | e
    ·exact .inl e
    ·rcases List.mem_cons.1 e with e | e
     ·rw[e];exact .inr t1
     ·exact .inr (Pt.lt_trans t1 (hz z e))
   ·rw[ady p x,ady _ x,ady _ t,m1]
    omega
open Classical in
theorem awU {d:List Int} (hd:aac d≠0) {P:Pt->Prop} {ys zs:List Pt} (hy:Lst (fun x=>sgp d x=0/\P x) ys) (hz:Asc zs) (hp:∀ z∈zs,P z):Mu d zs<=Mu d ys:=by
 have e:Mu d zs=Mu d (zs.filter fun x=>@decide (sgp d x=0) (propDecidable _)):=afl (fun x=>(mult x d:Int)) (fun x=>sgp d x=0) zs (fun x _ hx=>by
  have:=(aaT hd).2 hx
  omega)
 rw[e]
 refine aqM d ys _ hy.1 (List.Pairwise.filter _ hz) fun z h=>?_
 obtain ⟨h1,h2⟩:=List.mem_filter.1 h
 exact (hy.2 z).2 ⟨by simpa using h2,hp z h1⟩
theorem ayq {x:Pt} (h:Pt.of 0<x):sgp [0,1] x≠0:=fun h0=>by
 have h1:sgp [0,1] (Pt.of 0)=0:=by
  have:sgf (pv [0,1]) (Pt.of 0)=_:=afD (adt [0,1]) 0
  rw[show sgp [0,1] (Pt.of 0)=sgf (pv [0,1]) (Pt.of 0) from rfl,this]
  have e:pv [0,1] 0=0:=by unfold pv;grind
  rw[e,if_neg (by decide),if_neg (by decide)]
 have:=akk 1 [0,1] rfl [Pt.of 0,x] (List.pairwise_cons.2 ⟨fun y hy=>by rw[List.mem_singleton.1 hy];exact h,List.pairwise_singleton _ _⟩) (fun y hy=>by
  rcases List.mem_cons.1 hy with e | e
  ·rw[e];exact h1
  ·rw[List.mem_singleton.1 e];exact h0)
 simp at this
theorem aqN (a:Int) (t:List Int):sgp (a :: t) (Pt.of 0)=sg a:=by
 have:sgf (pv (a :: t)) (Pt.of 0)=_:=afD (adt (a :: t)) 0
 rw[show sgp (a :: t) (Pt.of 0)=sgf (pv (a :: t)) (Pt.of 0) from rfl,this]
 have e:pv (a :: t) 0=(a:Rat):=by unfold pv;grind
 rw[e,<- akj (a:Rat) (Pt.of 0),alv]
theorem au1 {t:List Int} (ht:aac t≠0) {x:Pt} (h:Pt.of 0<x):mult x (0 :: t)=mult x t/\(sgp (0 :: t) x=0↔sgp t x=0):=by
 have he:∀ k,(0 :: t:List Int).getD k 0=(aag [0,1] t).getD k 0:=abJ fun u=>by
  rw[adF,aat,adF,adF,show ev [] u=0 from rfl]
  grind
 have hx:aac [0,1]≠0:=by decide
 have hn:aac (0 :: t)≠0:=by rw[aaA ht];omega
 have e1:mult x (0 :: t)=mult x (aag [0,1] t):=((show PEq (0 :: t) (aag [0,1] t) from ⟨1,1,by decide,by decide,fun k=>by rw[he k]⟩).mult x hn).1
 have e2:mult x [0,1]=0:=(aaT hx).2 (ayq h)
 have e3:mult x (0 :: t)=mult x t:=by rw[e1,ai6 hx ht,e2,Nat.zero_add]
 refine ⟨e3,?_⟩
 have h1:=aaT hn (x:=x)
 have h2:=aaT ht (x:=x)
 rw[e3] at h1
 constructor
 ·intro h3
  exact Classical.byContradiction fun h4=>h1.1 (h2.2 h4) h3
 ·intro h3
  exact Classical.byContradiction fun h4=>h2.1 (h1.2 h4) h3
theorem ab7:∀ (n:Nat) (p:List Int),p.length<=n->aac p≠0->∀ xs,Lst (fun x=>sgp p x=0/\Pt.of 0<x) xs->Mu p xs<=agK p/\(agK p-Mu p xs) % 2=0
 | 0,p,hl,hp,_,_=>by
   rw[List.length_eq_zero_iff.1 (Nat.le_zero.1 hl)] at hp
   exact absurd rfl hp
 | n+1,[],_,hp,_,_=>absurd rfl hp
 | n+1,a :: t,hl,hp,xs,hx=>by
   have htl:t.length<=n:=by simpa using hl
   by_cases ha:a=0
   ·subst ha
    have ht:aac t≠0:=fun e=>hp (abg e rfl)
    have hx':Lst (fun x=>sgp t x=0/\Pt.of 0<x) xs:=hx.congr fun x=>⟨fun h=>⟨(au1 ht h.2).2.1 h.1,h.2⟩,fun h=>⟨(au1 ht h.2).2.2 h.1,h.2⟩⟩
    have e1:Mu (0 :: t) xs=Mu t xs:=by
     unfold Mu
     congr 1
     refine List.map_congr_left fun x h=>?_
     rw[(au1 ht ((hx.2 x).1 h).2).1]
    have e2:agK (0 :: t)=agK t:=by
     show chg 0 (sg 0 :: sgl t)=_
     rw[sg0,aeR]
     rfl
    rw[e1,e2]
    exact ab7 n t htl ht xs hx'
   ·have hsa:sg a=1∨sg a=-1:=by rcases aar a with ⟨_,e⟩ | ⟨h,e⟩ | ⟨_,e⟩;exact .inr e;exact absurd h ha;exact .inl e
    have hv:agK (a :: t)=chg (sg a) (sgl t):=by
     show (if sg a=0 then chg 0 (sgl t) else if sg a=-0 then chg (sg a) (sgl t)+1 else chg (sg a) (sgl t))=_
     rw[if_neg (afF ha),if_neg (by omega)]
    -- the parity
    obtain ⟨B1,b1,b2,_⟩:=far hp
    obtain ⟨B2,b3,b4⟩:=amJ hp
    obtain ⟨B,hB1,hB2⟩:∃ B:Rat,B1<=B/\B2<=B:=by
     rcases Rat.le_total (a:=B1) (b:=B2) with h | h
     ·exact ⟨B2,h,Rat.le_refl⟩
     ·exact ⟨B1,Rat.le_refl,h⟩
    have hB0:(0:Rat)<B:=by grind
    have au2:=ajO hp xs (Pt.of 0) (Pt.of B) (Pt.aaH.2 hB0) (by rw[aqN];omega) (by rw[b2 B hB1];exact apz hp false) (hx.congr fun x=>⟨fun h=>⟨h.1,h.2,by
     have h5:=(b4 x h.1).2
     rcases Rat.le_iff_lt_or_eq.1 hB2 with c | c
     ·exact Pt.lt_trans h5 (Pt.aaH.2 c)
     ·rw[<- c];exact h5⟩,fun h=>⟨h.1,h.2.1⟩⟩)
    rw[aqN,b2 B hB1,show sgE false (a :: t)=sg (aaj (a :: t)) from rfl,<- ajN (a :: t) 0 hp,show lnz 0 (sgl (a :: t))=lnz (sg a) (sgl t) by show (if sg a=0 then lnz 0 (sgl t) else lnz (sg a) (sgl t))=_;rw[if_neg (afF ha)]] at au2
    have hpar:=al6 (sgl t) (sg a) hsa fun s hs=>by
     obtain ⟨c,_,rfl⟩:=List.mem_map.1 hs
     rcases aar c with ⟨_,e⟩ | ⟨_,e⟩ | ⟨_,e⟩<;>omega
    rw[<- hv] at hpar
    have hmod:(agK (a :: t)-Mu (a :: t) xs) % 2=0:=by omega
    refine ⟨?_,hmod⟩
    cases xs with
    | nil =>
      rw[hv]
      exact aqL _ _
    | cons x xs =>
      have h0:=(hx.2 x).1 List.mem_cons_self
      obtain ⟨_,hd⟩:=aco hp h0.1
      obtain ⟨zs,z1,z2,z3⟩:=aiD hp xs x hx.1 fun y hy=>((hx.2 y).1 hy).1
      obtain ⟨ys,hys⟩:=abj hd (fun x=>Pt.of 0<x)
      have h1:=awU hd hys z1 fun z hz=>by
       rcases z2 z hz with e | e
       ·rw[e];exact h0.2
       ·exact Pt.lt_trans h0.2 e
      have h2:=(ab7 n (aau (a :: t)) (by rw[abd];have:=aas (a :: t);omega) hd ys hys).1
      have h3:agK (aau (a :: t))=agK t:=aoD fun k=>by
       rw[abh]
       show sg (t.getD k 0*((k:Int)+1))=_
       rcases aar (t.getD k 0) with ⟨c,e⟩ | ⟨c,e⟩ | ⟨c,e⟩
       ·rw[e]
        rcases aar (t.getD k 0*((k:Int)+1)) with ⟨_,e2⟩ | ⟨c2,_⟩ | ⟨c2,_⟩
        ·exact e2
        ·rcases Int.mul_eq_zero.1 c2 with c3 | c3<;>omega
        ·have:=Int.mul_neg_of_neg_of_pos c (show (0:Int)<(k:Int)+1 by omega)
         omega
       ·rw[c,Int.zero_mul]
       ·rw[e]
        have:=Int.mul_pos c (show (0:Int)<(k:Int)+1 by omega)
        rcases aar (t.getD k 0*((k:Int)+1)) with ⟨c2,_⟩ | ⟨c2,_⟩ | ⟨_,e2⟩
        ·omega
        ·omega
        ·exact e2
      have h4:agK t<=agK (a :: t):=by rw[hv];exact ant _ _
      omega
end Go.Proofs.YtdimmlckpgpgcaaGreat
namespace Go.Proofs.YtdimmlckpgpgcaaGreat
theorem awV (p:List Int):∀ n k,k+n=p.length->((vst p k).1:Int)+chg (vst p k).2 ((sgl p).drop k)=chg (vst p (k+n)).2 ((sgl p).drop (k+n))+(vst p (k+n)).1:=by
 intro n
 induction n with
 | zero=>intro k _;rw[Nat.add_zero];omega
 | succ n ih =>
   intro k hk
   have h1:=ih (k+1) (by omega)
   rw[show k+(n+1)=k+1+n by omega,<- h1]
   have hlt:k<(sgl p).length:=by unfold sgl;rw[List.length_map];omega
   rw[List.drop_eq_getElem_cons hlt]
   have hg:sg (p.getD k 0)=(sgl p)[k]:=by
    rw[<- al5,List.getD_eq_getElem?_getD,List.getElem?_eq_getElem hlt]
    rfl
   rw[show vst p (k+1)=if sg (p.getD k 0)=0 then vst p k else (if sg (p.getD k 0)=-(vst p k).2 then (vst p k).1+1 else (vst p k).1,sg (p.getD k 0)) from rfl,hg]
   generalize (sgl p)[k]=s at *
   by_cases h0:s=0
   ·rw[if_pos h0,h0,aeR]
   ·rw[if_neg h0]
    conv=>lhs;rw[chg,if_neg h0]
    by_cases h2:s=-(vst p k).2
    ·rw[if_pos h2,if_pos h2]
     push_cast
     omega
    ·rw[if_neg h2,if_neg h2]
theorem asq (p:List Int):((vst p p.length).1:Int)=agK p:=by
 have h:=awV p p.length 0 (by omega)
 have hl:(sgl p).length=p.length:=by unfold sgl;rw[List.length_map]
 rw[Nat.zero_add,<- hl,List.drop_length,hl] at h
 have e1:chg (vst p p.length).2 []=0:=rfl
 have e2:vst p 0=(0,0):=rfl
 rw[e1,e2,List.drop_zero] at h
 simp only at h
 unfold agK
 omega
end Go.Proofs.YtdimmlckpgpgcaaGreat
namespace Go.Proofs.YtdimmlckpgpgcaaGreat
def phi (a b t:Rat):Rat:=(a+b*t) / (1+t)
def psi (a b r:Rat):Rat:=(r-a) / (b-r)
theorem adI (x y:Rat):x<y∨y<=x:=by
 rcases Classical.em (x<y) with c | c
 ·exact .inl c
 ·exact .inr (by grind)
theorem aqO {x y:Rat} (h0:0<=x) (h:x<=y):∀ n:Nat,x^n<=y^n
 | 0=>by rw[Rat.pow_zero,Rat.pow_zero];exact Rat.le_refl
 | n+1=>by
   rw[Rat.pow_succ,Rat.pow_succ]
   have h1:=aqO h0 h n
   have h2:0<=x^n:=Rat.pow_nonneg h0
   have h3:=Rat.mul_le_mul_of_nonneg_right h1 h0
   have h4:=Rat.mul_le_mul_of_nonneg_left h (show 0<=y^n by grind)
   grind
section
variable {a b:Rat}
theorem anv {t:Rat} (ht:0<t):phi a b t*(1+t)=a+b*t:=Rat.div_mul_cancel (by grind)
theorem aqP {r:Rat} (hb:r<b):psi a b r*(b-r)=r-a:=Rat.div_mul_cancel (by grind)
theorem aiE (h:a<b) {t:Rat} (ht:0<t):a<phi a b t:=by
 unfold phi
 rw[Rat.lt_div_iff (by grind)]
 have:=Rat.mul_pos (show 0<b-a by grind) ht
 grind
theorem akW (h:a<b) {t:Rat} (ht:0<t):phi a b t<b:=by
 unfold phi
 rw[Rat.div_lt_iff (by grind)]
 grind
theorem agm {r:Rat} (ha:a<r) (hb:r<b):0<psi a b r:=by
 unfold psi
 rw[Rat.lt_div_iff (by grind)]
 grind
theorem phi_mono (h:a<b) {t u:Rat} (ht:0<t) (hu:t<u):phi a b t<phi a b u:=by
 have e1:=anv (a:=a) (b:=b) ht
 have h2:=akW h ht
 show phi a b t<(a+b*u) / (1+u)
 rw[Rat.lt_div_iff (by grind)]
 have:=Rat.mul_pos (show 0<b-phi a b t by grind) (show 0<u-t by grind)
 grind
theorem ajP {r s:Rat} (ha:a<r) (h:r<s) (hb:s<b):psi a b r<psi a b s:=by
 have e1:=aqP (a:=a) (b:=b) (r:=r) (by grind)
 have h2:=agm ha (show r<b by grind)
 show psi a b r<(s-a) / (b-s)
 rw[Rat.lt_div_iff (by grind)]
 have:=Rat.mul_pos h2 (show 0<s-r by grind)
 grind
theorem agn (_h:a<b) {r:Rat} (ha:a<r) (hb:r<b):phi a b (psi a b r)=r:=by
 have h1:=aqP (a:=a) hb
 have h2:=agm ha hb
 have h3:=anv (a:=a) (b:=b) h2
 generalize psi a b r=t at *
 have h4:(phi a b t-r)*(1+t)=0:=by grind
 rcases Rat.mul_eq_zero.1 h4 with e | e<;>grind
theorem al7 (h:a<b) {t:Rat} (ht:0<t):psi a b (phi a b t)=t:=by
 have h1:=aiE h ht
 have h2:=akW h ht
 have h3:=anv (a:=a) (b:=b) ht
 have h4:=aqP (a:=a) h2
 generalize phi a b t=r at *
 have h5:(psi a b r-t)*(b-r)=0:=by grind
 rcases Rat.mul_eq_zero.1 h5 with e | e<;>grind
def upt (a b:Rat) (h:a<b) (y:Pt) (ha:Pt.of a<y) (hb:y<Pt.of b):Pt where
 L t:=t<=0∨y.L (phi a b t)
 ne:=⟨0,.inl Rat.le_refl⟩
 bd:=by
  obtain ⟨u,hu,hub⟩:=(Pt.adJ.1 hb).op
  have h1:a<u:=Pt.lu (Pt.of_lt.1 ha) hub
  refine ⟨psi a b u,fun hc=>?_⟩
  rcases hc with hc | hc
  ·have:=agm h1 hu;grind
  ·rw[agn h h1 hu] at hc
   exact hub.nL hc
 dn:=fun q r hq hr=>by
  by_cases h0:r<=0
  ·exact .inl h0
  ·refine .inr ?_
   rcases hq with hq | hq
   ·grind
   ·exact y.dn _ _ hq (phi_mono h (by grind) hr)
 op:=fun q hq=>by
  by_cases h0:q<=0
  ·obtain ⟨r,h1,h2⟩:=y.op a (Pt.of_lt.1 ha)
   have h3:r<b:=Pt.lu h2 (Pt.adJ.1 hb)
   have h4:=agm h1 h3
   exact ⟨psi a b r,by grind,.inr (by rw[agn h h1 h3];exact h2)⟩
  ·have h1:0<q:=by grind
   rcases hq with hq | hq
   ·grind
   ·obtain ⟨r,h2,h3⟩:=y.op _ hq
    have h4:r<b:=Pt.lu h3 (Pt.adJ.1 hb)
    have h5:=ajP (aiE h h1) h2 h4
    rw[al7 h h1] at h5
    have h6:a<r:=by have:=aiE h h1;grind
    exact ⟨psi a b r,h5,.inr (by rw[agn h h6 h4];exact h3)⟩
theorem au3 (h:a<b) (y:Pt) (ha:Pt.of a<y) (hb:y<Pt.of b):Pt.of 0<upt a b h y ha hb:=Pt.of_lt.2 (.inl Rat.le_refl)
theorem awW (h:a<b) {y z:Pt} (ha:Pt.of a<y) (hb:y<Pt.of b) (ha':Pt.of a<z) (hb':z<Pt.of b) (hyz:y<z):upt a b h y ha hb<upt a b h z ha' hb':=by
 obtain ⟨q,h1,h2⟩:=hyz
 have h3:q<b:=Pt.lu h2 (Pt.adJ.1 hb')
 have h4:a<q:=by
  rcases adI a q with c | c
  ·exact c
  ·exact absurd (Pt.Lle (Pt.of_lt.1 ha) c) h1
 refine ⟨psi a b q,fun hc=>?_,.inr (by rw[agn h h4 h3];exact h2)⟩
 rcases hc with hc | hc
 ·have:=agm h4 h3;grind
 ·rw[agn h h4 h3] at hc
  exact h1 hc
theorem anw (h:a<b) {y:Pt} (ha:Pt.of a<y) (hb:y<Pt.of b) {F G:Rat->Rat} (n:Nat) {k:Rat} (hk:0<k) (he:∀ t,0<t->k*F t=(1+t)^n*G (phi a b t))
 (hp:adU F (upt a b h y ha hb)):adU G y:=by
 obtain ⟨e,l,u,he0,⟨hl,hu⟩,hq⟩:=hp
 obtain ⟨l1,hl1,hl2⟩:=(upt a b h y ha hb).op l hl
 obtain ⟨l2,hl3,hl4⟩:=(upt a b h y ha hb).op 0 (.inl Rat.le_refl)
 obtain ⟨m,hm1,hm2,hm3⟩:∃ m:Rat,l<m/\0<m/\(upt a b h y ha hb).L m:=by
  rcases Rat.le_total (a:=l1) (b:=l2) with c | c
  ·exact ⟨l2,by grind,hl3,hl4⟩
  ·exact ⟨l1,hl1,by grind,hl2⟩
 have hmu:m<u:=Pt.lu hm3 hu
 have hu0:0<u:=by grind
 have hyl:y.L (phi a b m):=by
  rcases hm3 with c | c
  ·grind
  ·exact c
 have hyu:y.U (phi a b u):=by
  obtain ⟨s,hs,hs1⟩:=hu
  have hs0:0<s:=by
   rcases adI 0 s with c | c
   ·exact c
   ·exact absurd (.inl c) hs1
  exact ⟨phi a b s,phi_mono h hs0 hs,fun hc=>hs1 (.inr hc)⟩
 have hpw:0<(1+u)^n:=Rat.pow_pos (by grind)
 have hke:0<k*e:=Rat.mul_pos hk he0
 refine ⟨k*e / (1+u)^n,phi a b m,phi a b u,?_,⟨hyl,hyu⟩,fun r hr1 hr2=>?_⟩
 ·rw[Rat.lt_div_iff hpw,Rat.zero_mul];exact hke
 ·have hra:a<r:=by have:=aiE h hm2;grind
  have hrb:r<b:=by have:=akW h hu0;grind
  have ht0:=agm hra hrb
  have h1:=ajP (aiE h hm2) hr1 hrb
  rw[al7 h hm2] at h1
  have h2:=ajP hra hr2 (akW h hu0)
  rw[al7 h hu0] at h2
  have h3:=hq (psi a b r) (by grind) h2
  have h4:=he _ ht0
  rw[agn h hra hrb] at h4
  have h5:k*e<=(1+psi a b r)^n*G r:=by
   rw[<- h4];exact Rat.mul_le_mul_of_nonneg_left h3 (by grind)
  have hpt:0<(1+psi a b r)^n:=Rat.pow_pos (by grind)
  have hG:0<G r:=by
   rcases adI 0 (G r) with c | c
   ·exact c
   ·exfalso
    have:=Rat.mul_nonneg (Rat.le_of_lt hpt) (show 0<=-G r by grind)
    grind
  have h6:(1+psi a b r)^n<=(1+u)^n:=aqO (by grind) (by grind) n
  have h7:(1+psi a b r)^n*G r<=(1+u)^n*G r:=Rat.mul_le_mul_of_nonneg_right h6 (Rat.le_of_lt hG)
  rw[Rat.div_def]
  have h8:k*e*((1+u)^n)⁻¹<=(1+u)^n*G r*((1+u)^n)⁻¹:=Rat.mul_le_mul_of_nonneg_right (by grind) (Rat.le_of_lt (Rat.inv_pos.2 hpw))
  have h9:(1+u)^n*((1+u)^n)⁻¹=1:=Rat.mul_inv_cancel _ (by grind)
  have h10:(1+u)^n*G r*((1+u)^n)⁻¹=G r:=by rw[Rat.mul_comm ((1+u)^n) (G r),Rat.mul_assoc,h9,Rat.mul_one]
  rw[h10] at h8
  exact h8
end
end Go.Proofs.YtdimmlckpgpgcaaGreat
namespace Go.Proofs.YtdimmlckpgpgcaaGreat
theorem agX (x y:Rat):∀ n:Nat,(x*y)^n=x^n*y^n
 | 0=>by rw[Rat.pow_zero,Rat.pow_zero,Rat.pow_zero];exact (Rat.mul_one 1).symm
 | n+1=>by rw[Rat.pow_succ,Rat.pow_succ,Rat.pow_succ,agX x y n];grind
def hvr (f:List Int) (u v:Rat):Nat->Rat
 | 0=>((f.getD (f.length-1) 0:Int):Rat)
 | k+1=>hvr f u v k*u+((f.getD (f.length-2-k) 0:Int):Rat)*v^(k+1)
theorem afs (p:List Int) (q:Rat):pv (aaf p) q=pv p q:=abY _ _ (fun k=>aam p k) q
theorem atj (a b:Int) (q:Rat):pv [a,b] q=(a:Rat)+b*q:=by
 show (a:Rat)+q*((b:Rat)+q*0)=_
 grind
theorem awX (f:List Int) (P Q D:Int) (x:Rat):∀ k,pv (trs f P Q D k).1 x=hvr f (P+Q*x) (D+D*x) k/\pv (trs f P Q D k).2.1 x=(D+D*x)^k
 | 0=>by
   constructor
   ·show ((f.getD (f.length-1) 0:Int):Rat)+x*0=((f.getD (f.length-1) 0:Int):Rat)
    grind
   ·rw[Rat.pow_zero]
    show ((1:Int):Rat)+x*0=1
    have:((1:Int):Rat)=1:=rfl
    grind
 | k+1=>by
   obtain ⟨h1,h2⟩:=awX f P Q D x k
   have h3:pv (aag (aaf (trs f P Q D k).2.1) (aaf [D,D])) x=((D:Rat)+D*x)^(k+1):=by
    rw[abl,afs,afs,atj,h2,Rat.pow_succ]
   refine ⟨?_,h3⟩
   show pv (aaf (acB (aag (aaf (trs f P Q D k).1) (aaf [P,Q])) (aaf (psc (f.getD (f.length-2-k) 0) (aag (aaf (trs f P Q D k).2.1) (aaf [D,D])))))) x=_
   rw[afs,adL,abl,afs,afs,atj,afs,agA,h3,h1,hvr]
theorem atl (f:List Int) (r v:Rat):∀ k,k+1<=f.length->hvr f (r*v) v k=v^k*pv (f.drop (f.length-1-k)) r
 | 0,h=>by
   have e:f.drop (f.length-1)=[f.getD (f.length-1) 0]:=by
    rw[List.getD_eq_getElem?_getD,List.getElem?_eq_getElem (show f.length-1<f.length by omega),List.drop_eq_getElem_cons (show f.length-1<f.length by omega),show f.length-1+1=f.length by omega,List.drop_length]
    rfl
   rw[Nat.sub_zero,e,hvr,Rat.pow_zero]
   show _=1*(((f.getD (f.length-1) 0:Int):Rat)+r*0)
   grind
 | k+1,h=>by
   have e:f.drop (f.length-1-(k+1))=f.getD (f.length-2-k) 0 :: f.drop (f.length-1-k):=by
    rw[show f.length-1-(k+1)=f.length-2-k by omega,List.drop_eq_getElem_cons (show f.length-2-k<f.length by omega),show f.length-2-k+1=f.length-1-k by omega,List.getD_eq_getElem?_getD,List.getElem?_eq_getElem (show f.length-2-k<f.length by omega)]
    rfl
   rw[e,hvr,atl f r v k (by omega),pv,Rat.pow_succ]
   grind
theorem au4 {f:List Int} (hl:1<=f.length) {P Q D:Int} (hD:0<D) {t:Rat} (ht:0<t) :
 (aal (trs f P Q D (f.length-1)).1:Rat)*pv (afO f P Q D) t=(1+t)^(f.length-1)*((D:Rat)^(f.length-1)*pv f (phi ((P:Rat) / D) ((Q:Rat) / D) t)):=by
 have hD':(0:Rat)<D:=by exact_mod_cast hD
 have e1:=(awX f P Q D t (f.length-1)).1
 have e2:(P:Rat)+Q*t=phi ((P:Rat) / D) ((Q:Rat) / D) t*((D:Rat)+D*t):=by
  have h1:=anv (a:=(P:Rat) / D) (b:=(Q:Rat) / D) ht
  have h2:(P:Rat) / D*D=P:=Rat.div_mul_cancel (by grind)
  have h3:(Q:Rat) / D*D=Q:=Rat.div_mul_cancel (by grind)
  generalize phi ((P:Rat) / D) ((Q:Rat) / D) t=s at *
  grind
 rw[e2,atl f _ _ _ (by omega),show f.length-1-(f.length-1)=0 by omega,List.drop_zero] at e1
 have e3:(aal (trs f P Q D (f.length-1)).1:Rat)*pv (afO f P Q D) t=pv (trs f P Q D (f.length-1)).1 t:=by
  unfold afO
  rw[afs]
  have:=agA (aal (trs f P Q D (f.length-1)).1:Int) (ajZ (trs f P Q D (f.length-1)).1) t
  rw[Rat.intCast_natCast] at this
  rw[<- this]
  exact abY _ _ (fun k=>by rw[aav,<- ajK]) t
 rw[e3,e1,show (D:Rat)+D*t=(1+t)*D by grind,agX]
 grind
theorem asr {a b:Rat} (h:a<b) {y:Pt} (ha:Pt.of a<y) (hb:y<Pt.of b) {m f:List Int} (n:Nat) {k:Rat} (hk:0<k) (he:∀ t,0<t->k*pv m t=(1+t)^n*pv f (phi a b t)) (h0:sgp f y=0):sgp m (upt a b h y ha hb)=0:=by
 rcases ahl m (upt a b h y ha hb) with e | e | e
 ·have:=(anw h ha hb n hk he (afj e)).sgf
  exact absurd (this.symm.trans h0) (by decide)
 ·have h1:alr (pv f) y:=anw h ha hb n hk (F:=fun t=>-pv m t) (G:=fun t=>-pv f t) (fun t ht=>by have:=he t ht;grind) (ahj e)
  have:=h1.sgf
  exact absurd (this.symm.trans h0) (by decide)
 ·exact e
theorem anx {a b:Rat} (h:a<b) {m f:List Int} (hr:∀ y (ha:Pt.of a<y) (hb:y<Pt.of b),sgp f y=0->sgp m (upt a b h y ha hb)=0):∀ ys,Asc ys->(∀ y∈ys,sgp f y=0/\Pt.of a<y/\y<Pt.of b) ->
 ∃ xs,Asc xs/\xs.length=ys.length/\∀ x∈xs,sgp m x=0/\Pt.of 0<x/\∃ y,y∈ys/\∃ (ha:Pt.of a<y) (hb:y<Pt.of b),x=upt a b h y ha hb
 | [],_,_=>⟨[],List.Pairwise.nil,rfl,fun x hx=>by simp at hx⟩
 | y :: ys,hA,hy=>by
   obtain ⟨h1,h2⟩:=List.pairwise_cons.1 hA
   obtain ⟨xs,x1,x2,x3⟩:=anx h hr ys h2 fun z hz=>hy z (List.mem_cons_of_mem _ hz)
   obtain ⟨y0,ya,yb⟩:=hy y (List.mem_cons_self ..)
   refine ⟨upt a b h y ya yb :: xs,List.pairwise_cons.2 ⟨fun x hx=>?_,x1⟩,by simp[x2],fun x hx=>?_⟩
   ·obtain ⟨_,_,z,hz,za,zb,rfl⟩:=x3 x hx
    exact awW h ya yb za zb (h1 z hz)
   ·rcases List.mem_cons.1 hx with e | e
    ·exact ⟨e ▸ hr y ya yb y0,e ▸ au3 h y ya yb,y,List.mem_cons_self ..,ya,yb,e⟩
    ·obtain ⟨e1,e2,z,hz,e3⟩:=x3 x e
     exact ⟨e1,e2,z,List.mem_cons_of_mem _ hz,e3⟩
theorem atm {p:List Int} (hp:aac p≠0):∀ xs:List Pt,(∀ x∈xs,sgp p x=0)->(xs.length:Int)<=Mu p xs
 | [],_=>Int.le_refl _
 | x :: xs,h=>by
   have h1:=atm hp xs fun y hy=>h y (List.mem_cons_of_mem _ hy)
   have h2:mult x p≠0:=fun e=>(aaT hp).1 e (h x (List.mem_cons_self ..))
   rw[ady,List.length_cons]
   omega
theorem atn:∀ xs:List Pt,(∀ x∈xs,Pt.of 0<x)->∃ t:Rat,0<t/\∀ x∈xs,Pt.of t<x
 | [],_=>⟨1,by grind,fun x hx=>by simp at hx⟩
 | x :: xs,h=>by
   obtain ⟨t,h1,h2⟩:=atn xs fun y hy=>h y (List.mem_cons_of_mem _ hy)
   obtain ⟨s,h3,h4⟩:=Pt.mid (h x (List.mem_cons_self ..))
   rw[Pt.aaH] at h3
   rcases adI s t with c | c
   ·refine ⟨s,h3,fun y hy=>?_⟩
    rcases List.mem_cons.1 hy with e | e
    ·exact e ▸ h4
    ·exact Pt.lt_trans (Pt.aaH.2 c) (h2 y e)
   ·refine ⟨t,h1,fun y hy=>?_⟩
    rcases List.mem_cons.1 hy with e | e
    ·rw[e];exact Pt.of_lt.2 (Pt.Lle (Pt.of_lt.1 h4) c)
    ·exact h2 y e
theorem ato:∀ (xs:List Pt) (t0:Rat),∃ t:Rat,t0<t/\∀ x∈xs,x<Pt.of t
 | [],t0=>⟨t0+1,by grind,fun x hx=>by simp at hx⟩
 | x :: xs,t0=>by
   obtain ⟨t,h1,h2⟩:=ato xs t0
   obtain ⟨s,h3⟩:=x.bd
   refine ⟨if t<s then s+1 else t+1,by split<;>grind,fun y hy=>?_⟩
   rcases List.mem_cons.1 hy with e | e
   ·rw[e];exact Pt.adJ.2 ⟨s,by split<;>grind,h3⟩
   ·exact Pt.lt_trans (h2 y e) (Pt.aaH.2 (by split<;>grind))
theorem aqQ {a b:Rat} (h:a<b) {m f:List Int} (n:Nat) {k:Rat} (hk:0<k) (he:∀ t,0<t->k*pv m t=(1+t)^n*pv f (phi a b t)) (hm:aac m≠0) {ys:List Pt} (hy:Lst (fun y=>sgp f y=0/\Pt.of a<y/\y<Pt.of b) ys) :
 (ys.length:Int)<=agK m/\(agK m=1->ys.length=1):=by
 obtain ⟨xs,hx⟩:=abj hm fun x=>Pt.of 0<x
 obtain ⟨d1,d2⟩:=ab7 m.length m (Nat.le_refl _) hm xs hx
 obtain ⟨zs,z1,z2,z3⟩:=anx h (m:=m) (f:=f) (fun y ha hb h0=>asr h ha hb n hk he h0) ys hy.1 fun y hy'=>(hy.2 y).1 hy'
 have h1:=atm hm zs fun x hx'=>(z3 x hx').1
 have h2:=awU hm hx z1 fun x hx'=>(z3 x hx').2.1
 refine ⟨by omega,fun hd=>?_⟩
 have h3:ys.length<=1:=by omega
 have h4:ys.length≠0:=fun h0=>by
  have e0:ys=[]:=List.length_eq_zero_iff.1 h0
  obtain ⟨t1,p1,p2⟩:=atn xs fun x hx'=>((hx.2 x).1 hx').2
  obtain ⟨t2,p3,p4⟩:=ato xs t1
  have hne:∀ t:Rat,0<t->Pt.of t ∉ xs->sgp m (Pt.of t)≠0:=fun t ht hn e=>hn ((hx.2 _).2 ⟨e,Pt.aaH.2 ht⟩)
  have n1:=hne t1 p1 fun hc=>Pt.irr _ (p2 _ hc)
  have n2:=hne t2 (by grind) fun hc=>Pt.irr _ (p4 _ hc)
  have au2:=ajO hm xs (Pt.of t1) (Pt.of t2) (Pt.aaH.2 p3) n1 n2 (hx.congr fun x=>⟨fun e=>⟨e.1,p2 x ((hx.2 x).2 e),p4 x ((hx.2 x).2 e)⟩,fun e=>⟨e.1,Pt.lt_trans (Pt.aaH.2 p1) e.2.1⟩⟩)
  have hsg:∀ t:Rat,0<t->sgp f (Pt.of (phi a b t))=sgp m (Pt.of t):=fun t ht=>by
   unfold sgp
   rw[afD (adt f),afD (adt m)]
   have e1:=he t ht
   have e2:0<(1+t)^n:=Rat.pow_pos (by grind)
   rcases (show pv m t<0∨pv m t=0∨0<pv m t by grind) with c | c | c
   ·have e3:pv f (phi a b t)<0:=by
     rcases adI (pv f (phi a b t)) 0 with c1 | c1
     ·exact c1
     ·exfalso
      have:=Rat.mul_nonneg (Rat.le_of_lt e2) c1
      have:=Rat.mul_pos hk (show 0 < -pv m t by grind)
      grind
    rw[if_neg (by grind),if_pos e3,if_neg (by grind),if_pos c]
   ·have e3:pv f (phi a b t)=0:=by
     rw[c,Rat.mul_zero] at e1
     rcases Rat.mul_eq_zero.1 e1.symm with e | e
     ·grind
     ·exact e
    rw[e3,c]
   ·have e3:0<pv f (phi a b t):=by
     rcases adI 0 (pv f (phi a b t)) with c1 | c1
     ·exact c1
     ·exfalso
      have:=Rat.mul_nonneg (Rat.le_of_lt e2) (show 0<=-pv f (phi a b t) by grind)
      have:=Rat.mul_pos hk c
      grind
    rw[if_pos e3,if_pos c]
  rcases au2 with ⟨_,c⟩ | ⟨c,_⟩
  ·omega
  ·have hlt:Pt.of (phi a b t1)<Pt.of (phi a b t2):=Pt.aaH.2 (phi_mono h p1 p3)
   have hx1:sgf (pv f) (Pt.of (phi a b t1))*sgf (pv f) (Pt.of (phi a b t2))=-1:=by
    have e1:=hsg t1 p1
    have e2:=hsg t2 (by grind)
    unfold sgp at e1 e2 c n1
    rw[e1,e2,c]
    rcases aee (pv m) (Pt.of t1) with e | e | e
    ·rw[e];decide
    ·rw[e];decide
    ·exact absurd e n1
   obtain ⟨z,z4,z5,z6⟩:=ivt (adt f) hlt hx1
   have:z∈ys:=(hy.2 z).2 ⟨z6,Pt.lt_trans (Pt.aaH.2 (aiE h p1)) z4,Pt.lt_trans z5 (Pt.aaH.2 (akW h (by grind)))⟩
   rw[e0] at this
   simp at this
 omega
end Go.Proofs.YtdimmlckpgpgcaaGreat
namespace Go.Proofs.YtdimmlckpgpgcaaGreat
section
variable {f:List Int} {q0 q1:Nat} {z0 z1:Int}
theorem ajQ {z D P:Int} {q:Nat} (hq:0<q) (hD:0<D) (h:P*(q:Int)=z*D):(P:Rat) / D=(z:Rat) / (q:Rat):=by
 have h1:(0:Rat)<D:=by exact_mod_cast hD
 have h2:(0:Rat)<((q:Nat):Rat):=by exact_mod_cast hq
 have h3:(P:Rat)*((q:Nat):Rat)=(z:Rat)*D:=by exact_mod_cast congrArg (fun x:Int=>(x:Rat)) h
 have e1:(P:Rat) / D*D=P:=Rat.div_mul_cancel (by grind)
 have e2:(z:Rat) / (q:Rat)*q=z:=Rat.div_mul_cancel (by grind)
 generalize (P:Rat) / D=x at *
 generalize (z:Rat) / (q:Rat)=y at *
 have h4:(x-y)*(D*q)=0:=by grind
 have h5:(0:Rat)<D*q:=Rat.mul_pos h1 h2
 rcases Rat.mul_eq_zero.1 h4 with e | e<;>grind
theorem awY (h:aac f≠0) (tf:aaf f=f) (hq0:0<q0) (hq1:0<q1) (hlt:z0*(q1:Int)<z1*(q0:Int)):aac (abA f q0 q1 z0 z1)≠0:=fun e=>by
 have h1:=aso h tf hq0 hq1 hlt
 rw[aif e] at h1
 exact absurd h1 (by decide)
theorem asu (h:aac f≠0) (tf:aaf f=f) (hq0:0<q0) (hq1:0<q1) (hlt:z0*(q1:Int)<z1*(q0:Int)) {ys:List Pt}
 (hy:Lst (fun y=>sgp f y=0/\Pt.of ((z0:Rat) / (q0:Rat))<y/\y<Pt.of ((z1:Rat) / (q1:Rat))) ys) :
 (ys.length:Int)<=agK (abA f q0 q1 z0 z1)/\(agK (abA f q0 q1 z0 z1)=1->ys.length=1):=by
 have hne:=awY h tf hq0 hq1 hlt
 have e0:=aeZ h hlt tf
 obtain ⟨c1,c2,c3⟩:=asj z0 z1 hq0 hq1
 rw[e0] at hne ⊢
 have hl:1<=f.length:=by rw[<- tf,aae];omega
 have r0:=ajQ hq0 c1 c2
 have r1:=ajQ hq1 c1 c3
 rw[<- r0,<- r1] at hy
 have hab:(cdP q0 q1 z0 z1:Rat) / (cdD q0 q1 z0 z1)<(cdQ q0 q1 z0 z1:Rat) / (cdD q0 q1 z0 z1):=by rw[r0,r1];exact (ajr hq0 hq1).2 hlt
 have hP:=asl hq0 hq1 hlt
 have hD:(0:Rat)<(cdD q0 q1 z0 z1:Rat):=by exact_mod_cast c1
 generalize cdP q0 q1 z0 z1=P at *
 generalize cdQ q0 q1 z0 z1=Q at *
 generalize cdD q0 q1 z0 z1=D at *
 have hc:aal (trs f P Q D (f.length-1)).1≠0:=abN (asi (D:=D) (agW h tf) hP (f.length-1))
 have hc':(0:Rat)<(aal (trs f P Q D (f.length-1)).1:Rat):=by exact_mod_cast Nat.pos_of_ne_zero hc
 have hDn:(0:Rat)<(D:Rat)^(f.length-1):=Rat.pow_pos hD
 have hDi:(D:Rat)^(f.length-1)*((D:Rat)^(f.length-1))⁻¹=1:=Rat.mul_inv_cancel _ (by grind)
 refine aqQ hab (f.length-1) (k:=(aal (trs f P Q D (f.length-1)).1:Rat)*((D:Rat)^(f.length-1))⁻¹) (Rat.mul_pos hc' (Rat.inv_pos.2 hDn)) (fun t ht=>?_) hne hy
 have h1:=au4 hl c1 (P:=P) (Q:=Q) ht
 have e1:(aal (trs f P Q D (f.length-1)).1:Rat)*((D:Rat)^(f.length-1))⁻¹*pv (afO f P Q D) t=((D:Rat)^(f.length-1))⁻¹*((aal (trs f P Q D (f.length-1)).1:Rat)*pv (afO f P Q D) t):=by grind
 rw[e1,h1]
 generalize (D:Rat)^(f.length-1)=X at *
 generalize (1+t)^(f.length-1)=Y at *
 generalize pv f _=Z
 grind
end
end Go.Proofs.YtdimmlckpgpgcaaGreat
namespace Go.Proofs.YtdimmlckpgpgcaaGreat
def mPQ (P Q:Int) (A:Nat->Int) (i:Nat):Int:=P*A i+Q*(if i=0 then 0 else A (i-1))
def Rcc (n:Nat) (A B:Nat->Int):Prop:=∀ i:Nat,((i:Int)+1)*A (i+1)-((n:Int)-(i:Int))*A i=B i
section
variable {n:Nat} {A B A' B':Nat->Int} {P Q D:Int}
theorem Rcc.dd (h:Rcc n A B):Rcc (n+1) (mPQ D D A) (mPQ D D B):=by
 intro i
 cases i with
 | zero =>
   have h0:=h 0
   simp only[mPQ] at *
   rw[<- h0]
   simp
   grind
 | succ i =>
   have h0:=h i
   have h1:=h (i+1)
   simp only[mPQ,Nat.add_sub_cancel] at *
   rw[if_neg (by omega),if_neg (by omega),if_neg (by omega),<- h0,<- h1]
   push_cast
   grind
theorem Rcc.pq (h:Rcc n A B):Rcc (n+1) (mPQ P Q A) (fun i=>(Q-P)*A i+mPQ P Q B i):=by
 intro i
 cases i with
 | zero =>
   have h0:=h 0
   simp only[mPQ] at *
   rw[<- h0]
   simp
   grind
 | succ i =>
   have h0:=h i
   have h1:=h (i+1)
   simp only[mPQ,Nat.add_sub_cancel] at *
   rw[if_neg (by omega),if_neg (by omega),if_neg (by omega),<- h0,<- h1]
   push_cast
   grind
theorem Rcc.add (h:Rcc n A B) (h':Rcc n A' B') (c c':Int):Rcc n (fun i=>c*A i+c'*A' i) (fun i=>c*B i+c'*B' i):=by
 intro i
 have h0:=h i
 have h1:=h' i
 simp only
 rw[<- h0,<- h1]
 grind
theorem Rcc.congr (h:Rcc n A B) (h1:∀ i,A i=A' i) (h2:∀ i,B i=B' i):Rcc n A' B':=by
 intro i
 rw[<- h1,<- h1,<- h2];exact h i
def pwc (D:Int):Nat->Nat->Int
 | 0=>fun i=>if i=0 then 1 else 0
 | k+1=>mPQ D D (pwc D k)
def tcf (f:List Int) (P Q D:Int):Nat->Nat->Int
 | 0=>fun i=>if i=0 then f.getD (f.length-1) 0 else 0
 | k+1=>fun i=>mPQ P Q (tcf f P Q D k) i+f.getD (f.length-2-k) 0*pwc D (k+1) i
def gcf (f:List Int) (P Q D:Int):Nat->Nat->Int
 | 0=>fun _=>0
 | k+1=>fun i=>tcf f P Q D k i+mPQ P Q (gcf f P Q D k) i
def hcf (f:List Int) (P Q D:Int):Nat->Nat->Int
 | 0=>fun _=>0
 | k+1=>fun i=>2*gcf f P Q D k i+mPQ P Q (hcf f P Q D k) i
variable {f:List Int}
theorem agY (i:Nat):mPQ P Q (fun _=>0) i=0:=by simp[mPQ]
theorem aqR:∀ k,Rcc k (pwc D k) (fun _=>0)
 | 0=>fun i=>by
   cases i with
   | zero=>simp[pwc]
   | succ i=>simp[pwc]
 | k+1=>((aqR k).dd (D:=D)).congr (fun _=>rfl) (fun i=>agY i)
theorem al8:∀ k,Rcc k (tcf f P Q D k) (fun i=>(Q-P)*gcf f P Q D k i)
 | 0=>fun i=>by
   cases i with
   | zero=>simp[tcf,gcf]
   | succ i=>simp[tcf,gcf]
 | k+1=>by
   have h:=(al8 k).pq (P:=P) (Q:=Q)
   have h2:=aqR (D:=D) (k+1)
   refine (h.add h2 1 (f.getD (f.length-2-k) 0)).congr (fun i=>?_) (fun i=>?_)
   ·show _=mPQ P Q (tcf f P Q D k) i+f.getD (f.length-2-k) 0*pwc D (k+1) i
    rw[Int.one_mul]
   ·show _=(Q-P)*(tcf f P Q D k i+mPQ P Q (gcf f P Q D k) i)
    simp only[mPQ]
    split<;>grind
theorem aqS:∀ k,Rcc k (gcf f P Q D (k+1)) (fun i=>(Q-P)*hcf f P Q D (k+1) i)
 | 0=>fun i=>by
   cases i with
   | zero=>simp[tcf,gcf,hcf,mPQ]
   | succ i=>simp[tcf,gcf,hcf,mPQ]
 | k+1=>by
   have h:=(aqS k).pq (P:=P) (Q:=Q)
   have h2:=al8 (f:=f) (P:=P) (Q:=Q) (D:=D) (k+1)
   refine (h.add h2 1 1).congr (fun i=>?_) (fun i=>?_)
   ·show _=tcf f P Q D (k+1) i+mPQ P Q (gcf f P Q D (k+1)) i
    rw[Int.one_mul,Int.one_mul,Int.add_comm]
   ·show _=(Q-P)*(2*gcf f P Q D (k+1) i+mPQ P Q (hcf f P Q D (k+1)) i)
    simp only[mPQ]
    split<;>grind
end
def bnm:Nat->Nat->Nat
 | _,0=>1
 | 0,_+1=>0
 | n+1,i+1=>bnm n i+bnm n (i+1)
theorem agZ (n:Nat):bnm n 0=1:=by cases n<;>rfl
theorem al9:∀ (n i:Nat),i<=n->1<=bnm n i
 | n,0,_=>by rw[agZ];exact Nat.le_refl _
 | n+1,i+1,h=>by
   have:=al9 n i (by omega)
   show 1<=bnm n i+bnm n (i+1)
   omega
theorem ajR:∀ (n i:Nat),((i:Int)+1)*(bnm n (i+1):Int)=((n:Int)-(i:Int))*(bnm n i:Int)
 | 0,0=>by simp[bnm]
 | 0,i+1=>by simp[bnm]
 | n+1,0=>by
   have h:=ajR n 0
   rw[agZ] at *
   show _*((bnm n 0+bnm n 1:Nat):Int)=_
   rw[agZ]
   push_cast at *
   grind
 | n+1,i+1=>by
   have h:=ajR n i
   have h2:=ajR n (i+1)
   show _*((bnm n (i+1)+bnm n (i+1+1):Nat):Int)=_*((bnm n i+bnm n (i+1):Nat):Int)
   push_cast at *
   grind
section
variable {n:Nat} {A B:Nat->Int} {w X:Int}
theorem Rcc.aqT (h:Rcc n A (fun i=>w*B i)) (hw:0<=w) (hX:0<=X) (hB:∀ i,i<n->-X<=B i):∀ i,i<=n->(bnm n i:Int)*(A 0-(i:Int)*(w*X))<=A i
 | 0,_=>by rw[agZ];simp
 | i+1,hi=>by
   have ih:=Rcc.aqT h hw hX hB i (by omega)
   have e:=h i
   simp only at e
   have b1:=ajR n i
   have b2:(1:Int)<=bnm n (i+1):=by have:=al9 n (i+1) hi;omega
   have c1:-(w*X)<=w*B i:=by
    have:=Int.mul_le_mul_of_nonneg_left (hB i (by omega)) hw
    rw[Int.mul_neg] at this;exact this
   have hn:(0:Int)<=(n:Int)-(i:Int):=by omega
   have k1:=Int.mul_le_mul_of_nonneg_left ih hn
   have k2:((n:Int)-(i:Int))*((bnm n i:Int)*(A 0-(i:Int)*(w*X)))=((i:Int)+1)*(bnm n (i+1):Int)*(A 0-(i:Int)*(w*X)):=by rw[b1];grind
   rw[k2] at k1
   have hwX:0<=w*X:=Int.mul_nonneg hw hX
   have k3:w*X<=((i:Int)+1)*(bnm n (i+1):Int)*(w*X):=by
    have h5:(1:Int)<=((i:Int)+1)*(bnm n (i+1):Int):=by
     have:=Int.mul_le_mul (show (1:Int)<=(i:Int)+1 by omega) b2 (by decide) (by omega)
     omega
    have:=Int.mul_le_mul_of_nonneg_right h5 hwX
    omega
   have k4:((i:Int)+1)*((bnm n (i+1):Int)*(A 0-((i+1:Nat):Int)*(w*X)))<=((i:Int)+1)*A (i+1):=by
    have e2:((i:Int)+1)*((bnm n (i+1):Int)*(A 0-((i+1:Nat):Int)*(w*X)))=((i:Int)+1)*(bnm n (i+1):Int)*(A 0-(i:Int)*(w*X))-((i:Int)+1)*(bnm n (i+1):Int)*(w*X):=by
     push_cast
     grind
    rw[e2]
    omega
   exact Int.le_of_mul_le_mul_left k4 (by omega)
theorem Rcc.anz (h:Rcc n A (fun i=>w*B i)) (hw:0<=w) (hX:0<=X) (hB:∀ i,i<n->-X<=B i) (h0:(n:Int)*(w*X)<A 0) (i:Nat) (hi:i<=n):0<A i:=by
 have h1:=h.aqT hw hX hB i hi
 have h2:(1:Int)<=bnm n i:=by have:=al9 n i hi;omega
 have hwX:0<=w*X:=Int.mul_nonneg hw hX
 have h3:(i:Int)*(w*X)<=(n:Int)*(w*X):=Int.mul_le_mul_of_nonneg_right (by omega) hwX
 have h4:0<(bnm n i:Int)*(A 0-(i:Int)*(w*X)):=Int.mul_pos (by omega) (by omega)
 omega
theorem Rcc.neg (h:Rcc n A (fun i=>w*B i)):Rcc n (fun i=>-A i) (fun i=>w * -B i):=by
 intro i
 have:=h i
 simp only at *
 grind
theorem Rcc.rise (h:Rcc n A (fun i=>w*B i)) (hw:0<w) (hB:∀ i,i<n->0<B i) (i:Nat) (hi:i<n) (h0:0<=A i):0<A (i+1):=by
 have e:=h i
 simp only at e
 have h1:=Int.mul_pos hw (hB i hi)
 have h2:=Int.mul_nonneg (show (0:Int)<=(n:Int)-(i:Int) by omega) h0
 have h3:0<((i:Int)+1)*A (i+1):=by omega
 rcases Int.lt_or_le 0 (A (i+1)) with c | c
 ·exact c
 ·have:=Int.mul_nonpos_of_nonneg_of_nonpos (show (0:Int)<=(i:Int)+1 by omega) c
  omega
end
section
variable {P Q D:Int} {B M:Nat} {f:List Int}
theorem anA {A:Nat->Int} {X:Nat} (hA:∀ i,(A i).natAbs<=X) (hP:P.natAbs<=B) (hQ:Q.natAbs<=B) (i:Nat):(mPQ P Q A i).natAbs<=2*B*X:=by
 unfold mPQ
 have h1:(P*A i).natAbs<=B*X:=by rw[Int.natAbs_mul];exact Nat.mul_le_mul hP (hA i)
 have h2:(Q*(if i=0 then 0 else A (i-1))).natAbs<=B*X:=by
  rw[Int.natAbs_mul]
  split
  ·simp
  ·exact Nat.mul_le_mul hQ (hA _)
 have h3:2*B*X=B*X+B*X:=by rw[Nat.mul_assoc,Nat.two_mul]
 omega
theorem atp (hD:D.natAbs<=B):∀ k i,(pwc D k i).natAbs<=(2*B)^k
 | 0,i=>by
   show (if i=0 then (1:Int) else 0).natAbs<=1
   split<;>decide
 | k+1,i=>by
   have:=anA (atp hD k) hD hD i
   rw[Nat.pow_succ,Nat.mul_comm]
   exact this
theorem aqU (hP:P.natAbs<=B) (hQ:Q.natAbs<=B) (hD:D.natAbs<=B) (hM:∀ j,(f.getD j 0).natAbs<=M):∀ k i,(tcf f P Q D k i).natAbs<=(k+1)*(M*(2*B)^k)
 | 0,i=>by
   show (if i=0 then f.getD (f.length-1) 0 else 0).natAbs<=_
   split
   ·simpa using hM _
   ·simp
 | k+1,i=>by
   have h1:=anA (fun i=>aqU hP hQ hD hM k i) hP hQ i
   have h2:(f.getD (f.length-2-k) 0*pwc D (k+1) i).natAbs<=M*(2*B)^(k+1):=by
    rw[Int.natAbs_mul];exact Nat.mul_le_mul (hM _) (atp hD (k+1) i)
   have h3:2*B*((k+1)*(M*(2*B)^k))=(k+1)*(M*(2*B)^(k+1)):=by
    rw[Nat.pow_succ]
    generalize (2*B)^k=X
    generalize 2*B=Y
    grind
   have h4:(k+1+1)*(M*(2*B)^(k+1))=(k+1)*(M*(2*B)^(k+1))+M*(2*B)^(k+1):=by rw[Nat.add_mul,Nat.one_mul]
   show (mPQ P Q (tcf f P Q D k) i+f.getD (f.length-2-k) 0*pwc D (k+1) i).natAbs<=_
   omega
theorem anB (hP:P.natAbs<=B) (hQ:Q.natAbs<=B) (hD:D.natAbs<=B) (hM:∀ j,(f.getD j 0).natAbs<=M):∀ k i,(gcf f P Q D (k+1) i).natAbs<=(k+1)*((k+1)*(M*(2*B)^k))
 | 0,i=>by
   have h1:=aqU (f:=f) hP hQ hD hM 0 i
   show (tcf f P Q D 0 i+mPQ P Q (fun _=>0) i).natAbs<=_
   rw[agY]
   simpa using h1
 | k+1,i=>by
   have h1:=anA (fun i=>anB hP hQ hD hM k i) hP hQ i
   have h2:=aqU (f:=f) hP hQ hD hM (k+1) i
   have h3:2*B*((k+1)*((k+1)*(M*(2*B)^k)))=(k+1)*((k+1)*(M*(2*B)^(k+1))):=by
    rw[Nat.pow_succ]
    generalize (2*B)^k=X
    generalize 2*B=Y
    grind
   have h4:(k+1)*((k+1)*(M*(2*B)^(k+1)))+(k+1+1)*(M*(2*B)^(k+1))<=(k+1+1)*((k+1+1)*(M*(2*B)^(k+1))):=by
    generalize M*(2*B)^(k+1)=X
    have e1:(k+1+1)*((k+1+1)*X)=(k+1)*((k+1+1)*X)+(k+1+1)*X:=by rw[Nat.add_mul (k+1) 1,Nat.one_mul]
    rw[e1]
    have e2:(k+1)*((k+1)*X)<=(k+1)*((k+1+1)*X):=Nat.mul_le_mul_left _ (Nat.mul_le_mul_right _ (by omega))
    omega
   show (tcf f P Q D (k+1) i+mPQ P Q (gcf f P Q D (k+1)) i).natAbs<=_
   omega
theorem atq (hP:P.natAbs<=B) (hQ:Q.natAbs<=B) (hD:D.natAbs<=B) (hM:∀ j,(f.getD j 0).natAbs<=M):∀ k i,(hcf f P Q D (k+2) i).natAbs<=2*((k+1)*((k+1)*((k+1)*(M*(2*B)^k))))
 | 0,i=>by
   have h1:=anB (f:=f) hP hQ hD hM 0 i
   have e0:∀ i,hcf f P Q D 1 i=0:=fun i=>by
    show 2*(0:Int)+mPQ P Q (fun _=>0) i=0
    rw[agY];rfl
   have e:hcf f P Q D (0+2) i=2*gcf f P Q D 1 i:=by
    show 2*gcf f P Q D 1 i+mPQ P Q (hcf f P Q D 1) i=_
    have:mPQ P Q (hcf f P Q D 1) i=0:=by
     unfold mPQ
     rw[e0]
     split
     ·simp
     ·rw[e0];simp
    omega
   rw[e,Int.natAbs_mul]
   have h2:(0+1)*((0+1)*((0+1)*(M*(2*B)^0)))=(0+1)*((0+1)*(M*(2*B)^0)):=by rw[Nat.zero_add,Nat.one_mul]
   rw[h2]
   exact Nat.mul_le_mul (by decide) h1
 | k+1,i=>by
   have h1:=anA (fun i=>atq hP hQ hD hM k i) hP hQ i
   have h2:=anB (f:=f) hP hQ hD hM (k+1) i
   have h3:2*B*(2*((k+1)*((k+1)*((k+1)*(M*(2*B)^k)))))=2*((k+1)*((k+1)*((k+1)*(M*(2*B)^(k+1))))):=by
    rw[Nat.pow_succ]
    generalize (2*B)^k=X
    generalize 2*B=Y
    grind
   have h4:2*((k+1)*((k+1)*((k+1)*(M*(2*B)^(k+1)))))+2*((k+1+1)*((k+1+1)*(M*(2*B)^(k+1))))<=2*((k+1+1)*((k+1+1)*((k+1+1)*(M*(2*B)^(k+1))))):=by
    generalize M*(2*B)^(k+1)=X
    have e1:(k+1+1)*((k+1+1)*((k+1+1)*X))=(k+1)*((k+1+1)*((k+1+1)*X))+(k+1+1)*((k+1+1)*X):=by rw[Nat.add_mul (k+1) 1,Nat.one_mul]
    rw[e1]
    have e2:(k+1)*((k+1)*((k+1)*X))<=(k+1)*((k+1+1)*((k+1+1)*X)):=Nat.mul_le_mul_left _ (Nat.mul_le_mul (by omega) (Nat.mul_le_mul_right _ (by omega)))
    omega
   have h5:(2*gcf f P Q D (k+2) i).natAbs<=2*((k+1+1)*((k+1+1)*(M*(2*B)^(k+1)))):=by
    rw[Int.natAbs_mul];exact Nat.mul_le_mul (by decide) h2
   show (2*gcf f P Q D (k+2) i+mPQ P Q (hcf f P Q D (k+2)) i).natAbs<=_
   omega
end
theorem ag0:∀ (l:List Int) (s:Int),(s=1->∀ x∈l,x=1)->(∀ i,i+1<l.length->l.getD i 0=1->l.getD (i+1) 0=1)->(∀ x∈l,x=-1∨x=0∨x=1)->chg s l<=1/\(s=1->chg s l=0)
 | [],s,_,_,_=>by constructor<;>simp[chg]
 | x :: l,s,h1,h2,h3=>by
   have hr:∀ i,i+1<l.length->l.getD i 0=1->l.getD (i+1) 0=1:=fun i hi he=>by
    have:=h2 (i+1) (by simp;omega) (by simpa using he)
    simpa using this
   have h3':∀ y∈l,y=-1∨y=0∨y=1:=fun y hy=>h3 y (List.mem_cons_of_mem _ hy)
   have awZ:x=1->∀ y∈l,y=1:=by
    intro hx
    have key:∀ i,i<l.length->l.getD i 0=1:=by
     intro i
     induction i with
     | zero=>intro hi;have:=h2 0 (by simp;omega) (by simpa using hx);simpa using this
     | succ i ih=>intro hi;exact hr i hi (ih (by omega))
    intro y hy
    obtain ⟨i,hi,e⟩:=List.getElem_of_mem hy
    have:=key i hi
    rw[List.getD_eq_getElem?_getD,List.getElem?_eq_getElem hi,e] at this
    exact this
   unfold chg
   rcases h3 x (List.mem_cons_self ..) with c | c | c
   ·have hs:s≠1:=fun e=>by have:=h1 e x (List.mem_cons_self ..);omega
    have ih:=ag0 l x (fun e=>by omega) hr h3'
    rw[if_neg (by omega)]
    split<;>rename_i hh
    ·exact absurd (show s=1 by omega) hs
    ·exact ⟨by have:=ih.1;omega,fun e=>absurd e hs⟩
   ·rw[if_pos c]
    exact ag0 l s (fun e y hy=>h1 e y (List.mem_cons_of_mem _ hy)) hr h3'
   ·have ih:=ag0 l x (fun e y hy=>awZ c y hy) hr h3'
    have e0:=ih.2 c
    rw[if_neg (by omega)]
    split<;>rename_i hh
    ·rw[e0];exact ⟨by omega,fun e=>by omega⟩
    ·rw[e0];exact ⟨by omega,fun _=>by omega⟩
theorem ajS:∀ (l:List Int) (s:Int),chg (-s) (l.map fun x=>-x)=chg s l
 | [],_=>rfl
 | x :: l,s=>by
   show chg (-s) (-x :: l.map fun x=>-x)=_
   unfold chg
   by_cases c:x=0
   ·rw[if_pos c,if_pos (by omega)];exact ajS l s
   ·rw[if_neg c,if_neg (by omega)]
    by_cases d:x=-s
    ·rw[if_pos d,if_pos (by omega),ajS l x]
    ·rw[if_neg d,if_neg (by omega),ajS l x]
theorem ahS {e:Int} (he:e≠0):∀ (l:List Int) (s:Int),(s=0∨s=e)->(∀ x∈l,x=0∨x=e)->chg s l=0
 | [],_,_,_=>rfl
 | x :: l,s,hs,h=>by
   unfold chg
   have hr:∀ y∈l,y=0∨y=e:=fun y hy=>h y (List.mem_cons_of_mem _ hy)
   rcases h x (List.mem_cons_self ..) with c | c
   ·rw[if_pos c];exact ahS he l s hs hr
   ·rw[if_neg (by omega),if_neg (by omega)];exact ahS he l x (.inr c) hr
section
variable {n:Nat} {A G H:Nat->Int} {w X Y:Int} {l:List Int}
theorem aqV (hA:Rcc (n+1) A (fun i=>w*G i)) (hG:Rcc n G (fun i=>w*H i)) (hw:0<w) (hX:0<=X) (hY:0<=Y) (bG:∀ i,-X<=G i) (bH:∀ i,-Y<=H i) (hc:((n+1:Nat):Int)*(w*X)<A 0∨(n:Int)*(w*Y)<G 0) (hl:l.length<=n+2) (hs:∀ i,i<l.length->l.getD i 0=sg (A i)) :
 chg 0 l<=1/\((A 0=0∨A (n+1)=0)->chg 0 l=0):=by
 have hmem:∀ x∈l,∃ i,i<l.length/\x=sg (A i):=fun x hx=>by
  obtain ⟨i,hi,e⟩:=List.getElem_of_mem hx
  refine ⟨i,hi,?_⟩
  rw[<- hs i hi,List.getD_eq_getElem?_getD,List.getElem?_eq_getElem hi,e]
  rfl
 rcases hc with hc | hc
 ·have hp:=hA.anz (Int.le_of_lt hw) hX (fun i _=>bG i) hc
  have h0:chg 0 l=0:=ahS (e:=1) (by decide) l 0 (.inl rfl) fun x hx=>by
   obtain ⟨i,hi,e⟩:=hmem x hx
   rw[e,adN (hp i (by omega))];exact .inr rfl
  exact ⟨by omega,fun _=>h0⟩
 ·have hp:=hG.anz (Int.le_of_lt hw) hY (fun i _=>bH i) hc
  have hr:∀ i,i<n+1->0<=A i->0<A (i+1):=fun i hi h0=>hA.rise hw (fun j hj=>hp j (by omega)) i hi h0
  have hm3:∀ x∈l,x=-1∨x=0∨x=1:=fun x hx=>by
   obtain ⟨i,_,e⟩:=hmem x hx
   rw[e]
   rcases aar (A i) with ⟨_,d⟩ | ⟨_,d⟩ | ⟨_,d⟩<;>omega
  have key:=ag0 l 0 (fun e=>by omega) (fun i hi he=>by
   rw[hs i (by omega)] at he
   rw[hs (i+1) hi]
   refine adN (hr i (by omega) ?_)
   rcases aar (A i) with ⟨_,d⟩ | ⟨_,d⟩ | ⟨c,d⟩<;>omega) hm3
  refine ⟨key.1,fun hz=>?_⟩
  rcases hz with hz | hz
  ·have hall:∀ i,i<=n+1->0<=A i:=fun i=>by
    induction i with
    | zero=>intro _;omega
    | succ i ih=>intro hi;have:=hr i (by omega) (ih (by omega));omega
   exact ahS (e:=1) (by decide) l 0 (.inl rfl) fun x hx=>by
    obtain ⟨i,hi,e⟩:=hmem x hx
    have:=hall i (by omega)
    rw[e]
    rcases aar (A i) with ⟨_,d⟩ | ⟨_,d⟩ | ⟨c,d⟩<;>omega
  ·have up:∀ k i,i+k=n+1->0<=A i->0<A (n+1)∨k=0:=fun k=>by
    induction k with
    | zero=>intro i _ _;exact .inr rfl
    | succ k ih =>
      intro i hi h0
      have h1:=hr i (by omega) h0
      rcases ih (i+1) (by omega) (by omega) with h2 | h2
      ·exact .inl h2
      ·refine .inl ?_
       have e:i+1=n+1:=by omega
       rw[<- e];exact h1
   exact ahS (e:=-1) (by decide) l 0 (.inl rfl) fun x hx=>by
    obtain ⟨i,hi,e⟩:=hmem x hx
    rw[e]
    rcases aar (A i) with ⟨_,d⟩ | ⟨_,d⟩ | ⟨c,d⟩
    ·exact .inr d
    ·exact .inl d
    ·rcases up (n+1-i) i (by omega) (by omega) with h2 | h2
     ·omega
     ·have e2:i=n+1:=by omega
      rw[e2] at c;omega
theorem au6 (hA:Rcc (n+1) A (fun i=>w*G i)) (hG:Rcc n G (fun i=>w*H i)) (hw:0<w) (bG:∀ i,-X<=G i/\G i<=X) (bH:∀ i,-Y<=H i/\H i<=Y) (hc:((n+1:Nat):Int)*(w*X)<A 0∨A 0 < -(((n+1:Nat):Int)*(w*X))∨(n:Int)*(w*Y)<G 0∨G 0 < -((n:Int)*(w*Y))) (hl:l.length<=n+2) (hs:∀ i,i<l.length->l.getD i 0=sg (A i)) :
 chg 0 l<=1/\((A 0=0∨A (n+1)=0)->chg 0 l=0):=by
 have hX:0<=X:=by have:=bG 0;omega
 have hY:0<=Y:=by have:=bH 0;omega
 by_cases c:((n+1:Nat):Int)*(w*X)<A 0∨(n:Int)*(w*Y)<G 0
 ·exact aqV hA hG hw hX hY (fun i=>(bG i).1) (fun i=>(bH i).1) c hl hs
 ·have hneg:∀ x:Int,sg (-x)=-sg x:=fun x=>by
   rcases aar x with ⟨a,d⟩ | ⟨a,d⟩ | ⟨a,d⟩
   ·rw[d,adN (by omega)];rfl
   ·rw[a];rfl
   ·rw[d,ahc (by omega)]
  have h:=aqV (l:=l.map fun x=>-x) hA.neg hG.neg hw hX hY (fun i=>by have:=(bG i).2;omega) (fun i=>by have:=(bH i).2;omega) (by omega) (by rw[List.length_map];exact hl) (fun i hi=>by
   rw[List.length_map] at hi
   rw[hneg,<- hs i hi,List.getD_eq_getElem?_getD,List.getD_eq_getElem?_getD,List.getElem?_map,List.getElem?_eq_getElem hi]
   rfl)
  have e:=ajS l 0
  rw[Int.neg_zero] at e
  rw[e] at h
  exact ⟨h.1,fun hz=>h.2 (by omega)⟩
end
end Go.Proofs.YtdimmlckpgpgcaaGreat
namespace Go.Proofs.YtdimmlckpgpgcaaGreat
open Go.RowKit
section
variable {f:List Int} {P Q C D:Int} {n:Nat}
theorem aqW (f:List Int) (P Q D:Int):∀ k,(∀ i,(trs f P Q D k).1.getD i 0=tcf f P Q D k i)/\∀ i,(trs f P Q D k).2.1.getD i 0=pwc D k i
 | 0=>by
   constructor
   ·intro i
    show [f.getD (f.length-1) 0].getD i 0=if i=0 then _ else 0
    cases i with
    | zero=>rfl
    | succ i=>rfl
   ·intro i
    show [(1:Int)].getD i 0=if i=0 then 1 else 0
    cases i with
    | zero=>rfl
    | succ i=>rfl
 | k+1=>by
   obtain ⟨h1,h2⟩:=aqW f P Q D k
   have hp:∀ i,(aag (aaf (trs f P Q D k).2.1) (aaf [D,D])).getD i 0=pwc D (k+1) i:=fun i=>by
    rw[aa0,akT (ajL D D)]
    simp only[aam]
    rw[h2]
    show _=mPQ D D (pwc D k) i
    unfold mPQ
    by_cases c:i=0
    ·rw[if_pos c,if_pos c]
     show pwc D k i*D+0=_
     rw[Int.mul_comm];simp
    ·rw[if_neg c,if_neg c,h2]
     show pwc D k i*D+pwc D k (i-1)*D=_
     rw[Int.mul_comm,Int.mul_comm (pwc D k (i-1))]
   refine ⟨fun i=>?_,hp⟩
   show (aaf (acB (aag (aaf (trs f P Q D k).1) (aaf [P,Q])) (aaf (psc (f.getD (f.length-2-k) 0) (aag (aaf (trs f P Q D k).2.1) (aaf [D,D])))))).getD i 0=mPQ P Q (tcf f P Q D k) i+f.getD (f.length-2-k) 0*pwc D (k+1) i
   rw[aam,aa7,aam,aav,hp,aa0,akT (ajL P Q)]
   simp only[aam]
   rw[h1]
   unfold mPQ
   by_cases c:i=0
   ·rw[if_pos c,if_pos c]
    show tcf f P Q D k i*P+0+_=_
    rw[Int.mul_comm (tcf f P Q D k i)];simp
   ·rw[if_neg c,if_neg c,h1]
    show tcf f P Q D k i*P+tcf f P Q D k (i-1)*Q+_=_
    rw[Int.mul_comm (tcf f P Q D k i),Int.mul_comm (tcf f P Q D k (i-1))]
theorem ajT:∀ k i,k<i->pwc D k i=0
 | 0,i,h=>by show (if i=0 then (1:Int) else 0)=0;rw[if_neg (by omega)]
 | k+1,i,h=>by
   show D*pwc D k i+D*(if i=0 then 0 else pwc D k (i-1))=0
   rw[ajT k i (by omega),if_neg (by omega),ajT k (i-1) (by omega)];simp
theorem anC:∀ k,pwc D k 0=D^k
 | 0=>by show (1:Int)=D^0;rw[Int.pow_zero]
 | k+1=>by
   show D*pwc D k 0+D*(if (0:Nat)=0 then 0 else pwc D k (0-1))=_
   rw[anC k,if_pos rfl,Int.pow_succ,Int.mul_comm];simp
theorem aqX:∀ k,pwc D k k=D^k
 | 0=>by show (1:Int)=D^0;rw[Int.pow_zero]
 | k+1=>by
   show D*pwc D k (k+1)+D*(if k+1=0 then 0 else pwc D k (k+1-1))=_
   rw[ajT k (k+1) (by omega),if_neg (by omega),Nat.add_sub_cancel,aqX k,Int.pow_succ,Int.mul_comm (D^k)];simp
theorem ama:∀ k i,k<i->tcf f P Q D k i=0
 | 0,i,h=>by show (if i=0 then _ else (0:Int))=0;rw[if_neg (by omega)]
 | k+1,i,h=>by
   show P*tcf f P Q D k i+Q*(if i=0 then 0 else tcf f P Q D k (i-1))+f.getD (f.length-2-k) 0*pwc D (k+1) i=0
   rw[ama k i (by omega),if_neg (by omega),ama k (i-1) (by omega),ajT (k+1) i h];simp
theorem anE (hD:0<D) {u:Nat->Int} (h0:u 0=f.getD (f.length-1) 0) (hs:∀ k,k+1<f.length->u (k+1)=C*u k+f.getD (f.length-2-k) 0*D^(k+1)):∀ k,k<f.length->((u k:Int):Rat)=(D:Rat)^k*pv (f.drop (f.length-1-k)) ((C:Rat) / (D:Rat))
 | 0,hk=>by
   rw[h0,List.drop_eq_getElem_cons (by omega),List.drop_of_length_le (by omega),List.getD_eq_getElem?_getD,List.getElem?_eq_getElem (by omega),Rat.pow_zero]
   show (f[f.length-1-0]:Rat)=1*((f[f.length-1-0]:Rat)+_*0)
   grind
 | k+1,hk=>by
   have ih:=anE hD h0 hs k (by omega)
   have e:f.length-1-(k+1)+1=f.length-1-k:=by omega
   have hd:(D:Rat)≠0:=by have:D≠0:=by omega
                         exact_mod_cast this
   rw[hs k hk,List.drop_eq_getElem_cons (by omega),e,Rat.intCast_add,Rat.intCast_mul,Rat.intCast_mul,Rat.intCast_pow,ih,List.getD_eq_getElem?_getD,List.getElem?_eq_getElem (by omega)]
   have e2:f[f.length-1-(k+1)]=f[f.length-2-k]:=by congr 1;omega
   show _=(D:Rat)^(k+1)*((f[f.length-1-(k+1)]:Rat)+(C:Rat) / D*pv (f.drop (f.length-1-k)) ((C:Rat) / D))
   rw[e2,Rat.pow_succ]
   have e3:(C:Rat) / D*D=C:=Rat.div_mul_cancel hd
   generalize (C:Rat) / D=q at *
   generalize pv _ q=y at *
   rw[<- e3]
   show q*D*((D:Rat)^k*y)+((f[f.length-2-k]):Rat)*((D:Rat)^k*D)=_
   generalize (D:Rat)^k=z
   grind
theorem atr (hD:0<D) {u v:Nat->Int} (h0:u 0=f.getD (f.length-1) 0) (hs:∀ k,k+1<f.length->u (k+1)=C*u k+f.getD (f.length-2-k) 0*D^(k+1)) (v0:v 0=0) (vs:∀ k,v (k+1)=u k+C*v k):∀ k,k<f.length->((v k:Int):Rat)*D=(D:Rat)^k*pd (f.drop (f.length-1-k)) ((C:Rat) / (D:Rat))
 | 0,hk=>by
   rw[v0,List.drop_eq_getElem_cons (by omega),List.drop_of_length_le (by omega),Rat.pow_zero]
   show ((0:Int):Rat)*D=1*((0:Rat)+_*0)
   have:((0:Int):Rat)=0:=rfl
   rw[this];grind
 | k+1,hk=>by
   have ih:=atr hD h0 hs v0 vs k (by omega)
   have iu:=anE hD h0 hs k (by omega)
   have e:f.length-1-(k+1)+1=f.length-1-k:=by omega
   have hd:(D:Rat)≠0:=by have:D≠0:=by omega
                         exact_mod_cast this
   rw[vs k,List.drop_eq_getElem_cons (by omega),e,Rat.intCast_add,Rat.intCast_mul,Rat.add_mul,Rat.mul_assoc,ih,iu]
   show _=(D:Rat)^(k+1)*(pv (f.drop (f.length-1-k)) ((C:Rat) / D)+(C:Rat) / D*pd (f.drop (f.length-1-k)) ((C:Rat) / D))
   rw[Rat.pow_succ]
   have e3:(C:Rat) / D*D=C:=Rat.div_mul_cancel hd
   generalize (C:Rat) / D=q at *
   generalize pv _ q=y at *
   generalize pd _ q=z at *
   rw[<- e3]
   generalize (D:Rat)^k=t
   grind
theorem aw0 (hD:0<D) (hf:f.length=n+2):((tcf f P Q D (n+1) 0:Int):Rat)=(D:Rat)^(n+1)*pv f ((P:Rat) / D)/\((gcf f P Q D (n+1) 0:Int):Rat)*D=(D:Rat)^(n+1)*pd f ((P:Rat) / D):=by
 have h0:tcf f P Q D 0 0=f.getD (f.length-1) 0:=rfl
 have hs:∀ k,k+1<f.length->tcf f P Q D (k+1) 0=P*tcf f P Q D k 0+f.getD (f.length-2-k) 0*D^(k+1):=fun k _=>by
  show P*tcf f P Q D k 0+Q*(if (0:Nat)=0 then 0 else tcf f P Q D k (0-1))+f.getD (f.length-2-k) 0*pwc D (k+1) 0=_
  rw[if_pos rfl,anC];simp
 have vs:∀ k,gcf f P Q D (k+1) 0=tcf f P Q D k 0+P*gcf f P Q D k 0:=fun k=>by
  show tcf f P Q D k 0+(P*gcf f P Q D k 0+Q*(if (0:Nat)=0 then 0 else gcf f P Q D k (0-1)))=_
  rw[if_pos rfl];simp
 have e:f.length-1-(n+1)=0:=by omega
 have a:=anE (u:=fun k=>tcf f P Q D k 0) hD h0 hs (n+1) (by omega)
 have b:=atr (u:=fun k=>tcf f P Q D k 0) (v:=fun k=>gcf f P Q D k 0) hD h0 hs rfl vs (n+1) (by omega)
 rw[e,List.drop_zero] at a b
 exact ⟨a,b⟩
theorem aw1 (hD:0<D) (hf:f.length=n+2):((tcf f P Q D (n+1) (n+1):Int):Rat)=(D:Rat)^(n+1)*pv f ((Q:Rat) / D):=by
 have h0:tcf f P Q D 0 0=f.getD (f.length-1) 0:=rfl
 have hs:∀ k,k+1<f.length->tcf f P Q D (k+1) (k+1)=Q*tcf f P Q D k k+f.getD (f.length-2-k) 0*D^(k+1):=fun k _=>by
  show P*tcf f P Q D k (k+1)+Q*(if k+1=0 then 0 else tcf f P Q D k (k+1-1))+f.getD (f.length-2-k) 0*pwc D (k+1) (k+1)=_
  rw[ama k (k+1) (by omega),if_neg (by omega),Nat.add_sub_cancel,aqX];simp
 have e:f.length-1-(n+1)=0:=by omega
 have a:=anE (u:=fun k=>tcf f P Q D k k) hD h0 hs (n+1) (by omega)
 rw[e,List.drop_zero] at a
 exact a
theorem asv (hP:aac (trs f P Q D (f.length-1)).1≠0) (i:Nat):sg ((afO f P Q D).getD i 0)=sg (tcf f P Q D (f.length-1) i):=by
 have h1:=ajK (trs f P Q D (f.length-1)).1 i
 rw[(aqW f P Q D _).1 i] at h1
 have hc:(0:Int)<(aal (trs f P Q D (f.length-1)).1:Int):=by have:=abN hP;omega
 rw[h1,aoC hc]
 show sg ((aaf (ajZ (trs f P Q D (f.length-1)).1)).getD i 0)=_
 rw[aam]
theorem asw (hf:f.length=n+2) (hne:aac (trs f P Q D (f.length-1)).1≠0) {w X Y:Int} (hPQ:w=Q-P) (hw:0<w) (bG:∀ i,-X<=gcf f P Q D (n+1) i/\gcf f P Q D (n+1) i<=X) (bH:∀ i,-Y<=hcf f P Q D (n+1) i/\hcf f P Q D (n+1) i<=Y)
 (hc:((n+1:Nat):Int)*(w*X)<tcf f P Q D (n+1) 0∨tcf f P Q D (n+1) 0 < -(((n+1:Nat):Int)*(w*X))∨(n:Int)*(w*Y)<gcf f P Q D (n+1) 0∨gcf f P Q D (n+1) 0 < -((n:Int)*(w*Y))) :
 agK (afO f P Q D)<=1/\((tcf f P Q D (n+1) 0=0∨tcf f P Q D (n+1) (n+1)=0)->agK (afO f P Q D)=0):=by
 subst hPQ
 have hl:(afO f P Q D).length<=n+2:=by
  have h1:=akV f P Q D (by omega)
  have h2:(afO f P Q D).length=aac (afO f P Q D):=by
   unfold afO
   rw[<- aae,acu]
  omega
 have e:f.length-1=n+1:=by omega
 refine au6 (l:=sgl (afO f P Q D)) (al8 (n+1)) (aqS n) hw bG bH hc (by unfold sgl;rw[List.length_map];exact hl) (fun i hi=>?_)
 have h:=asv hne i
 rw[e] at h
 rw[<- h]
 unfold sgl
 unfold sgl at hi
 rw[List.length_map] at hi
 rw[List.getD_eq_getElem?_getD,List.getElem?_map,List.getElem?_eq_getElem hi,List.getD_eq_getElem?_getD,List.getElem?_eq_getElem hi]
 rfl
end
def drC (n M K:Nat):Nat:=2*((n+1)*((n+1)*((n+1)*((n+1)*(M*(2*K)^n)))))
theorem ag1 {a b:Int} (h:(a:Rat)<(b:Rat)):a<b:=by exact_mod_cast h
section
variable {f:List Int} {P Q D:Int} {n M K:Nat} {δ:Rat}
theorem au7 (hf:f.length=n+2) (hM:∀ j,(f.getD j 0).natAbs<=M) (hK:1<=K) (hD:0<D) (hPQ:P<Q) (bP:P.natAbs<=K*D.natAbs) (bQ:Q.natAbs<=K*D.natAbs) (hne:aac (trs f P Q D (f.length-1)).1≠0)
 (h:δ<=pv f ((P:Rat) / D)∨pv f ((P:Rat) / D)<=-δ∨δ<=pd f ((P:Rat) / D)∨pd f ((P:Rat) / D)<=-δ) (hw:((drC n M K:Nat):Rat)*(((Q-P:Int):Rat) / D)<δ) :
 agK (afO f P Q D)<=1/\((pv f ((P:Rat) / D)=0∨pv f ((Q:Rat) / D)=0)->agK (afO f P Q D)=0):=by
 have hd:(0:Rat)<(D:Rat):=by exact_mod_cast hD
 obtain ⟨B,hB⟩:∃ B,B=K*D.natAbs:=⟨_,rfl⟩
 rw[<- hB] at bP bQ
 have bD:D.natAbs<=B:=by
  rw[hB]
  have:=Nat.mul_le_mul_right D.natAbs hK
  rw[Nat.one_mul] at this
  exact this
 have eB:((2*B:Nat):Rat)=((2*K:Nat):Rat)*(D:Rat):=by
  rw[hB,<- Nat.mul_assoc,Rat.natCast_mul]
  congr 1
  rw[<- Rat.intCast_natCast,show ((D.natAbs:Nat):Int)=D by omega]
 obtain ⟨t1,t2⟩:=aw0 (P:=P) (Q:=Q) hD hf
 have t3:=aw1 (P:=P) (Q:=Q) hD hf
 have hdn:=Rat.pow_pos (n:=n+1) hd
 have hz:∀ {a:Int} {y:Rat},(a:Rat)=(D:Rat)^(n+1)*y->y=0->a=0:=fun {a y} h1 h2=>by
  rw[h2,Rat.mul_zero] at h1
  exact_mod_cast h1
 have w0:(0:Rat)<((Q-P:Int):Rat):=by
  have:0<Q-P:=by omega
  exact_mod_cast this
 obtain ⟨ω,hω⟩:∃ ω:Rat,ω=((Q-P:Int):Rat) / D:=⟨_,rfl⟩
 have eω:((Q-P:Int):Rat)=ω*D:=by rw[hω];exact (Rat.div_mul_cancel (by grind)).symm
 have ω0:0<ω:=by rw[hω,Rat.lt_div_iff hd];grind
 rw[<- hω] at hw
 obtain ⟨E,hE⟩:∃ E:Rat,E=((M*(2*K)^n:Nat):Rat):=⟨_,rfl⟩
 have E0:0<=E:=by rw[hE];exact_mod_cast Nat.zero_le _
 have eC:((drC n M K:Nat):Rat)=2*(((n+1:Nat):Rat)*(((n+1:Nat):Rat)*(((n+1:Nat):Rat)*(((n+1:Nat):Rat)*E)))):=by
  unfold drC
  rw[hE]
  simp only[Rat.natCast_mul]
  rfl
 rw[eC] at hw
 have n1:(1:Rat)<=((n+1:Nat):Rat):=by
  have:1<=n+1:=by omega
  exact_mod_cast this
 have eM:((M*(2*K)^n:Nat):Rat)=((M:Nat):Rat)*((2*K:Nat):Rat)^n:=by rw[Rat.natCast_mul,Rat.natCast_pow]
 have eX:((((n+1)*((n+1)*(M*(2*B)^n)):Nat):Int):Rat)=((n+1:Nat):Rat)*(((n+1:Nat):Rat)*(E*(D:Rat)^n)):=by
  rw[Rat.intCast_natCast,Rat.natCast_mul,Rat.natCast_mul,Rat.natCast_mul,Rat.natCast_pow,eB,agX,hE,eM,Rat.mul_assoc ((M:Nat):Rat)]
 have bG:∀ i,-((((n+1)*((n+1)*(M*(2*B)^n)):Nat):Int))<=gcf f P Q D (n+1) i/\gcf f P Q D (n+1) i<=(((n+1)*((n+1)*(M*(2*B)^n)):Nat):Int):=fun i=>by
  have:=anB (f:=f) bP bQ bD hM n i
  omega
 have big:(((n+1:Nat):Int)*((Q-P)*(((n+1)*((n+1)*(M*(2*B)^n)):Nat):Int)):Int)=((n+1:Nat):Int)*((Q-P)*(((n+1)*((n+1)*(M*(2*B)^n)):Nat):Int)):=rfl
 have cx:((((n+1:Nat):Int)*((Q-P)*(((n+1)*((n+1)*(M*(2*B)^n)):Nat):Int)):Int):Rat)<(D:Rat)^(n+1)*δ:=by
  rw[Rat.intCast_mul,Rat.intCast_mul,eX,eω,Rat.pow_succ,Rat.intCast_natCast]
  generalize ((n+1:Nat):Rat)=N at *
  have avt:=Rat.pow_pos (n:=n) hd
  generalize (D:Rat)^n=Dn at *
  have e1:N*(ω*D*(N*(N*(E*Dn))))=Dn*D*(N*(N*(N*E))*ω):=by grind
  rw[e1]
  refine Rat.mul_lt_mul_of_pos_left ?_ (Rat.mul_pos avt hd)
  have p0:0<=N*(N*(N*E)):=Rat.mul_nonneg (by grind) (Rat.mul_nonneg (by grind) (Rat.mul_nonneg (by grind) E0))
  have p1:N*(N*(N*E))<=N*(N*(N*(N*E))):=by
   have:=Rat.mul_le_mul_of_nonneg_right n1 p0
   grind
  have p2:=Rat.mul_le_mul_of_nonneg_right p1 (Rat.le_of_lt ω0)
  have p3:0<=N*(N*(N*(N*E)))*ω:=Rat.mul_nonneg (by grind) (Rat.le_of_lt ω0)
  grind
 have fin:∀ {Y:Int},(∀ i,-Y<=hcf f P Q D (n+1) i/\hcf f P Q D (n+1) i<=Y)->((((n:Nat):Int)*((Q-P)*Y):Int):Rat)<(D:Rat)^n*δ->agK (afO f P Q D)<=1/\((pv f ((P:Rat) / D)=0∨pv f ((Q:Rat) / D)=0)->agK (afO f P Q D)=0):=by
  intro Y bH cy
  have tg:((gcf f P Q D (n+1) 0:Int):Rat)=(D:Rat)^n*pd f ((P:Rat) / D):=by
   rw[Rat.pow_succ] at t2
   have:(((gcf f P Q D (n+1) 0:Int):Rat)-(D:Rat)^n*pd f ((P:Rat) / D))*D=0:=by grind
   rcases Rat.mul_eq_zero.1 this with e | e<;>grind
  have avt:=Rat.pow_pos (n:=n) hd
  have hcore:=asw hf hne (w:=Q-P) rfl (by omega) bG bH (by
   rcases h with h | h | h | h
   ·refine .inl (ag1 ?_)
    rw[t1]
    have:=Rat.mul_le_mul_of_nonneg_left h (Rat.le_of_lt hdn)
    grind
   ·refine .inr (.inl (ag1 ?_))
    rw[t1,Rat.intCast_neg]
    have:=Rat.mul_le_mul_of_nonneg_left h (Rat.le_of_lt hdn)
    grind
   ·refine .inr (.inr (.inl (ag1 ?_)))
    rw[tg]
    have:=Rat.mul_le_mul_of_nonneg_left h (Rat.le_of_lt avt)
    grind
   ·refine .inr (.inr (.inr (ag1 ?_)))
    rw[tg,Rat.intCast_neg]
    have:=Rat.mul_le_mul_of_nonneg_left h (Rat.le_of_lt avt)
    grind)
  refine ⟨hcore.1,fun hz'=>hcore.2 ?_⟩
  rcases hz' with e | e
  ·exact .inl (hz t1 e)
  ·exact .inr (hz t3 e)
 match n with
 | 0 =>
   refine fin (Y:=0) (fun i=>?_) ?_
   ·have e0:hcf f P Q D (0+1) i=0:=by
     show 2*(0:Int)+mPQ P Q (fun _=>0) i=0
     rw[agY];rfl
    rw[e0];omega
   ·have δ0:0<δ:=by
     have p3:0<=2*(((0+1:Nat):Rat)*(((0+1:Nat):Rat)*(((0+1:Nat):Rat)*(((0+1:Nat):Rat)*E))))*ω:=Rat.mul_nonneg (by grind) (Rat.le_of_lt ω0)
     grind
    rw[Int.mul_zero,Int.mul_zero,Rat.pow_zero,Rat.one_mul]
    exact δ0
 | m+1 =>
   refine fin (Y:=((2*((m+1)*((m+1)*((m+1)*(M*(2*B)^m)))):Nat):Int)) (fun i=>?_) ?_
   ·have h9:(hcf f P Q D (m+1+1) i).natAbs<=2*((m+1)*((m+1)*((m+1)*(M*(2*B)^m)))):=atq (f:=f) bP bQ bD hM m i
    generalize 2*((m+1)*((m+1)*((m+1)*(M*(2*B)^m))))=U at *
    omega
   ·have eE:E=((2*K:Nat):Rat)*((M*(2*K)^m:Nat):Rat):=by
     rw[hE,Nat.pow_succ,<- Rat.natCast_mul]
     congr 1
     rw[<- Nat.mul_assoc,Nat.mul_comm]
    have eN:((M*(2*K)^m:Nat):Rat)=((M:Nat):Rat)*((2*K:Nat):Rat)^m:=by rw[Rat.natCast_mul,Rat.natCast_pow]
    have eY:(((2*((m+1)*((m+1)*((m+1)*(M*(2*B)^m)))):Nat):Int):Rat)=2*(((m+1:Nat):Rat)*(((m+1:Nat):Rat)*(((m+1:Nat):Rat)*(((M*(2*K)^m:Nat):Rat)*(D:Rat)^m)))):=by
     rw[Rat.intCast_natCast,Rat.natCast_mul,Rat.natCast_mul,Rat.natCast_mul,Rat.natCast_mul,Rat.natCast_mul,Rat.natCast_pow,eB,agX,eN,Rat.mul_assoc ((M:Nat):Rat)]
     rfl
    rw[Rat.intCast_mul,Rat.intCast_mul,eY,eω,Rat.pow_succ,Rat.intCast_natCast]
    have F0:(0:Rat)<=((M*(2*K)^m:Nat):Rat):=by exact_mod_cast Nat.zero_le _
    have k2:(1:Rat)<=((2*K:Nat):Rat):=by
     have:1<=2*K:=by omega
     exact_mod_cast this
    have m1:(1:Rat)<=((m+1:Nat):Rat):=by
     have:1<=m+1:=by omega
     exact_mod_cast this
    have m2:((m+1:Nat):Rat)<=((m+1+1:Nat):Rat):=by
     have:m+1<=m+1+1:=by omega
     exact_mod_cast this
    have avt:=Rat.pow_pos (n:=m) hd
    generalize ((M*(2*K)^m:Nat):Rat)=F at *
    generalize ((2*K:Nat):Rat)=Z at *
    generalize ((m+1:Nat):Rat)=N at *
    generalize ((m+1+1:Nat):Rat)=N' at *
    generalize (D:Rat)^m=Dm at *
    have e1:N*(ω*D*(2*(N*(N*(N*(F*Dm))))))=Dm*D*(2*(N*(N*(N*(N*F))))*ω):=by grind
    rw[e1]
    refine Rat.mul_lt_mul_of_pos_left ?_ (Rat.mul_pos avt hd)
    have FE:F<=E:=by
     rw[eE]
     have:=Rat.mul_le_mul_of_nonneg_right k2 F0
     grind
    have up:∀ {a b:Rat},0<=a->a<=b->N*a<=N'*b:=fun {a b} h0 h1=>by
     have x1:=Rat.mul_le_mul_of_nonneg_left h1 (show 0<=N by grind)
     have x2:=Rat.mul_le_mul_of_nonneg_right m2 (show 0<=b by grind)
     grind
    have q1:=up F0 FE
    have q2:=up (Rat.mul_nonneg (show 0<=N by grind) F0) q1
    have q3:=up (Rat.mul_nonneg (show 0<=N by grind) (Rat.mul_nonneg (show 0<=N by grind) F0)) q2
    have q4:=up (Rat.mul_nonneg (show 0<=N by grind) (Rat.mul_nonneg (show 0<=N by grind) (Rat.mul_nonneg (show 0<=N by grind) F0))) q3
    have q5:=Rat.mul_le_mul_of_nonneg_right q4 (Rat.le_of_lt ω0)
    grind
end
end Go.Proofs.YtdimmlckpgpgcaaGreat
namespace Go.Proofs.YtdimmlckpgpgcaaGreat
open Go.RowKit
def dvr (Q:List Int) (a b:Fq):Int:=agK (abA Q a.q b.q a.z b.z)
def dsl (Q:List Int):Nat->Fq->Fq->List (Fq×Fq)
 | 0,_,_=>[]
 | n+1,a,b =>
   if dvr Q a b=0 then []
   else if dvr Q a b=1/\a.sgn Q≠0/\b.sgn Q≠0 then [(a.nf,b.nf)]
   else dsl Q n a (a.mid b) ++ (if (a.mid b).sgn Q=0 then [((a.mid b).nf,(a.mid b).nf)] else []) ++ dsl Q n (a.mid b) b
def asx (Q:List Int):Nat->Fq->Fq->Prop
 | 0,_,_=>False
 | n+1,a,b=>dvr Q a b=0∨(dvr Q a b=1/\a.sgn Q≠0/\b.sgn Q≠0)∨(asx Q n a (a.mid b)/\asx Q n (a.mid b) b)
section
variable {Q:List Int} {k:Nat}
theorem ajU {a b:Fq} (ha:0<a.q) (hb:0<b.q) (h:a.v<b.v):a.z*(b.q:Int)<b.z*(a.q:Int):=(ajr ha hb).1 h
theorem anF (h:SqF Q k) {a b:Fq} (ha:0<a.q) (hb:0<b.q) (hab:a.v<b.v) {xs:List Pt} (hx:Op Q a.p b.p xs):(xs.length:Int)<=dvr Q a b/\(dvr Q a b=1->xs.length=1) :=
 asu h.q0 h.t ha hb (ajU ha hb hab) hx
theorem ajV (h:SqF Q k):∀ (n:Nat) (a b:Fq),0<a.q->0<b.q->a.v<b.v->asx Q n a b->∀ xs,Op Q a.p b.p xs->Isl Q xs (dsl Q n a b) a.v b.v
 | 0,_,_,_,_,_,hok,_,_=>hok.elim
 | n+1,a,b,ha,hb,hab,hok,xs,hx=>by
   obtain ⟨hc,hc1⟩:=anF h ha hb hab hx
   rw[dsl]
   unfold asx at hok
   by_cases c1:dvr Q a b=0
   ·rw[if_pos c1]
    have e:xs=[]:=List.eq_nil_of_length_eq_zero (by omega)
    rw[e]
    exact .nil _ _ (by grind)
   rw[if_neg c1]
   by_cases c2:dvr Q a b=1/\a.sgn Q≠0/\b.sgn Q≠0
   ·rw[if_pos c2]
    have hl1:=hc1 c2.1
    obtain ⟨x,rfl⟩:∃ x,xs=[x]:=by
     match xs,hl1 with
     | [x],_=>exact ⟨x,rfl⟩
     | x :: y :: r,h=>exact absurd h (by rw[List.length_cons,List.length_cons];omega)
    have hxm:=(hx.2 x).1 (by simp)
    have na:=Fq.aom ha
    have nb:=Fq.aom hb
    have pa:a.nf.p=a.p:=by unfold Fq.p;rw[na.1]
    have pb:b.nf.p=b.p:=by unfold Fq.p;rw[nb.1]
    refine .cons (c:=b.v) ⟨na.2,nb.2,.inr ⟨by rw[na.1,nb.1];exact hab,?_,?_,?_,?_,?_⟩⟩ (by rw[na.1];exact Rat.le_refl) (by rw[nb.1];exact Rat.le_refl) (.nil _ _ Rat.le_refl)
    ·show sgp Q a.nf.p≠0
     rw[pa,show sgp Q a.p=a.sgn Q from (aeg ha Q).symm];exact c2.2.1
    ·show sgp Q b.nf.p≠0
     rw[pb,show sgp Q b.p=b.sgn Q from (aeg hb Q).symm];exact c2.2.2
    ·show a.nf.p<x
     rw[pa];exact hxm.2.1
    ·show x<b.nf.p
     rw[pb];exact hxm.2.2
    ·intro y hy hy1 hy2
     have hy1':a.p<y:=by rw[<- pa];exact hy1
     have ayg:y<b.p:=by rw[<- pb];exact hy2
     have:=(hx.2 y).2 ⟨hy,hy1',ayg⟩
     simpa using this
   rw[if_neg c2]
   obtain ⟨k1,k2⟩:=(hok.resolve_left c1).resolve_left c2
   obtain ⟨mv,mq⟩:=Fq.aqm ha hb
   have ham:a.v<(a.mid b).v:=by rw[mv];grind
   have hmb:(a.mid b).v<b.v:=by rw[mv];grind
   obtain ⟨m,hm⟩:∃ m,m=a.mid b:=⟨_,rfl⟩
   rw[<- hm] at k1 k2 mq ham hmb ⊢
   obtain ⟨us,hu⟩:=abj h.q0 (fun x=>a.p<x/\x<m.p)
   obtain ⟨vs,hv⟩:=abj h.q0 (fun x=>m.p<x/\x<b.p)
   have i1:=ajV h n a m ha mq ham k1 us hu
   have i2:=ajV h n m b mq hb hmb k2 vs hv
   have p1:a.p<m.p:=Pt.of_le ham
   have p2:m.p<b.p:=Pt.of_le hmb
   have hms:m.sgn Q=sgp Q m.p:=aeg mq Q
   rw[hms]
   by_cases c3:sgp Q m.p=0
   ·rw[if_pos c3]
    have nm:=Fq.aom mq
    have pm:m.nf.p=m.p:=by unfold Fq.p;rw[nm.1]
    have hw:Op Q a.p b.p (us ++ [m.p] ++ vs):=by
     have hu2:Lst (fun x=>(sgp Q x=0/\a.p<x)/\x<m.p) us:=hu.congr fun x=>by rw[and_assoc]
     have hu3:=hu2.ajd ⟨c3,p1⟩
     refine (Lst.append hu3 hv fun x y h1 h2=>?_).congr fun x=>?_
     ·rcases h1.2 with h3 | h3
      ·exact Pt.lt_trans h3 h2.2.1
      ·rw[h3];exact h2.2.1
     ·constructor
      ·rintro (⟨⟨h1,h2⟩,h3⟩ | ⟨h1,h2,h3⟩)
       ·refine ⟨h1,h2,?_⟩
        rcases h3 with h3 | h3
        ·exact Pt.lt_trans h3 p2
        ·rw[h3];exact p2
       ·exact ⟨h1,Pt.lt_trans p1 h2,h3⟩
      ·rintro ⟨h1,h2,h3⟩
       rcases Pt.tri x m.p with e | e | e
       ·exact .inl ⟨⟨h1,h2⟩,.inl e⟩
       ·exact .inl ⟨⟨h1,h2⟩,.inr e⟩
       ·exact .inr ⟨h1,e,h3⟩
    rw[hx.uniq hw]
    refine (i1.append (.cons (c:=m.v) ⟨nm.2,nm.2,.inl ⟨rfl,pm.symm⟩⟩ (by rw[nm.1];exact Rat.le_refl) (by rw[nm.1];exact Rat.le_refl) (.nil _ _ Rat.le_refl))).append i2
   ·rw[if_neg c3,List.append_nil]
    have hw:Op Q a.p b.p (us ++ vs):=by
     refine (Lst.append hu hv fun x y h1 h2=>Pt.lt_trans h1.2.2 h2.2.1).congr fun x=>?_
     constructor
     ·rintro (⟨h1,h2,h3⟩ | ⟨h1,h2,h3⟩)
      ·exact ⟨h1,h2,Pt.lt_trans h3 p2⟩
      ·exact ⟨h1,Pt.lt_trans p1 h2,h3⟩
     ·rintro ⟨h1,h2,h3⟩
      rcases Pt.tri x m.p with e | e | e
      ·exact .inl ⟨h1,h2,e⟩
      ·exact absurd (e ▸ h1) c3
      ·exact .inr ⟨h1,e,h3⟩
    rw[hx.uniq hw]
    exact i1.append i2
theorem amb {p:List Int} {q:Rat} (h:sgp p (Pt.of q)=0):pv p q=0:=by
 have e:sgp p (Pt.of q)=if 0<pv p q then 1 else if pv p q<0 then -1 else 0:=afD (adt p) q
 rw[e] at h
 by_cases c:0<pv p q
 ·rw[if_pos c] at h;exact absurd h (by decide)
 ·rw[if_neg c] at h
  by_cases d:pv p q<0
  ·rw[if_pos d] at h;exact absurd h (by decide)
  ·grind
noncomputable def dsC (n k K:Nat):Rat:=((drC n (BB^k) K:Nat):Rat)*(20*((BB^(20*(k+4)):Nat):Rat)*((K:Nat):Rat)^10)
theorem au8 (h:SqF Q k) (hk:k<=50) (hl:2<=aac Q) (hc:∀ p,Dvq p Q->Dvq p (aau Q)->aac p<=1) {K:Nat} (hK:1<=K) {q:Rat} (q1:-((K:Nat):Rat)<=q) (q2:q<=((K:Nat):Rat)):∃ δ:Rat,0<δ/\1<=δ*(20*((BB^(20*(k+4)):Nat):Rat)*((K:Nat):Rat)^10)/\(δ<=pv Q q∨pv Q q<=-δ∨δ<=pd Q q∨pd Q q<=-δ):=by
 have hM:(1:Rat)<=((K:Nat):Rat):=by exact_mod_cast hK
 obtain ⟨BU,hBU⟩:∃ B,B=10*((BB^(20*(k+4)):Nat):Rat)*((K:Nat):Rat)^10:=⟨_,rfl⟩
 have aAz:1<=BU:=by
  have:(1:Rat)<=((BB^(20*(k+4)):Nat):Rat):=by
   have:1<=BB^(20*(k+4)):=Nat.pow_pos aaI
   exact_mod_cast this
  have ayf:=ado hM 10
  rw[hBU]
  have:=Rat.mul_le_mul_of_nonneg_left ayf (show 0<=10*((BB^(20*(k+4)):Nat):Rat) by grind)
  grind
 have e20:20*((BB^(20*(k+4)):Nat):Rat)*((K:Nat):Rat)^10=2*BU:=by rw[hBU];grind
 rw[e20]
 obtain ⟨δ,hδ⟩:∃ δ:Rat,δ=1 / (2*BU):=⟨_,rfl⟩
 have hδ1:δ*(2*BU)=1:=by rw[hδ];exact Rat.div_mul_cancel (by grind)
 have hδ0:0<δ:=by rw[hδ,Rat.div_def,Rat.one_mul];exact Rat.inv_pos.2 (by grind)
 refine ⟨δ,hδ0,by rw[hδ1];exact Rat.le_refl,?_⟩
 by_cases c2:aac Q=2
 ·have h1:aac (aau Q)<=1:=by have:=acn hl;omega
  have hz:(aau Q).getD 0 0≠0:=fun e0=>by
   have h:=aax (p:=aau Q) (n:=0) fun j _=>by
    match j with
    | 0=>exact e0
    | j+1=>exact aah _ _ (by omega)
   have:=acn hl
   omega
  have hv:pd Q q=(((aau Q).getD 0 0:Int):Rat):=by
   rw[<- afk,abY (aau Q) [(aau Q).getD 0 0] (fun j=>by
    match j with
    | 0=>rfl
    | j+1=>exact aah _ _ (by omega)) q]
   show _+q*0=_
   grind
  have hd1:δ<=1:=by
   have:=Rat.mul_le_mul_of_nonneg_left (show (1:Rat)<=2*BU by grind) (Rat.le_of_lt hδ0)
   grind
  rw[hv]
  rcases Int.lt_or_lt_of_ne hz with h2 | h2
  ·refine .inr (.inr (.inr ?_))
   have:(((aau Q).getD 0 0:Int):Rat)<=((-1:Int):Rat):=Rat.intCast_le_intCast.2 (by omega)
   have e:((-1:Int):Rat)=-1:=rfl
   grind
  ·refine .inr (.inr (.inl ?_))
   have:((1:Int):Rat)<=(((aau Q).getD 0 0:Int):Rat):=Rat.intCast_le_intCast.2 (by omega)
   have e:((1:Int):Rat)=1:=rfl
   grind
 ·have hd:∀ j,((aaf (aau Q)).getD j 0).natAbs<=BB^(k+1):=fun j=>by
   rw[aam];exact adg (by have:=h.len;omega) h.b j
  have hpl:=acn hl
  obtain ⟨U,V,c,c0,u1,u2,u3,u4,u5⟩:=azF (S:=Q) (T:=aaf (aau Q)) (k:=k+1) h.t (by rw[acu]) hl (by rw[abb];omega) h.len (by rw[abb];have:=h.len;omega) (fun j=>Nat.le_trans (h.b j) (abf (by omega))) hd (by omega) (fun p p1 p2=>hc p p1 (by
   obtain ⟨c,q,hc0,e⟩:=p2
   exact ⟨c,q,hc0,fun x=>by rw[<- e x,aeY]⟩))
  have hs:pv U q*pv Q q+pv V q*pd Q q=(c:Rat):=by
   have e1:=abY (acB (aag U Q) (aag V (aau Q))) [c] (abJ (fun x=>by rw[abU,aat,aat,aaY,<- u5 x,aeY])) q
   rw[adL,abl,abl,afk] at e1
   rw[e1]
   show (c:Rat)+q*0=c
   grind
  obtain ⟨b1,b2⟩:=ajv hM u1 u3 q (by grind) (by grind)
  obtain ⟨b3,b4⟩:=ajv hM u2 u4 q (by grind) (by grind)
  rw[show k+1+3=k+4 by omega,<- hBU] at b1 b2 b3 b4
  refine Classical.byContradiction fun hn=>?_
  have n1:pv Q q<δ:=by
   rcases adI (pv Q q) δ with c | c
   ·exact c
   ·exact absurd (.inl c) hn
  have n2:-δ<pv Q q:=by
   rcases adI (-δ) (pv Q q) with c | c
   ·exact c
   ·exact absurd (.inr (.inl c)) hn
  have n3:pd Q q<δ:=by
   rcases adI (pd Q q) δ with c | c
   ·exact c
   ·exact absurd (.inr (.inr (.inl c))) hn
  have n4:-δ<pd Q q:=by
   rcases adI (-δ) (pd Q q) with c | c
   ·exact c
   ·exact absurd (.inr (.inr (.inr c))) hn
  -- the largest of both in absolute value
  obtain ⟨η,h1,h2,h3,h4,h5⟩:∃ η:Rat,η<δ/\pv Q q<=η/\-η<=pv Q q/\pd Q q<=η/\-η<=pd Q q:=by
   obtain ⟨x,hx⟩:∃ x,x=pv Q q:=⟨_,rfl⟩
   obtain ⟨y,hy⟩:∃ y,y=pd Q q:=⟨_,rfl⟩
   rw[<- hx] at n1 n2 ⊢
   rw[<- hy] at n3 n4 ⊢
   obtain ⟨u,hu1,hu2,hu3⟩:∃ u:Rat,u<δ/\x<=u/\-u<=x:=by
    rcases adI x (-x) with c | c
    ·exact ⟨-x,by grind,by grind,by grind⟩
    ·exact ⟨x,by grind,by grind,by grind⟩
   obtain ⟨v,hv1,hv2,hv3⟩:∃ v:Rat,v<δ/\y<=v/\-v<=y:=by
    rcases adI y (-y) with c | c
    ·exact ⟨-y,by grind,by grind,by grind⟩
    ·exact ⟨y,by grind,by grind,by grind⟩
   rcases adI u v with c | c
   ·exact ⟨v,hv1,by grind,by grind,hv2,hv3⟩
   ·exact ⟨u,hu1,hu2,hu3,by grind,by grind⟩
  have m1:=adK (a:=pv U q) (b:=pv Q q) (e:=BU) (k:=η) b1 b2 h3 h2
  have m2:=adK (a:=pv V q) (b:=pd Q q) (e:=BU) (k:=η) b3 b4 h5 h4
  have hlt:BU*η<BU*δ:=Rat.mul_lt_mul_of_pos_left h1 (by grind)
  have hcc:(1:Rat)<=(c:Rat)∨(c:Rat)<=-1:=by
   rcases Int.lt_or_lt_of_ne c0 with h1 | h1
   ·right
    have:((c:Int):Rat)<=((-1:Int):Rat):=Rat.intCast_le_intCast.2 (by omega)
    exact this
   ·left
    have:((1:Int):Rat)<=((c:Int):Rat):=Rat.intCast_le_intCast.2 (by omega)
    exact this
  rcases hcc with h6 | h6<;>grind
theorem au9 (h:SqF Q k) (hk:k<=50) {n:Nat} (hl:aac Q=n+2) (hc:∀ p,Dvq p Q->Dvq p (aau Q)->aac p<=1) {K:Nat} (hK:1<=K) {a b:Fq} (ha:0<a.q) (hb:0<b.q) (hab:a.v<b.v) (aK:-((K:Nat):Rat)<=a.v) (bK:b.v<=((K:Nat):Rat)) (hw:dsC n k K*(b.v-a.v)<1):dvr Q a b<=1/\((a.sgn Q=0∨b.sgn Q=0)->dvr Q a b=0):=by
 have hlt:=ajU ha hb hab
 have e0:=aeZ h.q0 hlt h.t
 obtain ⟨c1,c2,c3⟩:=asj a.z b.z ha hb
 have hP:=asl ha hb hlt
 have r0:((cdP a.q b.q a.z b.z:Int):Rat) / ((cdD a.q b.q a.z b.z:Int):Rat)=a.v:=ajQ ha c1 c2
 have r1:((cdQ a.q b.q a.z b.z:Int):Rat) / ((cdD a.q b.q a.z b.z:Int):Rat)=b.v:=ajQ hb c1 c3
 have hfl:Q.length=n+2:=by rw[<- h.t,aae];exact hl
 unfold dvr
 rw[e0]
 have hne:aac (trs Q (cdP a.q b.q a.z b.z) (cdQ a.q b.q a.z b.z) (cdD a.q b.q a.z b.z) (Q.length-1)).1≠0:=asi (agW h.q0 h.t) hP _
 generalize cdP a.q b.q a.z b.z=P at *
 generalize cdQ a.q b.q a.z b.z=R at *
 generalize cdD a.q b.q a.z b.z=D at *
 have hD:(0:Rat)<(D:Rat):=by exact_mod_cast c1
 have eP:(P:Rat)=a.v*D:=by rw[<- r0];exact (Rat.div_mul_cancel (by grind)).symm
 have eR:(R:Rat)=b.v*D:=by rw[<- r1];exact (Rat.div_mul_cancel (by grind)).symm
 have hPR:P<R:=by
  have:(P:Rat)<(R:Rat):=by rw[eP,eR];exact Rat.mul_lt_mul_of_pos_right hab hD
  exact_mod_cast this
 have bnd:∀ {C:Int} {y:Rat},(C:Rat)=y*D->-((K:Nat):Rat)<=y->y<=((K:Nat):Rat)->C.natAbs<=K*D.natAbs:=fun {C y} e y1 y2=>by
  have z1:=Rat.mul_le_mul_of_nonneg_right y1 (Rat.le_of_lt hD)
  have z2:=Rat.mul_le_mul_of_nonneg_right y2 (Rat.le_of_lt hD)
  rw[<- e] at z1 z2
  have z3:-((K:Int)*D)<=C:=by
   have:((-((K:Int)*D):Int):Rat)<=(C:Rat):=by
    rw[Rat.intCast_neg,Rat.intCast_mul,Rat.intCast_natCast];grind
   exact_mod_cast this
  have z4:C<=(K:Int)*D:=by
   have:(C:Rat)<=(((K:Int)*D:Int):Rat):=by
    rw[Rat.intCast_mul,Rat.intCast_natCast];exact z2
   exact_mod_cast this
  have z5:((K*D.natAbs:Nat):Int)=(K:Int)*D:=by
   rw[Int.natCast_mul,show ((D.natAbs:Nat):Int)=D by omega]
  omega
 obtain ⟨δ,hδ,hδ2,hor⟩:=au8 h hk (by omega) hc hK (q:=a.v) aK (by grind)
 rw[<- r0] at hor
 have hw':((drC n (BB^k) K:Nat):Rat)*(((R-P:Int):Rat) / D)<δ:=by
  have e:((R-P:Int):Rat) / D=b.v-a.v:=by
   rw[Rat.intCast_sub,eP,eR]
   have:b.v*D-a.v*D=(b.v-a.v)*D:=by grind
   rw[this]
   rw[Rat.div_def,Rat.mul_assoc,Rat.mul_inv_cancel _ (by grind),Rat.mul_one]
  rw[e]
  unfold dsC at hw
  generalize 20*((BB^(20*(k+4)):Nat):Rat)*((K:Nat):Rat)^10=Z at *
  have hZ:0<Z:=by
   rcases adI 0 Z with c | c
   ·exact c
   ·have:=Rat.mul_le_mul_of_nonneg_left c (Rat.le_of_lt hδ)
    grind
  generalize ((drC n (BB^k) K:Nat):Rat)=X at *
  have h1:(X*(b.v-a.v))*Z<δ*Z:=by grind
  exact Rat.lt_of_mul_lt_mul_right h1 (Rat.le_of_lt hZ)
 have fin:=au7 (f:=Q) (P:=P) (Q:=R) (D:=D) (n:=n) (M:=BB^k) (K:=K) (δ:=δ) hfl h.b hK c1 hPR (bnd eP aK (by grind)) (bnd eR (by grind) bK) hne hor hw'
 refine ⟨fin.1,fun hz=>fin.2 ?_⟩
 have zer:∀ {c:Fq},0<c.q->c.sgn Q=0->pv Q c.v=0:=fun {c} hc0 e=>by
  have e2:sgp Q (Pt.of c.v)=0:=by rw[<- e];exact (aeg hc0 Q).symm
  exact amb e2
 rcases hz with e | e
 ·left;rw[r0];exact zer ha e
 ·right;rw[r1];exact zer hb e
theorem ava (h:SqF Q k) (hk:k<=50) {m:Nat} (hl:aac Q=m+2) (hc:∀ p,Dvq p Q->Dvq p (aau Q)->aac p<=1) {K:Nat} (hK:1<=K):∀ (n:Nat) (a b:Fq),0<a.q->0<b.q->a.v<b.v->-((K:Nat):Rat)<=a.v->b.v<=((K:Nat):Rat)->dsC m k K*(b.v-a.v)<(2:Rat)^n->asx Q (n+1) a b
 | 0,a,b,ha,hb,hab,aK,bK,hw=>by
   rw[Rat.pow_zero] at hw
   obtain ⟨l1,l2⟩:=au9 h hk hl hc hK ha hb hab aK bK hw
   obtain ⟨xs,hx⟩:=abj h.q0 (fun x=>a.p<x/\x<b.p)
   have h0:=(anF h ha hb hab hx).1
   unfold asx
   by_cases c:dvr Q a b=0
   ·exact .inl c
   ·exact .inr (.inl ⟨by omega,fun e=>c (l2 (.inl e)),fun e=>c (l2 (.inr e))⟩)
 | n+1,a,b,ha,hb,hab,aK,bK,hw=>by
   obtain ⟨mv,mq⟩:=Fq.aqm ha hb
   unfold asx
   rw[Rat.pow_succ] at hw
   refine .inr (.inr ⟨?_,?_⟩)
   ·refine ava h hk hl hc hK n a (a.mid b) ha mq (by rw[mv];grind) aK (by rw[mv];grind) ?_
    have e:(a.mid b).v-a.v=(b.v-a.v) / 2:=by rw[mv];grind
    rw[e]
    grind
   ·refine ava h hk hl hc hK n (a.mid b) b mq hb (by rw[mv];grind) (by rw[mv];grind) bK ?_
    have e:b.v-(a.mid b).v=(b.v-a.v) / 2:=by rw[mv];grind
    rw[e]
    grind
end
end Go.Proofs.YtdimmlckpgpgcaaGreat
namespace Go.Proofs.YtdimmlckpgpgcaaGreat
open Go Go.RowKit
set_option maxRecDepth 100000 in
set_option maxHeartbeats 4000000 in
theorem amc (gs:Nat) (Ap:Option Addr) (lp cp:Nat) (F:Value) (f:List Int) (n:Bool) (A:Option Addr) (l c:Nat) (B:Option Addr) (m d:Nat) (a:Fq) (w:World)
 (hs:Blk w gs 55 #[.slice Ap lp cp,F]) (hp:aaR w Ap lp cp f) (hl:lp<=1000000) (hz:aaE w n A l c a.z) (hq:aaW w B m d a.q) (ha:FqB a) (po:alN a.z a.q f) :
 Calls Tryz.prog 21 #[.pointer (some ⟨gs,0,none⟩),.agg #[.bool n,.slice A l c,.slice B m d]] w fun e w'=>e=.returned (.bool (decide (a.sgn f=0)))/\Below w.heap.size w w':=by
 have o1:=aak w (aaV n A l c B m d)
 have r1:=abV.make hz hq
 have h1:=hs.below o1 hs.lt
 have hp1:=hp.below ikN o1
 have hlt:=hs.lt
 have x0:=(h1.cell 0).trans rfl
 have R1:=Lh r1
 have HP:=Lh hp1
 have Hb:=Lh o1
 have HA:=Lh po
 have HB:=Lh ha
 have e1:=r1.c0
 have e2:=r1.c1
 have e3:=r1.c2
 obtain ⟨X,hX⟩:∃ X,X=a.sgn f:=⟨_,rfl⟩
 rw[<- hX]
 have HX:=Lh hX
 clear o1 r1 hs hp hz hq h1 hp1 ha po hX
 go_enter Tryz.func21,Tryz.ntmps21
 go_wp2_with fail
 go_region_held3 (fun w'=>w'.cell? ⟨gs,0,none⟩=some (.slice Ap lp cp)/\w'.cell? ⟨w.heap.size,0,none⟩=some (.bool n)/\w'.cell? ⟨w.heap.size,1,none⟩=some (.slice A l c)/\w'.cell? ⟨w.heap.size,2,none⟩=some (.slice B m d)) (go_keep) (first
  | (go_at_call 48;go_must (refine (acA ikN _ _ _ _ _ _ _ _ _ _ _ _ _ _ ?_ HA.out.fit hl ?_ ?_ HB.out.fz HB.out.fq HB.out.p HA.out.ok HB.out.at.fz HB.out.at.fq).mono ?_;(exact HP.out.below ikN Bel.go);(exact R1.out.hz.below Bel.go);(exact R1.out.hq.below Bel.go);rintro e w8 ⟨rfl,hb8⟩;rw[show sg (aoH f (a.z.tdiv (Nat.gcd a.z.natAbs a.q)) ((a.q / Nat.gcd a.z.natAbs a.q:Nat):Int))=X from HX.out.symm];have Hb8:=Lh (Hb.out.trans ((Below.trans Bel.go (hb8.mono (by simp<;>omega))).mono Hb.out.size));obtain ⟨hcx,hfx⟩:=aap hb8;have v0:w8.cell? ⟨gs,0,none⟩=some (.slice Ap lp cp):=(hcx _ (by go_simp)).trans (by go_simp);have v1:w8.cell? ⟨w.heap.size,0,none⟩=some (.bool n):=(hcx _ (by go_simp)).trans (by go_simp);have v2:w8.cell? ⟨w.heap.size,1,none⟩=some (.slice A l c):=(hcx _ (by go_simp)).trans (by go_simp);have v3:w8.cell? ⟨w.heap.size,2,none⟩=some (.slice B m d):=(hcx _ (by go_simp)).trans (by go_simp);clear hcx hfx hb8)))
 go_wp2
 go_ret
 exact ⟨rfl,Hb8.out⟩
structure DsF (Q:List Int) (a b:Fq):Prop where
 fa:FqB a
 fb:FqB b
 ok:auW Q a.q b.q a.z b.z
 sm:SmP (abA Q a.q b.q a.z b.z)
 ln:(abA Q a.q b.q a.z b.z).length<=1000000
def avv (Q:List Int):Nat->Fq->Fq->Prop
 | 0,_,_=>False
 | n+1,a,b=>DsF Q a b/\(dvr Q a b=0∨(dvr Q a b=1/\a.sgn Q≠0/\b.sgn Q≠0)∨(FqB (a.mid b)/\avv Q n a (a.mid b)/\avv Q n (a.mid b) b))
structure avb (Q:List Int) (W0:World) (gs:Nat) (Ap:Option Addr) (lp cp:Nat):Prop where
 hp:aaR W0 Ap lp cp Q
 lp:lp<=900000
 gs:W0.heap.size<=gs
 fit:abH Q
 eq:∀ z:Int,∀ q:Nat,z.natAbs<=ZB->q<=ZB->alN z q Q
def agp (Q:List Int) (W0:World) (gs:Nat) (Ap:Option Addr) (lp cp:Nat) (a b:Fq) (rt:List (Fq×Fq)):Prop :=
 ∀ (F:Value) (rs:List (Fq×Fq)) (n:Bool) (A:Option Addr) (l c:Nat) (B:Option Addr) (m d:Nat) (n':Bool) (A':Option Addr) (l' c':Nat) (B':Option Addr) (m' d':Nat) (za zb:Bool),za=decide (a.sgn Q=0)->zb=decide (b.sgn Q=0)->∀ (w:World),rs.length+rt.length<=1000000->Below W0.heap.size W0 w->Blk w gs 55 #[.slice Ap lp cp,F]->afq W0.heap.size gs w F rs ->
   aaE w n A l c a.z->aaW w B m d a.q->aaE w n' A' l' c' b.z->aaW w B' m' d' b.q ->
   Calls Tryz.prog 20 #[.pointer (some ⟨gs,0,none⟩),.agg #[.bool n,.slice A l c,.slice B m d],.agg #[.bool n',.slice A' l' c',.slice B' m' d'],.bool za,.bool zb] w
    fun e w'=>(∃ v,e=.returned v)/\∃ F',Blk w' gs 55 #[.slice Ap lp cp,F']/\afq W0.heap.size gs w' F' (rs ++ rt)/\FrS gs (fbk gs F) w w'/\(fbk gs F'=fbk gs F∨w.heap.size<=fbk gs F')
theorem agF.fin2 {B gs t:Nat} {rs:List (Fq×Fq)} {r:Fq×Fq} {w0 w w':World} {F F' P:Value} (h:agF B gs w F rs r F' w') (hb:Blk w gs t #[P,F]) (hP:NoDigit P) (hF:NoDigit F) (hw:Below w0.heap.size w0 w) :
 Blk (w'.setCell ⟨gs,1,none⟩ F') gs t #[P,F']/\afq B gs (w'.setCell ⟨gs,1,none⟩ F') F' (rs ++ [r])/\FrS gs (fbk gs F) w0 (w'.setCell ⟨gs,1,none⟩ F')/\(fbk gs F'=fbk gs F∨w0.heap.size<=fbk gs F'):=by
 have hk:=h.grown.blk hb
 have hnd:NdB w' gs:=agd hk fun j v hv=>by
  match j,hv with
  | 0,hv=>simp at hv;subst hv;exact hP
  | 1,hv=>simp at hv;subst hv;exact hF
  | j+2,hv=>simp at hv
 have hfs:FrS gs gs w' (w'.setCell ⟨gs,1,none⟩ F'):=ad8 (FrS.refl _ _ _) _ _
 obtain ⟨g',cap',e,ho,hg,hv,hB,h⟩:=h
 refine ⟨hk.acP 1 F',.inr ⟨g',cap',by rw[List.length_append];exact e,by rw[List.length_append];exact ho.far hg _,hg,fun i x hx=>?_,hB⟩,?_,?_⟩
 ·obtain ⟨us,h1,h2⟩:=hv i x hx
  exact ⟨us,h1.frs hfs hnd hnd,fun j v hv=>(hfs.cell ho.lt hg hg _).trans (h2 j v hv)⟩
 ·refine FrS.self (FrS.trans (g2:=fbk gs F) (FrS.of_below hw) ?_ (.inl rfl)) 1 F'
  rcases h with ⟨g,cap,eF,eg,hf⟩ | ⟨_,hbb⟩
  ·rw[eF];exact hf.weaken rfl
  ·exact FrS.of_below hbb
 ·rw[e]
  rcases h with ⟨g,cap,eF,eg,hf⟩ | ⟨hle,_⟩
  ·rw[eF];exact .inl eg
  ·exact .inr (Nat.le_trans hw.size hle)
structure aoK (W0:World) (gs:Nat) (P F:Value) (R:List (Fq×Fq)) (w:World) (F':Value) (wx:World):Prop where
 blk:Blk wx gs 55 #[P,F']
 fnd:afq W0.heap.size gs wx F' R
 fr:FrS gs (fbk gs F) w wx
 fb:fbk gs F'=fbk gs F∨w.heap.size<=fbk gs F'
theorem aoK.below {W0 w wx wy:World} {gs:Nat} {P F F':Value} {R:List (Fq×Fq)} (h:aoK W0 gs P F R w F' wx) (hb:Below wx.heap.size wx wy):aoK W0 gs P F R w F' wy :=
 ⟨h.blk.below hb h.blk.lt,h.fnd.below hb,FrS.trans (g2:=fbk gs F) h.fr (FrS.of_below hb) (.inl rfl),h.fb⟩
theorem aoK.w0 {W0 w wx:World} {gs:Nat} {P F F':Value} {R:List (Fq×Fq)} (h:aoK W0 gs P F R w F' wx) (h0:Below W0.heap.size W0 w/\W0.heap.size<=gs/\W0.heap.size<=fbk gs F):Below W0.heap.size W0 wx:=h.fr.mono h0.1 h0.2.1 h0.2.2 h0.1.size
theorem aoK.w0s {W0 w wx:World} {gs:Nat} {P F F':Value} {R:List (Fq×Fq)} (h:aoK W0 gs P F R w F' wx) (h0:Below W0.heap.size W0 w/\W0.heap.size<=gs/\W0.heap.size<=fbk gs F):W0.heap.size<=wx.heap.size:=(h.w0 h0).size
theorem aoK.next {W0 w wx wy:World} {gs:Nat} {P F F' F2:Value} {R R2:List (Fq×Fq)} (h:aoK W0 gs P F R w F' wx) (k1:Blk wy gs 55 #[P,F2]) (k2:afq W0.heap.size gs wy F2 R2) (k3:FrS gs (fbk gs F') wx wy) (k4:fbk gs F2=fbk gs F'∨wx.heap.size<=fbk gs F2):aoK W0 gs P F R2 w F2 wy:=by
 have hs:=h.fr.size
 refine ⟨k1,k2,FrS.trans h.fr k3 h.fb,?_⟩
 rcases k4 with e | e
 ·rw[e];exact h.fb
 ·exact .inr (by omega)
theorem abV.aqn {w w':World} {gs t:Nat} {F P:Value} {rs:List (Fq×Fq)} {B0:Nat} {g:Nat} {n:Bool} {A:Option Addr} {l c:Nat} {B:Option Addr} {m d:Nat} {z:Int} {q:Nat} (h:abV w g n A l c B m d z q) (hb:Blk w gs t #[P,F]) (hP:NoDigit P) (hF:afq B0 gs w F rs) (hf:FrS gs (fbk gs F) w w') (k1:g≠gs) (k2:g≠fbk gs F):abV w' g n A l c B m d z q:=by
 have h1:NdB w gs:=agd hb fun j v hv=>by
  match j,hv with
  | 0,hv=>simp at hv;subst hv;exact hP
  | 1,hv=>simp at hv;subst hv;exact agf hF
  | j+2,hv=>simp at hv
 refine h.frs hf h1 ?_ k1 k2
 rcases hF with ⟨_,e⟩ | ⟨g,cap,e,ho,_⟩
 ·rw[e];exact h1
 ·rw[e];exact ho.ndb
set_option maxRecDepth 100000 in
set_option maxHeartbeats 8000000 in
theorem asy {Q:List Int} {W0:World} {gs:Nat} {Ap:Option Addr} {lp cp:Nat} (hx:avb Q W0 gs Ap lp cp) {a b:Fq} (hf:DsF Q a b) {rt:List (Fq×Fq)}
 (hcase:(dvr Q a b=0/\rt=[])∨(dvr Q a b=1/\a.sgn Q≠0/\b.sgn Q≠0/\rt=[(a.nf,b.nf)])∨(¬ dvr Q a b=0/\¬ (dvr Q a b=1/\a.sgn Q≠0/\b.sgn Q≠0)/\FqB (a.mid b)/\∃ r1 r2,rt=r1 ++ (if (a.mid b).sgn Q=0 then [((a.mid b).nf,(a.mid b).nf)] else []) ++ r2 /\
   agp Q W0 gs Ap lp cp a (a.mid b) r1/\agp Q W0 gs Ap lp cp (a.mid b) b r2)):agp Q W0 gs Ap lp cp a b rt:=by
 intro F rs n A l c B m d n' A' l' c' B' m' d' za zb hza hzb w hN hw0 hB hF hz hq hz' hq'
 obtain ⟨V,hV0⟩:∃ V:Int,V=dvr Q a b:=⟨_,rfl⟩
 have hV:(((vst (abA Q a.q b.q a.z b.z) (abA Q a.q b.q a.z b.z).length).1:Nat):Int)=V:=by rw[hV0];exact asq _
 have eA:a.sgn Q≠0↔za=false:=by rw[hza];simp
 have eB:b.sgn Q≠0↔zb=false:=by rw[hzb];simp
 rw[<- hV0,eA,eB] at hcase
 have agi:=Lh hcase
 have HV:=Lh hV
 have Hza:=Lh hza
 have Hzb:=Lh hzb
 have HFt:=Lh hf
 have ha:=hf.fa
 have hb:=hf.fb
 clear hcase eA eB hV hV0 hza hzb hf
 have o1:=aak w (aaV n A l c B m d)
 have o2:=aak (w.alloc (aaV n A l c B m d)) (aaV n' A' l' c' B' m' d')
 have b2:Below w.heap.size w ((w.alloc (aaV n A l c B m d)).alloc (aaV n' A' l' c' B' m' d')):=o1.alloc (by simp) _
 have m1:=(abV.make hz hq).move o2
 have m2:=abV.make (hz'.below o1) (hq'.below o1)
 simp only[World.size_alloc] at m2
 have st:aoK W0 gs (.slice Ap lp cp) F rs w F ((w.alloc (aaV n A l c B m d)).alloc (aaV n' A' l' c' B' m' d')):=⟨hB.below b2 hB.lt,hF.below b2,FrS.of_below b2,.inl rfl⟩
 have hgl:=hB.lt
 have hfl:=hF.ar7 hB.lt
 have hfg:=hF.awy hx.gs
 have hlp:=hx.lp
 have hgs0:=Lh (And.intro hw0 (And.intro hx.gs hfg))
 have HP:=Lh (hx.hp.below ikN (st.w0 hgs0.out))
 have M1:=Lh m1
 have M2:=Lh m2
 have ST:=Lh st
 have hX2:=Lh hx
 obtain ⟨wb,hwb⟩:∃ wb,wb=(w.alloc (aaV n A l c B m d)).alloc (aaV n' A' l' c' B' m' d'):=⟨_,rfl⟩
 have x0:=(st.blk.cell 0).trans rfl
 have a0:=m1.c0
 have a1:=m1.c1
 have a2:=m1.c2
 have d0:=m2.c0
 have d1:=m2.c1
 have d2:=m2.c2
 clear o1 o2 b2 hz hq hz' hq' hB hF m1 m2 st hw0 hfg hx
 go_enter Tryz.func20,Tryz.ntmps20
 go_wp2_with fail
 rw[<- hwb] at M1 M2 ST HP a0 a1 a2 d0 d1 d2 x0 ⊢
 clear hwb
 obtain ⟨g1,hg1⟩:∃ g,g=w.heap.size:=⟨_,rfl⟩
 obtain ⟨g2,hg2⟩:∃ g,g=w.heap.size+1:=⟨_,rfl⟩
 rw[<- hg1] at M1 a0 a1 a2 hgl hfl
 rw[<- hg2] at M2 d0 d1 d2
 rw[<- hg2,<- hg1]
 have l1:=M1.out.lt
 have l2:=M2.out.lt
 have hgg:g1<g2:=by omega
 have nq1:gs≠g1:=by omega
 have nq2:gs≠g2:=by omega
 have aAR:gs<wb.heap.size:=by omega
 have Hgw:=Lh hg1
 clear hg1 hg2
 go_region_held3 (fun w'=>w'.cell? ⟨gs,0,none⟩=some (.slice Ap lp cp)/\w'.cell? ⟨g1,0,none⟩=some (.bool n)/\w'.cell? ⟨g1,1,none⟩=some (.slice A l c)/\w'.cell? ⟨g1,2,none⟩=some (.slice B m d)/\w'.cell? ⟨g2,0,none⟩=some (.bool n')/\w'.cell? ⟨g2,1,none⟩=some (.slice A' l' c')/\w'.cell? ⟨g2,2,none⟩=some (.slice B' m' d')) (go_keep) (first
  | (go_at_call 51;go_must (refine (asg ikN _ _ _ Q _ _ _ _ _ _ _ a.q a.z _ _ _ _ _ _ _ b.q b.z _ ?_ hlp hX2.out.fit ?_ ?_ ?_ ?_ ha.fz ha.fq ha.p hb.fz hb.fq hb.p HFt.out.ok HFt.out.sm HFt.out.ln).mono ?_;(exact HP.out.below ikN Bel.go);(exact M1.out.hz.below Bel.go);(exact M1.out.hq.below Bel.go);(exact M2.out.hz.below Bel.go);(exact M2.out.hq.below Bel.go);rintro e w8 ⟨rfl,hb8⟩;rw[HV.out];have Hb8:Hid (Below wb.heap.size wb w8):=Lh (Below.trans Bel.go (hb8.mono (by simp<;>omega)));obtain ⟨hcx,hfx⟩:=aap hb8;have v0:w8.cell? ⟨gs,0,none⟩=some (.slice Ap lp cp):=(hcx _ (by go_simp)).trans (by go_simp);have v1:w8.cell? ⟨g1,0,none⟩=some (.bool n):=(hcx _ (by go_simp)).trans (by go_simp);have v2:w8.cell? ⟨g1,1,none⟩=some (.slice A l c):=(hcx _ (by go_simp)).trans (by go_simp);have v3:w8.cell? ⟨g1,2,none⟩=some (.slice B m d):=(hcx _ (by go_simp)).trans (by go_simp);have v4:w8.cell? ⟨g2,0,none⟩=some (.bool n'):=(hcx _ (by go_simp)).trans (by go_simp);have v5:w8.cell? ⟨g2,1,none⟩=some (.slice A' l' c'):=(hcx _ (by go_simp)).trans (by go_simp);have v6:w8.cell? ⟨g2,2,none⟩=some (.slice B' m' d'):=(hcx _ (by go_simp)).trans (by go_simp);clear hcx hfx hb8)))
 rename_i hHeld
 clear hHeld v0 v1 v2 v3 v4 v5 v6 a0 a1 a2 d0 d1 d2 x0
 have hb8:=Hb8.out
 replace M1:=Lh (M1.out.move hb8)
 replace M2:=Lh (M2.out.move hb8)
 replace ST:=Lh (ST.out.below hb8)
 clear Hb8 hb8 HP l1 l2 aAR
 by_cases hc1:V=0
 ·have hr:rt=[]:=by
   rcases agi.out with ⟨_,h⟩ | ⟨h,_⟩ | ⟨h,_⟩
   ·exact h
   ·omega
   ·exact absurd hc1 h
  subst hr
  subst hc1
  clear agi
  go_wp2_with fail
  exact bodyPost_ret (results_none (by rfl) _ _ _) rfl ⟨⟨_,rfl⟩,F,ST.out.blk,by first | exact ST.out.fnd | (rw[List.append_nil];exact ST.out.fnd),ST.out.fr,.inl rfl⟩
 have b1:(V == 0)=false:=by rw[beq_eq_false_iff_ne];exact hc1
 obtain ⟨cb,hcb⟩:∃ cb,cb=decide (V=1/\za=false/\zb=false):=⟨_,rfl⟩
 have Hcb:=Lh hcb
 clear hcb
 go_upto_region 3 with (fail)
 go_cut [31] (fun s31 wy=>s31=.bool cb/\Below w8.heap.size w8 wy)
 case first =>
  by_cases h1:V=1
  ·have c1:(V == 1)=true:=by rw[h1];rfl
   have H1:=Lh h1
   clear h1
   rcases Bool.eq_false_or_eq_true za with h | h
   ·subst h
    go_wp2_with fail
    go_meet
    exact ⟨by rw[Hcb.out];simp,Below.refl _ _⟩
   ·subst h
    rcases Bool.eq_false_or_eq_true zb with h | h
    ·subst h
     go_wp2_with fail
     go_meet
     exact ⟨by rw[Hcb.out];simp,Below.refl _ _⟩
    ·subst h
     go_wp2_with fail
     go_meet
     exact ⟨by rw[Hcb.out];simp[H1.out],Below.refl _ _⟩
  ·have c1:(V == 1)=false:=by rw[beq_eq_false_iff_ne];exact h1
   have H1:=Lh h1
   clear h1
   go_wp2_with fail
   go_meet
   exact ⟨by rw[Hcb.out];simp[H1.out],Below.refl _ _⟩
 case rest =>
  obtain ⟨rfl,hb4⟩:=hcut
  replace M1:=Lh (M1.out.move hb4)
  replace M2:=Lh (M2.out.move hb4)
  replace ST:=Lh (ST.out.below hb4)
  have a0:=M1.out.c0
  have a1:=M1.out.c1
  have a2:=M1.out.c2
  have d0:=M2.out.c0
  have d1:=M2.out.c1
  have d2:=M2.out.c2
  obtain ⟨wy,hwy⟩:∃ wy,wy=wc:=⟨_,rfl⟩
  rw[<- hwy] at M1 M2 ST a0 a1 a2 d0 d1 d2 ⊢
  have ly1:g1<wy.heap.size:=M1.out.lt
  have ly2:g2<wy.heap.size:=M2.out.lt
  have lys:=ST.out.blk.lt
  have x1:wy.cell? ⟨gs,1,none⟩=some F:=(ST.out.blk.cell 1).trans rfl
  clear hwy hb4 b1
  by_cases hco:V=1/\za=false/\zb=false
  ·obtain rfl:cb=true:=Hcb.out.trans (decide_eq_true hco)
   have hr:rt=[(a.nf,b.nf)]:=by
    rcases agi.out with ⟨h,_⟩ | ⟨_,_,_,h⟩ | ⟨_,h,_⟩
    ·exact absurd h hc1
    ·exact h
    ·exact absurd hco h
   subst hr
   have hrl:rs.length+1<=1000000:=by simpa using hN
   clear agi hco hc1 hN
   go_wp2_with fail
   refine abG (S:=fun w'=>w'.cell? ⟨g1,0,none⟩=some (.bool n)/\w'.cell? ⟨g1,1,none⟩=some (.slice A l c)/\w'.cell? ⟨g1,2,none⟩=some (.slice B m d)/\w'.cell? ⟨g2,0,none⟩=some (.bool n')/\w'.cell? ⟨g2,1,none⟩=some (.slice A' l' c')/\w'.cell? ⟨g2,2,none⟩=some (.slice B' m' d')/\w'.cell? ⟨gs,1,none⟩=some (F)) (by kernel_rfl) (by kernel_rfl) (by (try dsimp only);go_keep) (fun hHeld=>?_)
   simp only[List.pop_toArray,List.dropLast]
   (refine tq 0 ?_;simp only[aad,List.set])
   (refine tq 1 ?_;simp only[aad,List.set])
   (refine tq 2 ?_;simp only[aad,List.set])
   (refine tq 3 ?_;simp only[aad,List.set])
   (refine tq 4 ?_;simp only[aad,List.set])
   (refine tq 5 ?_;simp only[aad,List.set])
   (refine tq 7 ?_;simp only[aad,List.set])
   refine rdy 6 (fun K hK=>?_);go_simp
   refine (abP _ _ _ _ _ _ _ _ _ _ (M1.out.hz.below Bel.go) (M1.out.hq.below Bel.go) ha.fz ha.fq ha.p).mono ?_
   rintro e w7 ⟨⟨n7,A7,l7,c7,B7,m7,d7,rfl,h7,k7⟩,hb7⟩
   replace h7:aaE w7 n7 A7 l7 c7 (a.nf,b.nf).1.z:=h7
   replace k7:aaW w7 B7 m7 d7 (a.nf,b.nf).1.q:=k7
   obtain ⟨hcx,hfx⟩:=aap hb7
   have hbz:Below wy.heap.size wy w7:=(Below.trans Bel.go (hb7.mono (by simp<;>omega)))
   have Hbz:=Lh hbz
   refine hK.out _ _ ?_ (fun _=>?_)
   ·((try dsimp only);repeat' apply And.intro)<;>(rw[hcx _ (by go_simp)];go_simp)
   clear hHeld hK K hcx hfx;rename_i hHeld
   have hs7:=hbz.size
   clear hb7 hbz
   refine rdy 8 (fun K hK=>?_);go_simp
   refine (abP _ _ _ _ _ _ _ _ _ _ ((M2.out.move Hbz.out).hz.below Bel.go) ((M2.out.move Hbz.out).hq.below Bel.go) hb.fz hb.fq hb.p).mono ?_
   rintro e w9 ⟨⟨n8,A8,l8,c8,B8,m8,d8,rfl,h9,k9⟩,hb9⟩
   replace h9:aaE w9 n8 A8 l8 c8 (a.nf,b.nf).2.z:=h9
   replace k9:aaW w9 B8 m8 d8 (a.nf,b.nf).2.q:=k9
   obtain ⟨hcx,hfx⟩:=aap hb9
   have hbz:Below w7.heap.size w7 w9:=(Below.trans Bel.go (hb9.mono (by simp<;>omega)))
   have H7:=Lh (RtV.mk (r:=(a.nf,b.nf)) (h7.below hbz) (k7.below hbz) h9 k9)
   replace Hbz:=Lh (Hbz.out.trans (hbz.mono Hbz.out.size))
   refine hK.out _ _ ?_ (fun _=>?_)
   ·((try dsimp only);repeat' apply And.intro)<;>(rw[hcx _ (by go_simp)];go_simp)
   clear hHeld hK K hcx hfx;rename_i hHeld
   have hs9:=hbz.size
   clear h7 k7 h9 k9 hb9 hbz
   (refine tq 9 ?_;simp only[aad,List.set])
   refine rdy 10 (fun K hK=>?_);go_simp
   refine hK.out _ _ ?_ (fun _=>?_)
   ·(try dsimp only);go_keep
   clear hHeld hK K
   rename_i hHeld
   (try (simp only[aad,List.set]))
   refine rdy 11 (fun K hK=>?_)
   rw[if_pos (by rfl)]
   have jb:=aak w9 (.cells #[.bool n7,.slice A7 l7 c7,.slice B7 m7 d7,.bool n8,.slice A8 l8 c8,.slice B8 m8 d8] 39)
   have hwj:Below wy.heap.size wy (w9.alloc (.cells #[.bool n7,.slice A7 l7 c7,.slice B7 m7 d7,.bool n8,.slice A8 l8 c8,.slice B8 m8 d8] 39)):=Hbz.out.trans (jb.mono Hbz.out.size)
   refine acd (.tmp 36) (.tmp 42) rfl W0.heap.size gs (F) (rs) (a.nf,b.nf) rfl (ST.out.fnd.below (by exact hwj)) (by have:=ST.out.blk.lt;simp;omega) (by have:=ST.out.w0s hgs0.out;simp;omega) w9.heap.size [.bool n7,.slice A7 l7 c7,.slice B7 m7 d7,.bool n8,.slice A8 l8 c8,.slice B8 m8 d8] rfl (adH _ _ _) (H7.out.below Bel.go) (by first | omega | (simp only[List.length_append];omega)) 43 rfl ?_
   intro F2 w10 hgr
   obtain ⟨g2',cap2,eF2⟩:=hgr.grown.slice
   subst eF2
   have hbk:=ST.out.blk.below hwj ST.out.blk.lt
   have fin:=hgr.fin2 hbk (aai _ _ _) (agf ST.out.fnd) hwj
   have STF:=Lh (ST.out.next fin.1 fin.2.1 fin.2.2.1 fin.2.2.2)
   have z7:w10.cell? ⟨gs,1,none⟩=some (F):=((hgr.grown.blk hbk).cell 1).trans rfl
   have z8:w10.frozen? ⟨gs,1,none⟩=false:=(hgr.grown.blk hbk).frozen 1
   refine hK.out _ _ ?_ (fun _=>?_)
   ·refine ⟨?_,?_,?_,?_,?_,?_,z7⟩<;>(refine (hgr.grown.cell (by simp;omega) (by omega) _).trans ?_;go_simp)
   clear hHeld hK K hgr hbk jb hwj fin
   rename_i hHeld
   simp only[aad,List.set]
   (refine tq 12 ?_;simp only[aad,List.set])
   (refine tq 13 ?_;simp only[aad,List.set])
   refine wpAnyH_done (by kernel_rfl) (aaS rfl ?_) _
   clear hHeld x1 a0 a1 a2 d0 d1 d2 M1 M2 ST H7 Hbz
   go_wp2_with fail
   exact bodyPost_ret (results_none (by rfl) _ _ _) rfl ⟨⟨_,rfl⟩,_,STF.out.blk,STF.out.fnd,STF.out.fr,STF.out.fb⟩
  ·obtain rfl:cb=false:=Hcb.out.trans (decide_eq_false hco)
   obtain ⟨hM,r1,r2,hr,ih1,ih2⟩:FqB (a.mid b)/\∃ r1 r2,rt=r1 ++ (if (a.mid b).sgn Q=0 then [((a.mid b).nf,(a.mid b).nf)] else []) ++ r2/\agp Q W0 gs Ap lp cp a (a.mid b) r1/\agp Q W0 gs Ap lp cp (a.mid b) b r2:=by
    rcases agi.out with ⟨h,_⟩ | ⟨h1,h2,h3,_⟩ | ⟨_,_,h⟩
    ·exact absurd h hc1
    ·exact absurd ⟨h1,h2,h3⟩ hco
    ·exact h
   have Ih1:=Lh ih1
   have Ih2:=Lh ih2
   have Hr:=Lh hr
   have hrl:rs.length+rt.length<=1000000:=hN
   have hln:rt.length=r1.length+(if (a.mid b).sgn Q=0 then [((a.mid b).nf,(a.mid b).nf)] else []).length+r2.length:=by rw[hr,List.length_append,List.length_append]
   clear agi hco hc1 ih1 ih2 hr hN
   go_wp2_with fail
   refine (aqf _ _ _ _ _ _ _ _ _ _ _ _ _ _ _ _ _ _ _ M1.out.hz M1.out.hq M2.out.hz M2.out.hq ha.fz ha.fq ha.p hb.fz hb.fq hb.p).mono ?_
   rintro e w9 ⟨⟨n9,A9,l9,c9,B9,m9,d9,rfl,h9,k9⟩,hb9⟩
   replace h9:aaE w9 n9 A9 l9 c9 (a.mid b).z:=h9
   replace k9:aaW w9 B9 m9 d9 (a.mid b).q:=k9
   obtain ⟨mf,hmf⟩:∃ mf,mf=a.mid b:=⟨_,rfl⟩
   rw[<- hmf] at h9 k9 hM Ih1 Ih2 Hr hln
   have jb:=aak w9 (aaV n9 A9 l9 c9 B9 m9 d9)
   have hbj:=hb9.trans (jb.mono hb9.size)
   have m3:=abV.make h9 k9
   have hg3:wy.heap.size<=w9.heap.size:=hb9.size
   replace M1:=Lh (M1.out.move hbj)
   replace M2:=Lh (M2.out.move hbj)
   replace ST:=Lh (ST.out.below hbj)
   obtain ⟨g3,e3⟩:∃ g,g=w9.heap.size:=⟨_,rfl⟩
   rw[<- e3] at m3 hg3
   have M3:=Lh m3
   have HPm:=Lh (hX2.out.hp.below ikN (ST.out.w0 hgs0.out))
   clear h9 k9 hb9 jb hbj m3 a0 a1 a2 d0 d1 d2 x1 hmf
   go_wp2_with fail
   rw[<- e3]
   refine (amc gs Ap lp cp F Q n9 A9 l9 c9 B9 m9 d9 mf _ ST.out.blk HPm.out (by omega) M3.out.hz M3.out.hq hM (hX2.out.eq _ _ hM.z hM.q)).mono ?_
   rintro e w10 ⟨rfl,abM⟩
   obtain ⟨mz,hmz⟩:∃ mz,mz=decide (mf.sgn Q=0):=⟨_,rfl⟩
   rw[<- hmz]
   have Hmz:=Lh hmz
   replace M1:=Lh (M1.out.move abM)
   replace M2:=Lh (M2.out.move abM)
   replace M3:=Lh (M3.out.move abM)
   replace ST:=Lh (ST.out.below abM)
   clear abM e3 hmz HPm lys
   have a0:=M1.out.c0
   have a1:=M1.out.c1
   have a2:=M1.out.c2
   have d0:=M3.out.c0
   have d1:=M3.out.c1
   have d2:=M3.out.c2
   have azH:=ST.out.w0 hgs0.out
   go_wp2_with fail
   refine (Ih1.out F rs _ _ _ _ _ _ _ _ _ _ _ _ _ _ za mz Hza.out Hmz.out w10 (by omega) azH ST.out.blk ST.out.fnd M1.out.hz M1.out.hq M3.out.hz M3.out.hq).mono ?_
   rintro e w12 ⟨⟨v12,rfl⟩,F',hB',hF',hfr,auM⟩
   have m2':=M2.out.aqn ST.out.blk (aai _ _ _) ST.out.fnd hfr (by omega) (by omega)
   have m3':=M3.out.aqn ST.out.blk (aai _ _ _) ST.out.fnd hfr (by omega) (by omega)
   have aAS:=M2.out.lt
   have aAT:=M3.out.lt
   replace ST:=Lh (ST.out.next hB' hF' hfr auM)
   replace M2:=Lh m2'
   replace M3:=Lh m3'
   have aAD:=hfr.size
   have hk12:fbk gs F'≠g2/\fbk gs F'≠g3:=by
    rcases auM with e | e
    ·rw[e];omega
    ·omega
   clear hB' hF' hfr auM m2' m3' a0 a1 a2 d0 d1 d2 M1 azH aAS aAT
   have a0:=M2.out.c0
   have a1:=M2.out.c1
   have a2:=M2.out.c2
   have d0:=M3.out.c0
   have d1:=M3.out.c1
   have d2:=M3.out.c2
   have lw2:=M2.out.lt
   have lw3:=M3.out.lt
   have lws:=ST.out.blk.lt
   have lwf:=ST.out.fnd.ar7 lws
   have x1:w12.cell? ⟨gs,1,none⟩=some F':=(ST.out.blk.cell 1).trans rfl
   obtain ⟨R2,hR2⟩:∃ R2,R2=rs ++ r1 ++ (if mf.sgn Q=0 then [(mf.nf,mf.nf)] else []):=⟨_,rfl⟩
   have hRl:R2.length+r2.length=rs.length+rt.length:=by rw[hR2,hln,List.length_append,List.length_append];omega
   have hRt:R2 ++ r2=rs ++ rt:=by rw[hR2,Hr.out];simp only[List.append_assoc]
   have HRt:=Lh hRt
   have HR2:=Lh hR2
   clear hR2 hRt
   go_upto_if 58 with (fail)
   go_cut [] (fun wz=>∃ F2,aoK W0 gs (.slice Ap lp cp) F R2 w F2 wz/\abV wz g2 n' A' l' c' B' m' d' b.z b.q/\abV wz g3 n9 A9 l9 c9 B9 m9 d9 mf.z mf.q/\fbk gs F2≠g2/\fbk gs F2≠g3)
   case first =>
    rcases Bool.eq_false_or_eq_true mz with h | h
    ·subst h
     have er:R2=rs ++ r1 ++ [(mf.nf,mf.nf)]:=by rw[HR2.out,if_pos (by simpa using Hmz.out.symm)]
     have Er:=Lh er
     clear er
     go_wp2_with fail
     refine abG (S:=fun w'=>w'.cell? ⟨g3,0,none⟩=some (.bool n9)/\w'.cell? ⟨g3,1,none⟩=some (.slice A9 l9 c9)/\w'.cell? ⟨g3,2,none⟩=some (.slice B9 m9 d9)/\w'.cell? ⟨gs,1,none⟩=some (F')) (by kernel_rfl) (by kernel_rfl) (by (try dsimp only);go_keep) (fun hHeld=>?_)
     simp only[List.pop_toArray,List.dropLast]
     (refine tq 0 ?_;simp only[aad,List.set])
     (refine tq 1 ?_;simp only[aad,List.set])
     (refine tq 2 ?_;simp only[aad,List.set])
     (refine tq 3 ?_;simp only[aad,List.set])
     (refine tq 4 ?_;simp only[aad,List.set])
     (refine tq 5 ?_;simp only[aad,List.set])
     (refine tq 7 ?_;simp only[aad,List.set])
     refine rdy 6 (fun K hK=>?_);go_simp
     refine (abP _ _ _ _ _ _ _ _ _ _ (M3.out.hz.below Bel.go) (M3.out.hq.below Bel.go) hM.fz hM.fq hM.p).mono ?_
     rintro e w7 ⟨⟨n7,A7,l7,c7,B7,m7,d7,rfl,h7,k7⟩,hb7⟩
     replace h7:aaE w7 n7 A7 l7 c7 (mf.nf,mf.nf).1.z:=h7
     replace k7:aaW w7 B7 m7 d7 (mf.nf,mf.nf).1.q:=k7
     obtain ⟨hcx,hfx⟩:=aap hb7
     have hbz:Below w12.heap.size w12 w7:=(Below.trans Bel.go (hb7.mono (by simp<;>omega)))
     have Hbz:=Lh hbz
     refine hK.out _ _ ?_ (fun _=>?_)
     ·((try dsimp only);repeat' apply And.intro)<;>(rw[hcx _ (by go_simp)];go_simp)
     clear hHeld hK K hcx hfx;rename_i hHeld
     have hs7:=hbz.size
     clear hb7 hbz
     refine rdy 8 (fun K hK=>?_);go_simp
     refine (abP _ _ _ _ _ _ _ _ _ _ ((M3.out.move Hbz.out).hz.below Bel.go) ((M3.out.move Hbz.out).hq.below Bel.go) hM.fz hM.fq hM.p).mono ?_
     rintro e w9 ⟨⟨n8,A8,l8,c8,B8,m8,d8,rfl,h9,k9⟩,hb9⟩
     replace h9:aaE w9 n8 A8 l8 c8 (mf.nf,mf.nf).2.z:=h9
     replace k9:aaW w9 B8 m8 d8 (mf.nf,mf.nf).2.q:=k9
     obtain ⟨hcx,hfx⟩:=aap hb9
     have hbz:Below w7.heap.size w7 w9:=(Below.trans Bel.go (hb9.mono (by simp<;>omega)))
     have H7:=Lh (RtV.mk (r:=(mf.nf,mf.nf)) (h7.below hbz) (k7.below hbz) h9 k9)
     replace Hbz:=Lh (Hbz.out.trans (hbz.mono Hbz.out.size))
     refine hK.out _ _ ?_ (fun _=>?_)
     ·((try dsimp only);repeat' apply And.intro)<;>(rw[hcx _ (by go_simp)];go_simp)
     clear hHeld hK K hcx hfx;rename_i hHeld
     have hs9:=hbz.size
     clear h7 k7 h9 k9 hb9 hbz
     (refine tq 9 ?_;simp only[aad,List.set])
     refine rdy 10 (fun K hK=>?_);go_simp
     refine hK.out _ _ ?_ (fun _=>?_)
     ·(try dsimp only);go_keep
     clear hHeld hK K
     rename_i hHeld
     (try (simp only[aad,List.set]))
     refine rdy 11 (fun K hK=>?_)
     rw[if_pos (by rfl)]
     have jb:=aak w9 (.cells #[.bool n7,.slice A7 l7 c7,.slice B7 m7 d7,.bool n8,.slice A8 l8 c8,.slice B8 m8 d8] 39)
     have hwj:Below w12.heap.size w12 (w9.alloc (.cells #[.bool n7,.slice A7 l7 c7,.slice B7 m7 d7,.bool n8,.slice A8 l8 c8,.slice B8 m8 d8] 39)):=Hbz.out.trans (jb.mono Hbz.out.size)
     refine acd (.tmp 63) (.tmp 69) rfl W0.heap.size gs (F') (rs ++ r1) (mf.nf,mf.nf) rfl (ST.out.fnd.below (by exact hwj)) (by have:=ST.out.blk.lt;simp;omega) (by have:=ST.out.w0s hgs0.out;simp;omega) w9.heap.size [.bool n7,.slice A7 l7 c7,.slice B7 m7 d7,.bool n8,.slice A8 l8 c8,.slice B8 m8 d8] rfl (adH _ _ _) (H7.out.below Bel.go) (by first | omega | (simp only[List.length_append];omega)) 70 rfl ?_
     intro F2 w10 hgr
     obtain ⟨g2',cap2,eF2⟩:=hgr.grown.slice
     subst eF2
     have hbk:=ST.out.blk.below hwj ST.out.blk.lt
     have fin:=hgr.fin2 hbk (aai _ _ _) (agf ST.out.fnd) hwj
     have STF:=Lh (ST.out.next fin.1 fin.2.1 fin.2.2.1 fin.2.2.2)
     have FB:=Lh fin.2.2.2
     have M2F:=Lh (M2.out.aqn ST.out.blk (aai _ _ _) ST.out.fnd fin.2.2.1 (by omega) (by omega))
     have M3F:=Lh (M3.out.aqn ST.out.blk (aai _ _ _) ST.out.fnd fin.2.2.1 (by omega) (by omega))
     have z7:w10.cell? ⟨gs,1,none⟩=some (F'):=((hgr.grown.blk hbk).cell 1).trans rfl
     have z8:w10.frozen? ⟨gs,1,none⟩=false:=(hgr.grown.blk hbk).frozen 1
     refine hK.out _ _ ?_ (fun _=>?_)
     ·refine ⟨?_,?_,?_,z7⟩<;>(refine (hgr.grown.cell (by simp;omega) (by omega) _).trans ?_;go_simp)
     clear hHeld hK K hgr hbk jb hwj fin
     rename_i hHeld
     simp only[aad,List.set]
     (refine tq 12 ?_;simp only[aad,List.set])
     (refine tq 13 ?_;simp only[aad,List.set])
     refine wpAnyH_done (by kernel_rfl) (aaS rfl ?_) _
     clear hHeld x1 a0 a1 a2 d0 d1 d2 M2 M3 ST H7 Hbz
     simp only[List.length_append] at STF M2F M3F FB
     go_wp2_with fail
     go_meet
     refine ⟨_,by rw[Er.out];exact STF.out,M2F.out,M3F.out,?_,?_⟩
     ·rcases FB.out with e | e
      ·rw[e];exact hk12.1
      ·omega
     ·rcases FB.out with e | e
      ·rw[e];exact hk12.2
      ·omega
    ·subst h
     have er:R2=rs ++ r1:=by rw[HR2.out,if_neg (by simpa using Hmz.out.symm),List.append_nil]
     have Er:=Lh er
     clear er
     go_wp2_with fail
     go_meet
     exact ⟨F',by rw[Er.out];exact ST.out,M2.out,M3.out,hk12.1,hk12.2⟩
   case rest =>
    obtain ⟨F2,st2,m2,m3,k1,k2⟩:=hcut
    clear a0 a1 a2 d0 d1 d2 x1 M2 M3 ST hk12 lw2 lw3 lws lwf
    have a0:=m2.c0
    have a1:=m2.c1
    have a2:=m2.c2
    have d0:=m3.c0
    have d1:=m3.c1
    have d2:=m3.c2
    have ST:=Lh st2
    have M2:=Lh m2
    have M3:=Lh m3
    have ayi:=st2.w0 hgs0.out
    clear st2 m2 m3
    go_wp2_with fail
    refine (Ih2.out F2 R2 _ _ _ _ _ _ _ _ _ _ _ _ _ _ mz zb Hmz.out Hzb.out _ (by omega) ayi ST.out.blk ST.out.fnd M3.out.hz M3.out.hq M2.out.hz M2.out.hq).mono ?_
    rintro e w13 ⟨⟨v13,rfl⟩,F3,hB3,hF3,hfr3,awC⟩
    have STF:=Lh (ST.out.next hB3 hF3 hfr3 awC)
    clear hB3 hF3 hfr3 awC a0 a1 a2 d0 d1 d2 M2 M3 ST
    go_wp2_with fail
    exact bodyPost_end (results_none (by rfl) _ _ _) rfl ⟨⟨_,rfl⟩,F3,STF.out.blk,by rw[<- HRt.out];exact STF.out.fnd,STF.out.fr,STF.out.fb⟩
theorem amd {Q:List Int} {W0:World} {gs:Nat} {Ap:Option Addr} {lp cp:Nat} (hx:avb Q W0 gs Ap lp cp):∀ (n:Nat) (a b:Fq),avv Q n a b->agp Q W0 gs Ap lp cp a b (dsl Q n a b)
 | 0,_,_,h=>h.elim
 | n+1,a,b,⟨hf,h⟩=>by
   refine asy hx hf ?_
   have e:dsl Q (n+1) a b=if dvr Q a b=0 then [] else if dvr Q a b=1/\a.sgn Q≠0/\b.sgn Q≠0 then [(a.nf,b.nf)] else dsl Q n a (a.mid b) ++ (if (a.mid b).sgn Q=0 then [((a.mid b).nf,(a.mid b).nf)] else []) ++ dsl Q n (a.mid b) b:=rfl
   by_cases c1:dvr Q a b=0
   ·exact .inl ⟨c1,by rw[e,if_pos c1]⟩
   by_cases c2:dvr Q a b=1/\a.sgn Q≠0/\b.sgn Q≠0
   ·exact .inr (.inl ⟨c2.1,c2.2.1,c2.2.2,by rw[e,if_neg c1,if_pos c2]⟩)
   ·obtain ⟨h1,h2,h3⟩:=(h.resolve_left c1).resolve_left c2
    exact .inr (.inr ⟨c1,c2,h1,_,_,by rw[e,if_neg c1,if_neg c2],amd hx n a _ h2,amd hx n _ b h3⟩)
end Go.Proofs.YtdimmlckpgpgcaaGreat
namespace Go.Proofs.YtdimmlckpgpgcaaGreat
open Go Go.RowKit
section
variable {Q:List Int} {K N i:Nat} {a b:Fq}
theorem avc {x y:Nat} (hx:x∣2^i) (hy:y∣2^i) (x0:0<x):(lcd x y).natAbs<=2^i:=by
 rw[ank,Int.natAbs_natCast]
 refine Nat.le_of_dvd (Nat.pow_pos (by decide)) ?_
 have e:x / Nat.gcd x y*y=Nat.lcm x y:=by
  unfold Nat.lcm
  obtain ⟨g,hg⟩:∃ g,g=Nat.gcd x y:=⟨_,rfl⟩
  have g0:0<g:=by rw[hg];exact Nat.gcd_pos_of_pos_left _ x0
  obtain ⟨u,hu⟩:g∣x:=by rw[hg];exact Nat.gcd_dvd_left _ _
  rw[<- hg]
  rw[hu,Nat.mul_div_cancel_left _ g0,Nat.mul_assoc,Nat.mul_div_cancel_left _ g0]
 rw[e]
 exact Nat.lcm_dvd hx hy
theorem aw2 {x:Fq} {D P:Int} (hx:Dy K i x) (h:P*(x.q:Int)=x.z*D):P.natAbs<=K*D.natAbs:=by
 have h1:P.natAbs*x.q=x.z.natAbs*D.natAbs:=by
  have:=congrArg Int.natAbs h
  rwa [Int.natAbs_mul,Int.natAbs_mul,Int.natAbs_natCast] at this
 have h2:x.z.natAbs*D.natAbs<=K*x.q*D.natAbs:=Nat.mul_le_mul_right _ hx.z
 have h3:P.natAbs*x.q<=(K*D.natAbs)*x.q:=by
  rw[h1]
  refine Nat.le_trans h2 (Nat.le_of_eq ?_)
  rw[Nat.mul_assoc,Nat.mul_comm x.q,<- Nat.mul_assoc]
 exact Nat.le_of_mul_le_mul_right h3 hx.p
theorem avd (h:SqF Q 16) (hN:(K+1)*2^N<=ZB) (da:Dy K i a) (db:Dy K i b) (hi:i<=N) (hab:a.v<b.v):DsF Q a b:=by
 have hlt:=ajU da.p db.p hab
 obtain ⟨hD,hP,hR⟩:=asj a.z b.z da.p db.p
 have bD:(cdD a.q b.q a.z b.z).natAbs<=2^N:=by
  refine Nat.le_trans ?_ (Nat.pow_le_pow_right (by decide) hi)
  unfold cdD
  refine avc (Nat.dvd_trans (Nat.div_dvd_of_dvd (Nat.gcd_dvd_right _ _)) da.d) (Nat.dvd_trans (Nat.div_dvd_of_dvd (Nat.gcd_dvd_right _ _)) db.d) ?_
  exact Nat.div_pos (Nat.le_of_dvd da.p (Nat.gcd_dvd_right _ _)) (Nat.gcd_pos_of_pos_right _ da.p)
 have bP:=aw2 da hP
 have bR:=aw2 db hR
 have hne:=asl da.p db.p hlt
 rw[Nat.add_mul,Nat.one_mul] at hN
 have z1:∀ {x:Nat},x<=K*(cdD a.q b.q a.z b.z).natAbs->x<=ZB:=fun {x} hx=>by
  have:=Nat.mul_le_mul_left K bD
  omega
 have bP2:=z1 bP
 have bR2:=z1 bR
 have bD2:(cdD a.q b.q a.z b.z).natAbs<=ZB:=by omega
 have hb:=ahR Q (cdP a.q b.q a.z b.z) (cdQ a.q b.q a.z b.z) (cdD a.q b.q a.z b.z) (M:=BB^16) (B:=ZB+ZB) h.b (by omega) (by omega)
 have hl:=h.lq
 have hl1:1<=Q.length:=by
  have:Q.length=aac Q:=by rw[<- aae,h.t]
  have:=h.q0
  omega
 have hzz:ZB+ZB<=BB^(ZK+1):=by
  have:2*BB^ZK<=BB^(ZK+1):=ac7 (by decide)
  have e:ZB=BB^ZK:=rfl
  omega
 have hpw:∀ k,k<=9->(ZB+ZB)^k<=BB^((ZK+1)*9):=fun k hk=>by
  refine Nat.le_trans (Nat.pow_le_pow_left hzz k) ?_
  rw[<- Nat.pow_mul]
  exact abf (Nat.mul_le_mul_left _ hk)
 have hfw:∀ {e:Nat},e<=20000->BB^e<BB^FW:=fun {e} he=>Nat.pow_lt_pow_right (by rw[aao];decide) (by rw[ach];omega)
 have tr:axq Q (cdP a.q b.q a.z b.z) (cdQ a.q b.q a.z b.z) (cdD a.q b.q a.z b.z):=by
  refine ⟨ahu bP2,ahu bR2,ahu bD2,fun k hk=>?_⟩
  obtain ⟨b1,b2,b3,b4,b5⟩:=hb k
  have hk9:k<=9:=by omega
  have p1:=hpw k hk9
  have l2:BB^((ZK+1)*9)<BB^FW:=hfw (by rw[ajg];omega)
  have p2:BB^16*(k+1)*(ZB+ZB)^k<=BB^(17+(ZK+1)*9):=by
   rw[Nat.pow_add]
   refine Nat.mul_le_mul ?_ p1
   rw[Nat.mul_comm]
   exact ac7 (by omega)
  have l1:BB^(17+(ZK+1)*9)<BB^FW:=hfw (by rw[ajg];omega)
  exact ⟨fun j=>Nat.lt_of_le_of_lt (Nat.le_trans (b1 j) p2) l1,fun j=>Nat.lt_of_le_of_lt (Nat.le_trans (b2 j) p1) l2,Nat.lt_of_le_of_lt (Nat.le_trans b3 p1) l2,by omega,by omega⟩
 have e0:=aeZ h.q0 hlt h.t
 refine ⟨da.fqb hi (by rw[Nat.add_mul,Nat.one_mul];exact hN),db.fqb hi (by rw[Nat.add_mul,Nat.one_mul];exact hN),fun _ _=>?_,?_,?_⟩
 ·rw[h.t]
  exact ⟨tr,asi (agW h.q0 h.t) hne _,hl1⟩
 ·rw[e0];exact (asn tr hl1).smp
 ·rw[e0]
  have h1:=akV Q (cdP a.q b.q a.z b.z) (cdQ a.q b.q a.z b.z) (cdD a.q b.q a.z b.z) hl1
  have h2:(afO Q (cdP a.q b.q a.z b.z) (cdQ a.q b.q a.z b.z) (cdD a.q b.q a.z b.z)).length=aac (afO Q (cdP a.q b.q a.z b.z) (cdQ a.q b.q a.z b.z) (cdD a.q b.q a.z b.z)):=by
   rw[<- aae]
   congr 1
   unfold afO
   rw[acu]
  omega
theorem aqY (h:SqF Q 16) (hN:(K+1)*2^N<=ZB):∀ (n i:Nat) (a b:Fq),asx Q n a b->Dy K i a->Dy K i b->a.v<b.v->i+n<=N+1->avv Q n a b
 | 0,_,_,_,h,_,_,_,_=>h.elim
 | n+1,i,a,b,hd,ha,hb,hab,hi=>by
   refine ⟨avd h hN ha hb (by omega) hab,?_⟩
   rcases hd with hd | hd | ⟨h1,h2⟩
   ·exact .inl hd
   ·exact .inr (.inl hd)
   ·have hn:0<n:=by
     rcases Nat.eq_zero_or_pos n with e | e
     ·subst e;exact h1.elim
     ·exact e
    have hm:=ha.mid hb
    obtain ⟨mv,mq⟩:=Fq.aqm ha.p hb.p
    exact .inr (.inr ⟨hm.fqb (by omega) hN,aqY h hN n (i+1) _ _ h1 ha.up hm (by rw[mv];grind) (by omega),aqY h hN n (i+1) _ _ h2 hm hb.up (by rw[mv];grind) (by omega)⟩)
noncomputable def aiF (Q:List Int):List (Fq×Fq):=dsl Q (NN+1) ⟨-((cbn Q:Nat):Int),1⟩ ⟨((cbn Q:Nat):Int),1⟩
theorem ave (h:SqF Q 16) {m:Nat} (hm:m<=8):dsC m 16 (cbn Q)*(((cbn Q:Nat):Rat) - -((cbn Q:Nat):Rat))<(2:Rat)^NN:=by
 obtain ⟨c,hc⟩:∃ c,c=cbn Q:=⟨_,rfl⟩
 have hcl:c<=BB^17:=by rw[hc];exact aqw h
 rw[<- hc]
 obtain ⟨A,hA⟩:∃ A:Nat,A=400:=⟨_,rfl⟩
 obtain ⟨B,hB⟩:∃ B:Nat,B=170:=⟨_,rfl⟩
 have axl:c^10<=BB^B:=by
  have:=Nat.pow_le_pow_left hcl 10
  rw[<- Nat.pow_mul] at this
  exact Nat.le_trans this (abf (by omega))
 have h2c:2*c<=BB^18:=by
  have h5:2*BB^17<=BB^18:=ac7 (by decide)
  omega
 have hc8:(2*c)^m<=BB^144:=by
  have h1:=Nat.pow_le_pow_left h2c m
  rw[<- Nat.pow_mul] at h1
  exact Nat.le_trans h1 (abf (by omega))
 have hdr:drC m (BB^16) c<=BB^161:=by
  unfold drC
  have q1:(m+1)*((m+1)*((m+1)*((m+1)*(BB^16*(2*c)^m))))<=9*(9*(9*(9*(BB^16*BB^144)))):=by
   have q0:BB^16*(2*c)^m<=BB^16*BB^144:=Nat.mul_le_mul_left _ hc8
   have m9:m+1<=9:=by omega
   exact Nat.mul_le_mul m9 (Nat.mul_le_mul m9 (Nat.mul_le_mul m9 (Nat.mul_le_mul m9 q0)))
  have q2:13122*BB^(16+144)<=BB^(16+144+1):=ac7 (by decide)
  rw[Nat.pow_add] at q2
  rw[show 16+144+1=161 from rfl] at q2
  omega
 have hn:drC m (BB^16) c*(20*BB^A*c^10)*(c+c)<2^NN:=by
  have h1:20*BB^A*c^10<=BB^(A+1)*BB^B:=Nat.mul_le_mul (ac7 (by decide)) axl
  have h3:=Nat.mul_le_mul (Nat.mul_le_mul hdr h1) (show c+c<=BB^18 by omega)
  refine Nat.lt_of_le_of_lt h3 ?_
  rw[<- Nat.pow_add,<- Nat.pow_add,<- Nat.pow_add]
  rw[agD]
  exact Nat.pow_lt_pow_right (by decide) (by rw[auN];omega)
 have hr:=Rat.natCast_lt_natCast.2 hn
 have e2:(((2:Nat)^NN:Nat):Rat)=(2:Rat)^NN:=by rw[Rat.natCast_pow];rfl
 rw[e2] at hr
 have heq:dsC m 16 c*(((c:Nat):Rat) - -((c:Nat):Rat))=((drC m (BB^16) c*(20*BB^A*c^10)*(c+c):Nat):Rat):=by
  unfold dsC
  rw[show 20*(16+4)=A by omega]
  generalize drC m (BB^16) c=X
  rw[Rat.natCast_mul,Rat.natCast_mul,Rat.natCast_mul,Rat.natCast_mul,Rat.natCast_add,Rat.natCast_pow c 10]
  have n1:((20:Nat):Rat)=20:=rfl
  rw[n1]
  grind
 rw[heq]
 exact hr
theorem akX (h:SqF Q 16) (hl:2<=aac Q) (hc:∀ p,Dvq p Q->Dvq p (aau Q)->aac p<=1):asx Q (NN+1) ⟨-((cbn Q:Nat):Int),1⟩ ⟨((cbn Q:Nat):Int),1⟩:=by
 have hv:=aqx (cbn Q)
 have hc1:(1:Rat)<=((cbn Q:Nat):Rat):=by exact_mod_cast agk Q
 have hlen:=h.len
 refine ava h (by decide) (m:=aac Q-2) (by omega) hc (agk Q) NN _ _ Nat.one_pos Nat.one_pos (by rw[hv.1,hv.2];grind) (by rw[hv.1];exact Rat.le_refl) (by rw[hv.2];exact Rat.le_refl) ?_
 rw[hv.1,hv.2]
 exact ave h (by omega)
theorem aiG (h:SqF Q 16) (hl:2<=aac Q) (hc:∀ p,Dvq p Q->Dvq p (aau Q)->aac p<=1):avv Q (NN+1) ⟨-((cbn Q:Nat):Int),1⟩ ⟨((cbn Q:Nat):Int),1⟩:=by
 have hv:=aqx (cbn Q)
 have hc1:(1:Rat)<=((cbn Q:Nat):Rat):=by exact_mod_cast agk Q
 refine aqY h (awG h) (NN+1) 0 _ _ (akX h hl hc) ⟨Nat.one_pos,Nat.one_dvd _,?_⟩ ⟨Nat.one_pos,Nat.one_dvd _,?_⟩ (by rw[hv.1,hv.2];grind) (by omega)
 ·show (-((cbn Q:Nat):Int)).natAbs<=cbn Q*1
  omega
 ·show (((cbn Q:Nat):Int)).natAbs<=cbn Q*1
  omega
theorem aiH (h:SqF Q 16) (hl:2<=aac Q) (hc:∀ p,Dvq p Q->Dvq p (aau Q)->aac p<=1) {xs:List Pt} (hx:Lst (fun x=>sgp Q x=0) xs):Isl Q xs (aiF Q) (-((cbn Q:Nat):Rat)) ((cbn Q:Nat):Rat):=by
 have hv:=aqx (cbn Q)
 have hc1:(1:Rat)<=((cbn Q:Nat):Rat):=by exact_mod_cast agk Q
 have hi:=ajV h (NN+1) ⟨-((cbn Q:Nat):Int),1⟩ ⟨((cbn Q:Nat):Int),1⟩ Nat.one_pos Nat.one_pos (by rw[hv.1,hv.2];grind) (akX h hl hc) xs (hx.congr fun x=>⟨fun e=>?_,fun e=>e.1⟩)
 ·rw[hv.1,hv.2] at hi
  exact hi
 ·have:=aqu h.t h.q0 e
  unfold Fq.p
  rw[hv.1,hv.2]
  exact ⟨e,this.1,this.2⟩
theorem aoE (h:SqF Q 16) (hl:2<=aac Q) (hc:∀ p,Dvq p Q->Dvq p (aau Q)->aac p<=1):(aiF Q).length<=9:=by
 obtain ⟨xs,hx⟩:=abj h.q0 (fun _=>True)
 have hx2:Lst (fun x=>sgp Q x=0) xs:=hx.congr fun x=>⟨fun e=>e.1,fun e=>⟨e,trivial⟩⟩
 rw[(aiH h hl hc hx2).length]
 have:=akk (aac Q-1) Q (by have:=h.q0;omega) xs hx2.1 fun x hx=>(hx2.2 x).1 hx
 have:=h.len
 omega
end
end Go.Proofs.YtdimmlckpgpgcaaGreat
namespace Go.Proofs.YtdimmlckpgpgcaaGreat
open Go Go.RowKit
noncomputable def acw (f:List Int):List (Fq×Fq):=if aac (aaP f)<2 then [] else aiF (aaP f)
theorem aw3 {W W1 w':World} {B0 gs g5 g6:Nat} {P:Value} {n5 n6:Bool} {A5 B5 A6 B6:Option Addr} {l5 c5 m5 d5 q5 l6 c6 m6 d6 q6:Nat} {z5 z6:Int} {R:List (Fq×Fq)} {F':Value} (hb:Below W.heap.size W W1) (hB:Blk W gs 55 #[P,.slice none 0 0]) (hP:NoDigit P) (hfr:FrS gs (fbk gs (.slice none 0 0)) W1 w') (hB':Blk w' gs 55 #[P,F']) (hF:afq B0 gs w' F' ([] ++ R))
 (r5:abV W g5 n5 A5 l5 c5 B5 m5 d5 z5 q5) (h5:g5≠gs) (r6:abV W g6 n6 A6 l6 c6 B6 m6 d6 z6 q6) (h6:g6≠gs):abV w' g5 n5 A5 l5 c5 B5 m5 d5 z5 q5/\abV w' g6 n6 A6 l6 c6 B6 m6 d6 z6 q6/\FrS gs gs W w'/\∃ F',Blk w' gs 55 #[P,F']/\afq B0 gs w' F' R:=by
 have hB1:=hB.below hb hB.lt
 have hn:afq 0 gs W1 (.slice none 0 0) []:=.inl ⟨rfl,rfl⟩
 exact ⟨(r5.move hb).aqn hB1 hP hn hfr h5 h5,(r6.move hb).aqn hB1 hP hn hfr h6 h6,FrS.trans (FrS.of_below hb) hfr (.inl rfl),F',hB',hF⟩
theorem SqF.aAU {Q:List Int} (h:SqF Q 16) {W0:World} {Ap:Option Addr} {lp cp:Nat} (hp:aaR W0 Ap lp cp Q):avb Q W0 W0.heap.size Ap lp cp:=by
 have hl:=h.lq
 have h1:=hp.length
 exact ⟨hp,by omega,Nat.le_refl _,h.fit (by decide),fun z q hz hq=>(h.cp (by decide)).at hl hz hq⟩
set_option maxRecDepth 100000 in
set_option maxHeartbeats 8000000 in
theorem aiI {I:aay} (hI:IK I) (A:Option Addr) (la ca:Nat) (f:List Int) (w:World) (hf:aaw I w A la ca f) (sf:SmP f) (hq:aac f≠0->QOK f) (hs:aac f≠0->SqF (aaP f) 16) (hcp:aac f≠0->∀ p,Dvq p (aaP f)->Dvq p (aau (aaP f))->aac p<=1) (hla:la<=1000000) :
 Calls Tryz.prog 8 #[.slice A la ca] w fun e w'=>(∃ A' l' c',e=.returned (.slice A' l' c')/\aop w' A' l' c' (acw f))/\Below w.heap.size w w':=by
 obtain ⟨Q,hQ⟩:∃ Q,Q=aaP f:=⟨_,rfl⟩
 have hlq:Q.length<=10:=by
  rw[hQ]
  by_cases h0:aac f=0
  ·rw[abv h0];exact Nat.zero_le _
  ·exact (hs h0).lq
 have sq:SmP Q:=by
  rw[hQ]
  by_cases h0:aac f=0
  ·rw[abv h0];intro c hc;simp at hc
  ·exact ((hs h0).fit (by decide)).smp
 have HQ:=Lh hQ
 have Hs:=Lh hs
 have Hcp:=Lh hcp
 clear hQ hs hcp
 go_enter Tryz.func8,Tryz.ntmps8
 go_wp2_with fail
 refine (aiv hI _ _ _ _ _ hf sf hq hla).mono ?_
 rintro e w1 ⟨A1,l1,c1,rfl,h1,hb1⟩
 rw[<- HQ.out] at h1
 have hl1:l1<=10:=by have:=h1.length;omega
 have H1:=Lh h1
 have Hb:=Lh hb1
 clear hf h1 hb1 hq
 go_wp2_with fail
 refine (aaX _ _ _ _ _ (H1.out.at_ ikN) sq (by omega)).mono ?_
 rintro e w2 ⟨rfl,hb2⟩
 replace H1:=Lh (H1.out.below ikN hb2)
 replace Hb:=Lh (Hb.out.trans (hb2.mono Hb.out.size))
 obtain ⟨D,hD⟩:∃ D,D=((aac Q:Nat):Int)-1:=⟨_,rfl⟩
 rw[<- hD]
 have HD:=Lh hD
 clear hb2 hD
 by_cases hlt:aac Q<2
 ·have b1:decide (D<1)=true:=decide_eq_true (by have:=HD.out;omega)
  have hr:acw f=[]:=by unfold acw;rw[<- HQ.out,if_pos hlt]
  have Hr:=Lh hr
  clear hr hlt
  go_wp2_with fail
  go_ret
  exact ⟨⟨_,_,_,rfl,by rw[Hr.out];exact ⟨rfl,Nat.le_refl _,.inl ⟨rfl,rfl,rfl⟩⟩⟩,Hb.out⟩
 have b1:decide (D<1)=false:=decide_eq_false (by have:=HD.out;omega)
 have hr:acw f=aiF Q:=by unfold acw;rw[<- HQ.out,if_neg hlt]
 have Hr:=Lh hr
 have hf0:aac f≠0:=fun h0=>by
  have:=abv h0
  rw[<- HQ.out] at this
  rw[this] at hlt
  exact hlt (by decide)
 have hS:SqF Q 16:=by have:=Hs.out hf0;rwa [<- HQ.out] at this
 have hC:∀ p,Dvq p Q->Dvq p (aau Q)->aac p<=1:=by have:=Hcp.out hf0;rwa [<- HQ.out] at this
 have p2:2<=aac Q:=by omega
 have HS:=Lh hS
 have ctx:=hS.aAU H1.out
 have ft:=aiG hS p2 hC
 have spl:=amd ctx _ _ _ ft
 obtain ⟨R,hR⟩:∃ R,R=dsl Q (NN+1) ⟨-((cbn Q:Nat):Int),1⟩ ⟨((cbn Q:Nat):Int),1⟩:=⟨_,rfl⟩
 have hR2:aiF Q=R:=hR.symm
 rw[<- hR] at spl
 have hRl:([]:List (Fq×Fq)).length+R.length<=1000000:=by
  have:=aoE hS p2 hC
  rw[hR2] at this
  simp only[List.length_nil]
  omega
 have HR2:=Lh hR2
 have SPL:=Lh spl
 have Ctx:=Lh ctx
 have hfA:=ft.1.fa
 have hfB:=ft.1.fb
 clear hr hlt HD hf0 hS hC spl hR2 hR ctx ft
 have jb:=aak w2 (.cells #[.slice A1 l1 c1,.slice none 0 0] 55)
 have hbk:Blk (w2.alloc (.cells #[.slice A1 l1 c1,.slice none 0 0] 55)) w2.heap.size 55 #[.slice A1 l1 c1,.slice none 0 0]:=Blk.new _ _ _
 have HB:=Lh hbk
 have Hw0:=Lh jb
 have hgw:=Hb.out.size
 replace H1:=Lh (H1.out.below ikN jb)
 replace Hb:=Lh (Hb.out.trans (jb.mono Hb.out.size))
 clear jb hbk
 go_wp2_with fail
 obtain ⟨wa,hwa⟩:∃ wa,wa=w2.alloc (.cells #[.slice A1 l1 c1,.slice none 0 0] 55):=⟨_,rfl⟩
 obtain ⟨gs,hgs⟩:∃ gs,gs=w2.heap.size:=⟨_,rfl⟩
 rw[<- hwa,<- hgs]
 rw[<- hwa,<- hgs] at HB
 rw[<- hwa] at H1 Hb Hw0
 rw[<- hgs] at hgw SPL Ctx
 have Hgs:=Lh hgs
 clear hwa hgs
 refine (aqp ikN _ _ _ _ _ H1.out sq (by omega) (fun _=>HS.out.cau)).mono ?_
 rintro e w3 ⟨n3,A3,l3,c3,rfl,h3,hb3⟩
 rw[aqt p2] at h3
 obtain ⟨c,hc⟩:∃ c,c=cbn Q:=⟨_,rfl⟩
 rw[<- hc] at h3 SPL hfA hfB
 have Hc:=Lh hc
 replace HB:=Lh (HB.out.below hb3 HB.out.lt)
 replace Hw0:=Lh (Hw0.out.trans (hb3.mono Hw0.out.size))
 replace Hb:=Lh (Hb.out.trans (hb3.mono Hb.out.size))
 have H3:=Lh h3
 have fc:Fit ((c:Nat):Int):=hfB.fz
 have f1:Fit (((1:Nat):Int)):=hfB.fq
 have e1:(-((c:Nat):Int)).tdiv ((Nat.gcd ((c:Nat):Int).natAbs 1:Nat):Int)=-((c:Nat):Int):=by rw[Nat.gcd_one_right];exact Int.tdiv_one _
 have e2:1 / Nat.gcd ((c:Nat):Int).natAbs 1=1:=by rw[Nat.gcd_one_right]
 have E1:=Lh e1
 have E2:=Lh e2
 clear h3 hb3 H1 hc e1 e2
 go_wp2_with fail
 refine (akw _ _ _ _ _ _ H3.out.at_ fc.sm).mono ?_
 rintro e w5 ⟨⟨n5,A5,l5,c5,B5,m5,d5,rfl,h5,k5⟩,hb5⟩
 have jb:=aak w5 (aaV n5 A5 l5 c5 B5 m5 d5)
 have hbj:=hb5.trans (jb.mono hb5.size)
 have r5:=abV.make h5 k5
 have axn:gs<w5.heap.size:=Nat.lt_of_lt_of_le HB.out.lt hb5.size
 replace HB:=Lh (HB.out.below hbj HB.out.lt)
 replace Hw0:=Lh (Hw0.out.trans (hbj.mono Hw0.out.size))
 replace Hb:=Lh (Hb.out.trans (hbj.mono Hb.out.size))
 obtain ⟨g5,e5⟩:∃ g,g=w5.heap.size:=⟨_,rfl⟩
 rw[<- e5] at r5 axn
 have R5:=Lh r5
 clear h5 k5 hb5 jb hbj r5 H3
 go_wp2_with fail
 rw[<- e5]
 refine (ais _ _ _ _ _ _ _ _ _ _ R5.out.hz R5.out.hq fc f1 Nat.one_pos).mono ?_
 rintro e w6 ⟨⟨n6,A6,l6,c6,B6,m6,d6,rfl,h6,k6⟩,hb6⟩
 rw[E1.out] at h6
 rw[E2.out] at k6
 have jb:=aak w6 (aaV n6 A6 l6 c6 B6 m6 d6)
 have hbj:=hb6.trans (jb.mono hb6.size)
 have r6:=abV.make h6 k6
 have azq:g5<w6.heap.size:=Nat.lt_of_lt_of_le R5.out.lt hb6.size
 replace R5:=Lh (R5.out.move hbj)
 replace HB:=Lh (HB.out.below hbj HB.out.lt)
 replace Hw0:=Lh (Hw0.out.trans (hbj.mono Hw0.out.size))
 replace Hb:=Lh (Hb.out.trans (hbj.mono Hb.out.size))
 have R6:=Lh r6
 clear e5 h6 k6 hb6 jb hbj r6
 go_wp2_with fail
 obtain ⟨wk,hwk⟩:∃ wk,wk=w6.alloc (aaV n6 A6 l6 c6 B6 m6 d6):=⟨_,rfl⟩
 obtain ⟨g6,e6⟩:∃ g,g=w6.heap.size:=⟨_,rfl⟩
 rw[<- hwk] at R5 R6 HB Hb Hw0 ⊢
 rw[<- e6] at R6 azq ⊢
 clear hwk e6
 have x0:=R5.out.c0
 have x1:=R5.out.c1
 have x2:=R5.out.c2
 have y0:=R6.out.c0
 have y1:=R6.out.c1
 have y2:=R6.out.c2
 have l5':=R5.out.lt
 have l6':=R6.out.lt
 have ayk:g5≠gs:=by omega
 have aAV:g6≠gs:=by omega
 have azI:l1<=1000000:=by omega
 have Hp:=Lh (Ctx.out.hp.below ikN Hw0.out)
 go_region_held3 (fun w'=>w'.cell? ⟨g5,0,none⟩=some (.bool n5)/\w'.cell? ⟨g5,1,none⟩=some (.slice A5 l5 c5)/\w'.cell? ⟨g5,2,none⟩=some (.slice B5 m5 d5)/\w'.cell? ⟨g6,0,none⟩=some (.bool n6)/\w'.cell? ⟨g6,1,none⟩=some (.slice A6 l6 c6)/\w'.cell? ⟨g6,2,none⟩=some (.slice B6 m6 d6)) (go_keep) (first
  | (go_at_call 21;(have _hx:=G7);go_must (refine (amc gs A1 l1 c1 (.slice none 0 0) Q _ _ _ _ _ _ _ ⟨((c:Nat):Int),1⟩ _ ?_ ?_ azI ?_ ?_ hfB (Ctx.out.eq _ _ hfB.z hfB.q)).mono ?_;(exact (HB.out.below G7.out HB.out.lt).below Bel.go (HB.out.below G7.out HB.out.lt).lt);(exact (Hp.out.below ikN G7.out).below ikN Bel.go);(exact (R5.out.move G7.out).hz.below Bel.go);(exact (R5.out.move G7.out).hq.below Bel.go);rintro e w9 ⟨rfl,hb9⟩;have hbz:Below w7.heap.size w7 w9:=Below.trans Bel.go (hb9.mono (by simp<;>omega));have G9:Hid (Below wk.heap.size wk w9):=Lh (G7.out.trans (hbz.mono G7.out.size));obtain ⟨hcx,hfx⟩:=aap hb9;have q0:World.cell? w9 ⟨g5,0,none⟩=some (.bool n5):=(hcx _ (by go_simp)).trans (by go_simp);have q1:World.cell? w9 ⟨g5,1,none⟩=some (.slice A5 l5 c5):=(hcx _ (by go_simp)).trans (by go_simp);have q2:World.cell? w9 ⟨g5,2,none⟩=some (.slice B5 m5 d5):=(hcx _ (by go_simp)).trans (by go_simp);have q3:World.cell? w9 ⟨g6,0,none⟩=some (.bool n6):=(hcx _ (by go_simp)).trans (by go_simp);have q4:World.cell? w9 ⟨g6,1,none⟩=some (.slice A6 l6 c6):=(hcx _ (by go_simp)).trans (by go_simp);have q5:World.cell? w9 ⟨g6,2,none⟩=some (.slice B6 m6 d6):=(hcx _ (by go_simp)).trans (by go_simp);clear hcx hfx hb9 hbz))
  | (go_at_call 21;go_must (refine (amc gs A1 l1 c1 (.slice none 0 0) Q _ _ _ _ _ _ _ ⟨-((c:Nat):Int),1⟩ _ ?_ ?_ azI ?_ ?_ hfA (Ctx.out.eq _ _ hfA.z hfA.q)).mono ?_;(exact HB.out.below Bel.go HB.out.lt);(exact Hp.out.below ikN Bel.go);(exact R6.out.hz.below Bel.go);(exact R6.out.hq.below Bel.go);rintro e w7 ⟨rfl,hb7⟩;have G7:Hid (Below wk.heap.size wk w7):=Lh (Below.trans Bel.go (hb7.mono (by simp<;>omega)));obtain ⟨hcx,hfx⟩:=aap hb7;have j0:World.cell? w7 ⟨g5,0,none⟩=some (.bool n5):=(hcx _ (by go_simp)).trans (by go_simp);have j1:World.cell? w7 ⟨g5,1,none⟩=some (.slice A5 l5 c5):=(hcx _ (by go_simp)).trans (by go_simp);have j2:World.cell? w7 ⟨g5,2,none⟩=some (.slice B5 m5 d5):=(hcx _ (by go_simp)).trans (by go_simp);have j3:World.cell? w7 ⟨g6,0,none⟩=some (.bool n6):=(hcx _ (by go_simp)).trans (by go_simp);have j4:World.cell? w7 ⟨g6,1,none⟩=some (.slice A6 l6 c6):=(hcx _ (by go_simp)).trans (by go_simp);have j5:World.cell? w7 ⟨g6,2,none⟩=some (.slice B6 m6 d6):=(hcx _ (by go_simp)).trans (by go_simp);clear hcx hfx hb7))
  | (go_at_call 20;go_must (refine (SPL.out (.slice none 0 0) [] _ _ _ _ _ _ _ _ _ _ _ _ _ _ _ _ rfl rfl _ hRl ?_ ?_ (Or.inl ⟨rfl,rfl⟩) ?_ ?_ ?_ ?_).mono ?_;(exact Below.trans (Hw0.out.trans (G9.out.mono Hw0.out.size)) (Below.mono Bel.go (Hw0.out.trans (G9.out.mono Hw0.out.size)).size));(exact (HB.out.below G9.out HB.out.lt).below Bel.go (HB.out.below G9.out HB.out.lt).lt);(exact (R6.out.move G9.out).hz.below Bel.go);(exact (R6.out.move G9.out).hq.below Bel.go);(exact (R5.out.move G9.out).hz.below Bel.go);(exact (R5.out.move G9.out).hq.below Bel.go);rintro e w12 ⟨⟨v12,rfl⟩,F',hB',hF',hfr,-⟩;obtain ⟨r5e,r6e,fre,hfe⟩:=aw3 (Below.trans G9.out (Below.mono Bel.go G9.out.size)) HB.out (aai _ _ _) hfr hB' hF' R5.out ayk R6.out aAV;have ST:=Lh (And.intro fre hfe);have k0:=r5e.c0;have k1:=r5e.c1;have k2:=r5e.c2;have k3:=r6e.c0;have k4:=r6e.c1;have k5:=r6e.c2;clear r5e r6e fre hfe hB' hF' hfr)))
 rename_i hHeld
 obtain ⟨F',hB',hF'⟩:=ST.out.2
 obtain ⟨A',l',c',rfl,hR⟩:=hF'.rts
 have y9:w12.cell? ⟨gs,1,none⟩=some (.slice A' l' c'):=(hB'.cell 1).trans rfl
 have hbf:Below w.heap.size w w12:=ST.out.1.mono Hb.out hgw hgw Hb.out.size
 have Hbf:=Lh hbf
 have HR:=Lh hR
 have hgl:=hB'.lt
 clear hHeld hbf hR hB' hF' ST k0 k1 k2 k3 k4 k5 j0 j1 j2 j3 j4 j5 q0 q1 q2 q3 q4 q5 x0 x1 x2 y0 y1 y2 G7 G9 R5 R6 HB Hb Hw0 SPL Ctx Hp
 go_wp2_with fail
 go_ret
 exact ⟨⟨_,_,_,rfl,by rw[Hr.out,HR2.out];exact HR.out⟩,Hbf.out⟩
end Go.Proofs.YtdimmlckpgpgcaaGreat
namespace Go.Proofs.YtdimmlckpgpgcaaGreat
open Go Go.RowKit
def aw4 (P:Prop) (e:Ending):Prop:=∃ v:Bool,e=.returned (.bool v)/\(v=true↔P)
theorem aw4.get {P:Prop} {e:Ending} (h:aw4 P e) (p:P):e=.returned (.bool true):=by
 obtain ⟨v,rfl,hv⟩:=h
 rw[hv.2 p]
theorem aoI.get {w:World} {g o:Nat} {rs:List (Fq×Fq)} (h:aoI w g o rs) {k:Nat} (hk:k<rs.length) :
 ∃ n A l c B m d n' A' l' c' B' m' d',w.cell? ⟨g,o+k*6,none⟩=some (.bool n)/\w.cell? ⟨g,o+k*6+1,none⟩=some (.slice A l c)/\w.cell? ⟨g,o+k*6+2,none⟩=some (.slice B m d)/\w.cell? ⟨g,o+k*6+3,none⟩=some (.bool n')/\w.cell? ⟨g,o+k*6+4,none⟩=some (.slice A' l' c')/\w.cell? ⟨g,o+k*6+5,none⟩=some (.slice B' m' d') /\
   aaE w n A l c (rs.getD k r00).1.z/\aaW w B m d (rs.getD k r00).1.q/\aaE w n' A' l' c' (rs.getD k r00).2.z/\aaW w B' m' d' (rs.getD k r00).2.q:=by
 have e:rs[k]?=some (rs.getD k r00):=by rw[List.getD_eq_getElem?_getD,List.getElem?_eq_getElem hk];rfl
 obtain ⟨vs,⟨n,A,l,c,B,m,d,n',A',l',c',B',m',d',hv,h1,h2,h3,h4⟩,hc⟩:=h k _ e
 subst hv
 exact ⟨n,A,l,c,B,m,d,n',A',l',c',B',m',d',hc 0 _ rfl,hc 1 _ rfl,hc 2 _ rfl,hc 3 _ rfl,hc 4 _ rfl,hc 5 _ rfl,h1,h2,h3,h4⟩
end Go.Proofs.YtdimmlckpgpgcaaGreat
namespace Go.Proofs.YtdimmlckpgpgcaaGreat
open Go Go.RowKit
section
variable {f:List Int}
theorem ame {Q:List Int}:∀ (n:Nat) (a b:Fq),avv Q n a b->∀ r∈dsl Q n a b,FqB r.1/\FqB r.2
 | 0,_,_,h,_,_=>h.elim
 | n+1,a,b,⟨hf,h⟩,r,hr=>by
   have e:dsl Q (n+1) a b=if dvr Q a b=0 then [] else if dvr Q a b=1/\a.sgn Q≠0/\b.sgn Q≠0 then [(a.nf,b.nf)] else dsl Q n a (a.mid b) ++ (if (a.mid b).sgn Q=0 then [((a.mid b).nf,(a.mid b).nf)] else []) ++ dsl Q n (a.mid b) b:=rfl
   rw[e] at hr
   by_cases c1:dvr Q a b=0
   ·rw[if_pos c1] at hr;simp at hr
   rw[if_neg c1] at hr
   by_cases c2:dvr Q a b=1/\a.sgn Q≠0/\b.sgn Q≠0
   ·rw[if_pos c2,List.mem_singleton] at hr
    rw[hr]
    exact ⟨hf.fa.nf,hf.fb.nf⟩
   rw[if_neg c2] at hr
   obtain ⟨h1,h2,h3⟩:=(h.resolve_left c1).resolve_left c2
   rcases List.mem_append.1 hr with hr | hr
   ·rcases List.mem_append.1 hr with hr | hr
    ·exact ame n _ _ h2 r hr
    ·by_cases c3:(a.mid b).sgn Q=0
     ·rw[if_pos c3,List.mem_singleton] at hr
      rw[hr]
      exact ⟨h1.nf,h1.nf⟩
     ·rw[if_neg c3] at hr;simp at hr
   ·exact ame n _ _ h3 r hr
theorem amf (h0:aac f=0):acw f=[]:=by
 unfold acw
 rw[if_pos (by rw[abv h0];decide)]
theorem akY (h9:P9 f) (h0:aac f≠0):∃ xs,RF f xs (acf f)/\RF f xs (acw f):=by
 obtain ⟨xs,h⟩:=awK h9.pq h0
 refine ⟨xs,h,?_⟩
 by_cases hl:aac (aaP f)<2
 ·have e:acw f=acf f:=by unfold acw acf;rw[if_pos hl,if_pos hl]
  rw[e]
  exact h
 ·have e:acw f=aiF (aaP f):=by unfold acw;rw[if_neg hl]
  rw[e]
  have hs:=SqF.of9 h9.pq h0
  have hc:=csq h9 h0
  have hq:=acL h9.pq.q h0
  have hx2:Lst (fun x=>sgp (aaP f) x=0) xs:=h.lst.congr fun x=>(hq.root x).symm
  have hi:=aiH hs (by omega) hc hx2
  have hg:=hi.get
  exact ⟨hi.length,h.lst,fun k hk=>(hg.1 k hk).1.v ((h.lst.2 _).1 (getD_mem hk _)) fun y=>(hq.root y).symm,hg.2,ame _ _ _ (aiG hs (by omega) hc)⟩
theorem akZ (h9:P9 f):azA f (acw f):=by
 by_cases h0:aac f=0
 ·rw[amf h0]
  exact ⟨by rw[ani h0];rfl,fun k hk=>absurd hk (Nat.not_lt_zero _)⟩
 ·obtain ⟨xs,_,h⟩:=akY h9 h0
  exact ⟨by rw[h.len,agb h9.pq h0 h.lst],fun k hk=>⟨h.vld h9.pq h0 (by rw[<- h.len];exact hk),fun hk0=>h.pr (by omega) (by rw[<- h.len];exact hk)⟩⟩
theorem ahT (h9:P9 f):(acw f).length=(acf f).length:=by
 have h1:=(akZ h9).1
 have h2:=(aot h9.pq).1
 omega
end
end Go.Proofs.YtdimmlckpgpgcaaGreat
namespace Go.Proofs.YtdimmlckpgpgcaaGreat
open Go Go.RowKit
theorem aw5 (w:World):afw (w.alloc (.cells #[.int .i64 (-2),.int .i64 0,.int .i64 1] 2)) (some ⟨w.heap.size,0,none⟩) 3 3 w2:=by
 refine ⟨rfl,by omega,.inr ⟨w.heap.size,0,rfl,by simp,fun j hj=>?_⟩⟩
 match j,hj with
 | 0,_=>simp[w2]
 | 1,_=>simp[w2]
 | 2,_=>simp[w2]
theorem asz:aaf w2=w2:=by decide
end Go.Proofs.YtdimmlckpgpgcaaGreat
namespace Go.Proofs.YtdimmlckpgpgcaaGreat
open Go Go.RowKit
theorem avg:nall w2=2:=by decide +kernel
set_option maxHeartbeats 1000000 in
theorem agq (w:World) :
 Calls Tryz.prog 4 #[] w fun e w'=>e=.returned (.bool true)/\Below w.heap.size w w':=by
 have jb:=aak w (.cells #[.int .i64 (-2),.int .i64 0,.int .i64 1] 2)
 have hat:=aw5 w
 have Hb:=Lh jb
 clear jb
 go_enter Tryz.func4,Tryz.ntmps4
 go_wp2_with fail
 refine (ale _ _ _ _ _ hat (by intro c hc;simp[w2] at hc;rcases hc with rfl | rfl | rfl<;>(unfold I64;omega)) (by omega)).mono ?_
 rintro e w1 ⟨A1,l1,c1,rfl,h1,hb1⟩
 rw[show aaf w2=w2 from asz] at h1
 have hl1:l1<=3:=by have:=h1.length;have e:w2.length=3:=rfl;omega
 replace Hb:=Lh (Hb.out.trans (hb1.mono Hb.out.size))
 have h9:=awI
 have HP:=Lh h1
 clear hb1 hat h1
 go_wp2_with fail
 refine (awv ikN _ _ _ w2 _ HP.out h9.pq (by omega)).mono ?_
 rintro e w3 ⟨rfl,hb3⟩
 rw[avg]
 replace HP:=Lh (HP.out.below ikN hb3)
 replace Hb:=Lh (Hb.out.trans (hb3.mono Hb.out.size))
 clear hb3
 go_wp2_with fail
 refine (akK ikN _ _ _ w2 _ HP.out h9.cp.fit.smp (fun _=>h9.pq.q) (fun h=>SqF.of9 h9.pq h) (by omega)).mono ?_
 rintro e w4 ⟨⟨A2,l2,c2,rfl,h2⟩,hb4⟩
 obtain rfl:l2=2:=by rw[<- h2.length];exact akM
 replace HP:=Lh (HP.out.below ikN hb4)
 replace Hb:=Lh (Hb.out.trans (hb4.mono Hb.out.size))
 clear hb4 h2
 go_wp2_with fail
 refine (aiI ikN _ _ _ w2 _ HP.out h9.cp.fit.smp (fun _=>h9.pq.q) (fun h=>SqF.of9 h9.pq h) (fun h=>csq h9 h) (by omega)).mono ?_
 rintro e w5 ⟨⟨A3,l3,c3,rfl,h3⟩,hb5⟩
 obtain rfl:l3=2:=by rw[<- h3.length,ahT h9];exact akM
 replace Hb:=Lh (Hb.out.trans (hb5.mono Hb.out.size))
 clear hb5 h3 HP
 go_wp2
 go_ret
 exact ⟨rfl,Hb.out⟩
set_option maxRecDepth 100000 in
set_option maxHeartbeats 8000000 in
theorem amg (A:Option Addr) (la ca:Nat) (F:List Int) (w:World) (hf:aaw ak1 w A la ca F) :
 Calls Tryz.prog 3 #[.slice A la ca] w fun e w'=>e=.returned (.bool true)/\Below w.heap.size w w':=by
 go_enter Tryz.func3,Tryz.ntmps3
 go_wp2_with fail
 refine (agq _).mono ?_
 rintro e w1 ⟨rfl,hb1⟩
 have Hb:=Lh hb1
 replace hf:=axA.below hf hb1
 clear hb1
 go_wp2_with fail
 refine (ari 9 1 _ _ _ _ _ hf (by omega) (by omega)).mono ?_
 rintro e w2' ⟨⟨b1,rfl,hb1⟩,rfl⟩
 clear hf
 cases b1 with
 | false =>
   clear hb1
   go_wp2_with fail;refine (agq _).mono ?_;rintro e wz ⟨rfl,hbz⟩;replace Hb:=Lh (Hb.out.trans (hbz.mono Hb.out.size));clear hbz;go_wp2;go_ret;exact ⟨rfl,Hb.out⟩
 | true =>
 have hq:=hb1 rfl
 obtain ⟨F9,lF,F1⟩:=ayc hq
 have HP:=Lh hq.at_
 have hla:la<=9:=by have:=hq.at_.length;omega
 clear hb1 hq
 go_wp2_with fail
 refine (aaX _ _ _ _ _ HP.out F9.cp.fit.smp (by omega)).mono ?_
 rintro e w3 ⟨rfl,hb3⟩
 replace HP:=Lh (HP.out.below afR hb3)
 replace Hb:=Lh (Hb.out.trans (hb3.mono Hb.out.size))
 obtain ⟨D,hD⟩:∃ D,D=((aac F:Nat):Int)-1:=⟨_,rfl⟩
 rw[<- hD]
 by_cases h0:aac F=0
 ·have b1:decide (D<0)=true:=decide_eq_true (by omega)
  clear hD hb3 h0 HP
  go_wp2_with fail;refine (agq _).mono ?_;rintro e wz ⟨rfl,hbz⟩;replace Hb:=Lh (Hb.out.trans (hbz.mono Hb.out.size));clear hbz;go_wp2;go_ret;exact ⟨rfl,Hb.out⟩
 have b1:decide (D<0)=false:=decide_eq_false (by omega)
 clear hD hb3
 go_wp2_with fail
 refine (akK afR _ _ _ F _ HP.out F9.cp.fit.smp (fun _=>F9.pq.q) (fun h=>SqF.of9 F9.pq h) (by omega)).mono ?_
 rintro e w4 ⟨⟨AM,lm,cm,rfl,h4⟩,hb4⟩
 replace HP:=Lh (HP.out.below afR hb4)
 replace Hb:=Lh (Hb.out.trans (hb4.mono Hb.out.size))
 have HM:=Lh h4
 have hlm:lm<=9:=by rw[<- h4.length];exact aos F9.pq
 clear hb4 h4
 go_wp2_with fail
 refine (aiI afR _ _ _ F _ HP.out F9.cp.fit.smp (fun _=>F9.pq.q) (fun h=>SqF.of9 F9.pq h) (fun h=>csq F9 h) (by omega)).mono ?_
 rintro e w5 ⟨⟨AL,ll,cl,rfl,h5⟩,hb5⟩
 obtain rfl:ll=lm:=by rw[<- h5.length,<- HM.out.length,ahT F9]
 replace HP:=Lh (HP.out.below afR hb5)
 replace HM:=Lh (HM.out.below hb5)
 replace Hb:=Lh (Hb.out.trans (hb5.mono Hb.out.size))
 have HL:=Lh h5
 have hnl:=agl F9.pq h0
 rw[HM.out.length] at hnl
 clear hb5 h5 b1
 go_wp2_with fail
 refine (awv afR _ _ _ F _ HP.out F9.pq (by omega)).mono ?_
 rintro e w6 ⟨rfl,hb6⟩
 rw[<- hnl]
 replace HP:=Lh (HP.out.below afR hb6)
 replace HM:=Lh (HM.out.below hb6)
 replace HL:=Lh (HL.out.below hb6)
 replace Hb:=Lh (Hb.out.trans (hb6.mono Hb.out.size))
 have hnn:((ll:Int) != (ll:Int))=false:=by simp
 obtain ⟨xs,rf1,rf2⟩:=akY F9 h0
 have R1:=Lh rf1
 have R2:=Lh rf2
 obtain ⟨rs,hrs⟩:∃ rs,rs=acf F:=⟨_,rfl⟩
 obtain ⟨ts,hts⟩:∃ ts,ts=acw F:=⟨_,rfl⟩
 rw[<- hrs] at HM R1
 rw[<- hts] at HL R2
 clear hrs hts hb6 hnl rf1 rf2
 go_wp2_with fail
 clear hnn
 obtain ⟨wo,hwo⟩:∃ wo,wo=w6:=⟨_,rfl⟩
 rw[<- hwo] at HP HM HL Hb ⊢
 clear hwo
 go_loopw [5] (fun s5 wr=>∃ k:Nat,k<=ll/\s5=.int .i64 (k:Int)/\Below wo.heap.size wo wr) (fun s5 _=>ll-(intOf s5).toNat)
 case atStart=>exact ⟨0,Nat.zero_le _,rfl,Below.refl _ _⟩
 case round =>
  obtain ⟨k,hk,rfl,hbw⟩:=hrel
  have HLr:=Lh (HL.out.below hbw)
  have HMr:=Lh (HM.out.below hbw)
  have HPr:=Lh (HP.out.below afR hbw)
  have Hbw:=Lh hbw
  by_cases hlt:k<ll
  ·have Hkl:=Lh hlt
   obtain ⟨b,o,rfl,hb0,hv⟩:∃ b o,AM=some ⟨b,o,none⟩/\b<wr.heap.size/\aoI wr b o rs:=by
    rcases HMr.out.elems with ⟨h0,_⟩ | h
    ·omega
    ·exact h
   obtain ⟨b',o',rfl,aBM,hv'⟩:∃ b o,AL=some ⟨b,o,none⟩/\b<wr.heap.size/\aoI wr b o ts:=by
    rcases HLr.out.elems with ⟨h0,_⟩ | h
    ·omega
    ·exact h
   have hkl:k<rs.length:=by rw[HMr.out.length];exact hlt
   have hkm:k<ts.length:=by rw[HLr.out.length];exact hlt
   obtain ⟨n,A1,l1,c1,B1,m1,d1,n',A2,l2,c2,B2,m2,d2,e0,e1,e2,e3,e4,e5,z1,z2,z3,z4⟩:=hv.get hkl
   obtain ⟨n3,A3,l3,c3,B3,m3,d3,n4,A4,l4,c4,B4,m4,d4,u0,u1,u2,u3,u4,u5,y1,y2,y3,y4⟩:=hv'.get hkm
   have hkx:k<xs.length:=by rw[<- R1.out.len];exact hkl
   obtain ⟨fa,fb⟩:=R1.out.fa hkx
   obtain ⟨fc,fd⟩:=R2.out.fa hkx
   have I1:=Lh (R1.out.iso k hkx)
   have I2:=Lh (R2.out.iso k hkx)
   obtain ⟨r,hr⟩:∃ r,r=rs.getD k r00:=⟨_,rfl⟩
   obtain ⟨t,ht⟩:∃ t,t=ts.getD k r00:=⟨_,rfl⟩
   rw[<- hr] at z1 z2 z3 z4 fa fb I1
   rw[<- ht] at y1 y2 y3 y4 fc fd I2
   have ka:(k:Int)<(ll:Int):=by omega
   have w1:IntKind.i64.wrap ((k:Int)+1)=(k:Int)+1:=IntWalk.i64_in _ (by omega)
   have Z1:=Lh z1;have Z2:=Lh z2;have Z3:=Lh z3;have Z4:=Lh z4
   have Y1:=Lh y1;have Y2:=Lh y2;have Y3:=Lh y3;have Y4:=Lh y4
   clear z1 z2 z3 z4 y1 y2 y3 y4 hv hv' hr ht hk hlt hbw hkl hkm hkx
   go_wp2_with fail
   refine wp_region_held_drew (S:=fun w'=>(w'.cell? ⟨b,o+k*6,none⟩=some (.bool n)/\w'.cell? ⟨b,o+k*6+1,none⟩=some (.slice A1 l1 c1)/\w'.cell? ⟨b,o+k*6+2,none⟩=some (.slice B1 m1 d1)/\w'.cell? ⟨b,o+k*6+3,none⟩=some (.bool n')/\w'.cell? ⟨b,o+k*6+4,none⟩=some (.slice A2 l2 c2)/\w'.cell? ⟨b,o+k*6+5,none⟩=some (.slice B2 m2 d2))/\(w'.cell? ⟨b',o'+k*6,none⟩=some (.bool n3)/\w'.cell? ⟨b',o'+k*6+1,none⟩=some (.slice A3 l3 c3)/\w'.cell? ⟨b',o'+k*6+2,none⟩=some (.slice B3 m3 d3)/\w'.cell? ⟨b',o'+k*6+3,none⟩=some (.bool n4)/\w'.cell? ⟨b',o'+k*6+4,none⟩=some (.slice A4 l4 c4)/\w'.cell? ⟨b',o'+k*6+5,none⟩=some (.slice B4 m4 d4))) (by kernel_rfl) (by (try dsimp only);go_keep) (fun hHeld=>?_)
   (refine tq 0 ?_;simp only[aad,List.set])
   (refine tq 1 ?_;simp only[aad,List.set])
   (refine tq 2 ?_;simp only[aad,List.set])
   (refine tq 3 ?_;simp only[aad,List.set])
   (refine tq 4 ?_;simp only[aad,List.set])
   (refine tq 5 ?_;simp only[aad,List.set])
   (refine tq 6 ?_;simp only[aad,List.set])
   (refine tq 7 ?_;simp only[aad,List.set])
   (refine tq 8 ?_;simp only[aad,List.set])
   (refine tq 9 ?_;simp only[aad,List.set])
   refine rdy 10 (fun K hK=>?_);go_simp
   refine (aow (r:=r) (s:=t) afR (HPr.out.below afR Bel.go) lF F9 F1 h0 (Z1.out.below Bel.go) (Z2.out.below Bel.go) (Z3.out.below Bel.go) (Z4.out.below Bel.go) (Y1.out.below Bel.go) (Y2.out.below Bel.go) (Y3.out.below Bel.go) (Y4.out.below Bel.go) fa fb fc fd I1.out I2.out).mono ?_
   rintro e w7 ⟨rfl,hb7⟩
   obtain ⟨hcx,hfx⟩:=aap hb7
   have G7:=Lh ((Below.trans Bel.go (hb7.mono (by simp<;>omega))):Below wr.heap.size wr w7)
   refine hK.out _ _ ?_ (fun _=>?_)
   ·((try dsimp only);repeat' apply And.intro)<;>(rw[hcx _ (by go_simp)];go_simp)
   clear hHeld hK K hcx hfx;rename_i hHeld
   clear hb7
   (refine tq 11 ?_;simp only[aad,List.set])
   (refine tq 12 ?_;simp only[aad,List.set])
   (refine tq 13 ?_;simp only[aad,List.set])
   (refine tq 14 ?_;simp only[aad,List.set])
   (refine tq 15 ?_;simp only[aad,List.set])
   refine wpAnyH_done (by kernel_rfl) ?_ _
   have Hbx:=Lh (Hbw.out.trans (G7.out.mono Hbw.out.size))
   go_wp2_with fail
   go_roundw
   (case rel=>exact ⟨k+1,Hkl.out,by go_num,Hbx.out⟩)
   (case measure=>have:=Hkl.out;simp[intOf];omega)
  ·have t1:¬ (k:Int)<(ll:Int):=by omega
   have Hbx:=Lh hbw
   clear hlt
   go_wp2
   go_ret
   exact ⟨rfl,Hb.out.trans (Hbx.out.mono Hb.out.size)⟩
end Go.Proofs.YtdimmlckpgpgcaaGreat
namespace Go.Proofs.YtdimmlckpgpgcaaGreat
open Go.ChangeShapes Go.WideShapes Go.ChangeAt Go.RowKit
set_option maxRecDepth 100000 in
theorem ah1 (os:Os) (started:os.Started) (H:Type) (enc:TypeId×Value->H) :
 ReturnsInHanded {} Tryz.checked os 3 .any (Rows.topIsolationsSpec.pre6 enc Tryz.prog Tryz.f3 Rows.topIsolationsRow.domain false) (Rows.topIsolationsSpec.post enc Tryz.prog Tryz.f3 false true false false):=by
 refine returnsInHanded_of_change (C:=Tryz.checked) Tryz.own started (by kernel_rfl) Tryz.func3
  (ChangeSpec.witness6 (enc:=enc) (C:=Tryz.checked) false ⟨#[],#[.slice none 0 0],[]⟩ 8 (by kernel_rfl) (by kernel_rfl) (by kernel_rfl) (by kernel_rfl)) ?_
 intro W base args ds gs before hval0 hW hcnd _
 exact akE _ Tryz.f3 Tryz.params3 rfl enc _ rfl (fun _=>rfl) (fun A len cap p w h=>amg A len cap p w h) W args ds gs before hval0 hW
theorem topIsolations_holds:Rows.TopIsolationsSaid :=
 OpenClaim.holds_of_wide 3 Tryz.f3 rfl rfl rfl rfl rfl rfl rfl ⟨rfl,rfl,rfl,rfl,rfl⟩ rfl rfl rfl rfl rfl (by kernel_rfl) Tryz.func3 (by kernel_rfl)
  (of_decide_eq_true (by kernel_rfl)) (by unfold Func.isWrapper;first | (rw[if_pos (by decide +kernel)];kernel_rfl) | (rw[if_neg (by decide +kernel)];exact ⟨rfl,rfl⟩))
  (fun os started H enc _=>ah1 os started H enc)
#print axioms topIsolations_holds
end Go.Proofs.YtdimmlckpgpgcaaGreat
