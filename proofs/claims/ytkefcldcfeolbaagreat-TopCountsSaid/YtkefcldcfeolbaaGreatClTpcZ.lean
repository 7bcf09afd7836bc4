/- For every two polynomials the law TopCounts returns true and its arguments read as before: the signs of the second one at the roots of the first are as many as the Tarski queries say. No condition. -/
import Derived.Test.YtkefcldcfeolbaaGreatRowP
import Derived.Test.YtkefcldcfeolbaaGreatFew
import Derived.Deep.SlicePairs
import Derived.Test.YtkefcldcfeolbaaGreatSqw
import Derived.Test.YtkefcldcfeolbaaGreatExq
import Derived.Test.YtkefcldcfeolbaaGreatIvp
import Derived.Test.YtkefcldcfeolbaaGreatSpq
import Derived.Test.YtkefcldcfeolbaaGreatHfw
import Derived.Test.YtkefcldcfeolbaaGreatSrc
import Derived.Test.YtkefcldcfeolbaaGreatIsx
import Derived.Test.YtkefcldcfeolbaaGreatHfp
import Derived.Test.YtkefcldcfeolbaaGreatStd
import Derived.Test.YtkefcldcfeolbaaGreatLes
import Derived.Test.YtkefcldcfeolbaaGreatDer
import Derived.Test.YtkefcldcfeolbaaGreatIdP
import Derived.Test.YtkefcldcfeolbaaGreatRatD
import Derived.Test.YtkefcldcfeolbaaGreatPow
import Derived.Test.YtkefcldcfeolbaaGreatAwl
import Derived.Test.YtkefcldcfeolbaaGreatRbH
import Derived.Test.YtkefcldcfeolbaaGreatSte
import Derived.Test.YtkefcldcfeolbaaGreatPart
import Derived.Test.YtkefcldcfeolbaaGreatIsv
namespace Go.Proofs.YtkefcldcfeolbaaGreat
open Go.ChangeShapes Go.WideShapes Go.ChangeAt Go.RowKit
theorem Tryz.cellsInt:Tryz.prog.cellsOf 36=2:=by kernel_rfl
theorem Tryz.cellsNat:Tryz.prog.cellsOf 34=1:=by kernel_rfl
theorem Tryz.cellsBool:Tryz.prog.cellsOf 4=1:=by kernel_rfl
theorem Tryz.cellsU32:Tryz.prog.cellsOf 103=1:=by kernel_rfl
theorem arz {n:Int} (h:(Lit.int .u32 n).wf=true):0<=n/\n<4294967296:=by
 have h1:IntKind.u32.min=0:=rfl
 have h2:IntKind.u32.max=4294967295:=rfl
 simp only[Lit.wf,Bool.and_eq_true,decide_eq_true_eq] at h
 omega
theorem aod {H:Type} {enc:TypeId×Value->H} {W:World} {fuel:Nat} {v:Value} {x:DataW H×List MemPlace}
 (h:DataW.trod enc Tryz.prog W 0 (fun _=>true) true fuel 34 [v]=some x) (hlt:∀ y∈x.2,y.block<W.heap.size) :
 ∃ A l c ds,v=.slice A l c/\aaJ W A l c ds:=by
 rcases open_ints Tryz.underlying34 Tryz.underlying103 Tryz.cellsU32 h with ⟨hcs,hx⟩ | ⟨a,len',cap',zs,hcs,_,hl,hm,hz,hx,hcell,hwz⟩
 ·simp at hcs
  exact ⟨none,0,0,[],hcs,aaJ.nil _ _ _⟩
 ·simp at hcs
  simp only[if_true] at hz
  refine ⟨some a,len',cap',(zs.take len').map Int.toNat,hcs,⟨by rw[List.length_map,List.length_take];omega,hl,?_,?_⟩⟩
  ·intro d hd
   obtain ⟨n,hn,rfl⟩:=List.mem_map.1 hd
   have:=arz (hwz n (List.mem_of_mem_take hn))
   rw[aan];omega
  ·by_cases hl0:len'=0
   ·exact .inl hl0
   ·obtain ⟨b,off,spot⟩:=a
    have hspot:spot=none:=by simpa [Addr.add] using World.cell?_spot (hcell 0 (by omega))
    subst hspot
    have hbW:b<W.heap.size:=by
     refine hlt (.cell b off) ?_
     rw[hx]
     exact MemPlace.mem_row.2 ⟨0,by omega,by simp⟩
    refine .inr ⟨b,off,rfl,hbW,fun j hj=>?_⟩
    have h1:=hcell j (by omega)
    rw[show (⟨b,off,none⟩:Addr).add j=⟨b,off+j,none⟩ by simp[Addr.add]] at h1
    rw[h1]
    have h2:=arz (hwz (zs.getD j 0) (by rw[List.getD_eq_getElem?_getD,List.getElem?_eq_getElem (by omega)];exact List.getElem_mem _))
    have h3:((zs.take len').map Int.toNat).getD j 0=(zs.getD j 0).toNat:=by
     simp[List.getD_eq_getElem?_getD,hj,List.getElem?_eq_getElem (show j<zs.length by omega)]
    rw[h3,Int.toNat_of_nonneg h2.1]
theorem ajU {H:Type} {enc:TypeId×Value->H} {W:World} {A:Option Addr} {len cap:Nat} {d:DataW H} {p:List MemPlace}
 (h:DataW.Trod enc Tryz.prog W 0 (fun _=>true) true 23 (.slice A len cap) d p) (hlt:∀ x∈p,x.block<W.heap.size) :
 ∃ zs,aar ajE W A len cap zs:=by
 obtain ⟨fuel,hf⟩:=h
 rcases Go.Deep.open_slice_pairs Tryz.underlying23 Tryz.underlying36 Tryz.cellsInt rfl rfl Tryz.cellsBool Tryz.cellsNat hf with ⟨hcs,hx⟩ | ⟨a,len',cap',m,n,V0,V1,D0,D1,P0,P1,hcs,_,hl,hm,hmm,hx,hall⟩
 ·simp[Value.cells] at hcs
  obtain ⟨rfl,rfl,rfl⟩:=hcs
  exact ⟨[],aar.nil _ _ _ _⟩
 ·simp[Value.cells] at hcs
  obtain ⟨rfl,rfl,rfl⟩:=hcs
  simp only[if_true] at hmm
  subst hmm
  simp only[Prod.mk.injEq] at hx
  have hp:=hx.2
  have each:∀ i,i<len->∃ neg Aj lj cj,∃ z:Int,V0 i=.bool neg/\V1 i=.slice Aj lj cj/\ajE W neg Aj lj cj z:=fun i hi=>by
   obtain ⟨_,_,h0,h1⟩:=hall i (by omega)
   obtain ⟨neg,hv0,_⟩:=DataW.trod_bool Tryz.underlying4 h0
   obtain ⟨Aj,lj,cj,ds,hv1,hd⟩:=aod h1 (fun y hy=>hlt y (by
    rw[hp]
    exact List.mem_append.2 (.inr (List.mem_flatMap.2 ⟨i,List.mem_range.2 (by omega),List.mem_append.2 (.inr hy)⟩))))
   refine ⟨neg,Aj,lj,cj,sgn neg (val ds),by simpa using hv0,hv1,⟨ds,hd,(af9 _ _).symm⟩,by rw[af9]⟩
  have ez:∃ zf:Nat->Int,∀ i,i<len->∃ neg Aj lj cj,V0 i=.bool neg/\V1 i=.slice Aj lj cj/\ajE W neg Aj lj cj (zf i) :=
   ⟨fun i=>if hi:i<len then (each i hi).choose_spec.choose_spec.choose_spec.choose_spec.choose else 0,fun i hi=>by
     obtain ⟨h1,h2,h3⟩:=(each i hi).choose_spec.choose_spec.choose_spec.choose_spec.choose_spec
     exact ⟨_,_,_,_,h1,h2,by simp only[dif_pos hi];exact h3⟩⟩
  obtain ⟨zf,hzf⟩:=ez
  refine ⟨(List.range len).map zf,by simp,hl,?_⟩
  by_cases hl0:len=0
  ·exact .inl hl0
  ·obtain ⟨b,off,spot⟩:=a
   have hspot:spot=none:=by simpa [Addr.add] using World.cell?_spot (hall 0 (by omega)).1
   subst hspot
   have hbW:b<W.heap.size:=by
    refine hlt (.cell b off) ?_
    rw[hp]
    exact List.mem_append.2 (.inl (MemPlace.mem_row.2 ⟨0,by omega,by simp⟩))
   refine .inr ⟨b,off,rfl,hbW,fun j hj=>?_⟩
   obtain ⟨neg,Aj,lj,cj,h1,h2,h3⟩:=hzf j hj
   obtain ⟨c0,c1,_,_⟩:=hall j (by omega)
   rw[show (⟨b,off,none⟩:Addr).add (j*2)=⟨b,off+j*2,none⟩ by simp[Addr.add],h1] at c0
   rw[show (⟨b,off,none⟩:Addr).add (j*2+1)=⟨b,off+j*2+1,none⟩ by simp[Addr.add];omega,h2] at c1
   refine ⟨neg,Aj,lj,cj,c0,c1,?_⟩
   have e:((List.range len).map zf).getD j 0=zf j:=by simp[List.getD_eq_getElem?_getD,hj]
   rw[e];exact h3
set_option maxRecDepth 100000 in
theorem ajV (f:Nat) (fn:Func) (hp:fn.params=#[23,23]) (hr:fn.resultTypes=#[4]) {H:Type} (enc:TypeId×Value->H) (spec:ChangeSpec) (hsv:spec.vars=[]) (hsf:∀ d d',spec.fn H [d,d']={ results:=[.lit (.bool true)],args:=[d,d'] })
 (walk:∀ A la ca p B lb cb q w,aar ajE w A la ca p->aar ajE w B lb cb q->Calls Tryz.prog f #[.slice A la ca,.slice B lb cb] w fun e w'=>e=.returned (.bool true)/\Below w.heap.size w w')
 (W:World) (args:Array Value) (ds gs:List (DataW H)) (before:List MemPlace)
 (hval:∀ (j:Nat) t v,fn.params[j]?=some t->args[j]?=some v->Value.okWide Tryz.prog W .any 0 t v)
 (hW:DataW.Whole enc Tryz.prog fn.params.toList spec.vars false W args.toList ds gs before) :
 Calls Tryz.prog f args W fun e W'=>∃ v,e=Ending.returned v/\spec.post enc Tryz.prog fn false true false false W args v W':=by
 have hW':=hW
 obtain ⟨p,q,hA0,hV,rfl,_,_⟩:=hW
 have hA:DataW.TrodAll enc Tryz.prog W 0 (fun _=>true) true fn.params.toList args.toList ds p:=hA0
 rw[hp] at hA hval
 obtain ⟨v0,v1,d0,d1,p0,p1,rfl,rfl,rfl,h0,h1⟩:=trodAll_two hA
 rw[hsv] at hV
 obtain ⟨rfl,rfl⟩:=trodVars_none hV
 obtain ⟨a0,la,ca,rfl⟩:=okWide_slice Tryz.underlying23 (hval 0 23 v0 rfl rfl)
 obtain ⟨a1,lb,cb,rfl⟩:=okWide_slice Tryz.underlying23 (hval 1 23 v1 rfl rfl)
 simp only[List.append_nil] at hW'
 have hlt:∀ x∈p0 ++ p1,x.block<W.heap.size:=fun x hx=>by simpa using hW'.lt x hx
 have hlt0:∀ x∈p0,x.block<W.heap.size:=fun x hx=>hlt x (List.mem_append.2 (.inl hx))
 have hlt1:∀ x∈p1,x.block<W.heap.size:=fun x hx=>hlt x (List.mem_append.2 (.inr hx))
 obtain ⟨zs,hz⟩:=ajU h0 hlt0
 obtain ⟨ys,hy⟩:=ajU h1 hlt1
 refine (walk a0 la ca zs a1 lb cb ys W hz hy).mono fun e W' ⟨he,hb⟩=>?_
 subst he
 refine ⟨_,rfl,amZ (pa:=p0 ++ p1) (pv:=[]) hW' (fun _ _ _=>?_) (fun sp hs=>?_) (fun _ _=>?_) (by simp) hb ?_⟩
 ·rw[List.append_nil,hsf,hr]
  exact trodAll_mk1 (shut_bool Tryz.underlying4 _)
 ·rw[List.append_nil,hsf,hp]
  exact trodAll_mk2 (Go.WideElems.Trod_stays Tryz.laidOut (by kernel_rfl) (of_decide_eq_true (by kernel_rfl)) h0 (fun x hx=>hb.same (hlt0 x hx)) (fun x hx=>hs x (List.mem_append.2 (.inl hx)))) (Go.WideElems.Trod_stays Tryz.laidOut (by kernel_rfl) (of_decide_eq_true (by kernel_rfl)) h1 (fun x hx=>hb.same (hlt1 x hx)) (fun x hx=>hs x (List.mem_append.2 (.inr hx))))
 ·rw[hsv,List.append_nil,hsf]
  rfl
 ·exact ok_one hr rfl (okWide_bool_mk Tryz.underlying4 _)
end Go.Proofs.YtkefcldcfeolbaaGreat
namespace Go.Proofs.YtkefcldcfeolbaaGreat
open Go.RowKit
theorem ajn {a b:List Int} {n:Nat} (h:aad a=0∨aad b=0∨aad a+aad b<=n+1):aad (aag a b)<=n:=by
 by_cases a0:aad a=0
 ·rw[abV (.inl a0)];exact Nat.zero_le _
 by_cases b0:aad b=0
 ·rw[abV (.inr b0)];exact Nat.zero_le _
 rw[(acu (f:=a) (g:=b) (by omega) (by omega)).1]
 rcases h with h | h | h<;>omega
theorem aq0 {a b:List Int} {X Y:Nat} (ha:∀ j,(a.getD j 0).natAbs<=X) (hb:∀ j,(b.getD j 0).natAbs<=Y) (la:aad a<=16) (j:Nat):((aag a b).getD j 0).natAbs<=16*(X*Y):=by
 rw[aa5,<- arQ a b j (aad a) (Nat.le_refl _)]
 exact Nat.le_trans (aoL ha hb j _) (Nat.mul_le_mul_right _ la)
theorem ahM {a b:List Int} {i k:Nat} (ha:∀ j,(a.getD j 0).natAbs<=BB^i) (hb:∀ j,(b.getD j 0).natAbs<=BB^k) (la:aad a<=16) (j:Nat):((aag a b).getD j 0).natAbs<=BB^(i+k+1):=by
 refine Nat.le_trans (aq0 ha hb la j) ?_
 rw[<- Nat.pow_add]
 exact aeH (by decide)
def dgm (f g:List Int):List Int:=aag (aaf (aaz f)) (aaf g)
theorem aft (f g:List Int) (k:Nat):(dgm f g).getD k 0=(aag (aaz f) g).getD k 0:=ach (fun x=>by unfold dgm;rw[aaC,aaC,afX,afX]) k
def nq (f g:List Int):Int:=ah3 12 f (dgm f g)
theorem amB {f g:List Int} (hf:CP f) (hd:CP (dgm f g)) (h0:aad f≠0) {xs:List Pt} (hx:Lst (fun x=>sgp f x=0) xs):nq f g=aj8 (xs.map (sgp g)):=by
 unfold nq
 rw[amx h0 (abL hf hd).1 hx]
 congr 1
 exact List.map_congr_left fun x h=>apg h0 (aft f g) ((hx.2 x).1 h)
theorem P9.dg {f g:List Int} (h:P9 f) (lf:aad f+aad g<=12) (bg:∀ j,(g.getD j 0).natAbs<=BB):CP (dgm f g):=by
 have h2:=acO f
 refine ⟨by rw[abY (aft f g)];exact ajn (by omega),fun j=>?_⟩
 rw[aft]
 refine Nat.le_trans (ahM (i:=11) (k:=1) (fun j=>acN (k:=10) (by omega) h.b j) (fun j=>by rw[Nat.pow_one];exact bg j) (by omega) j) (aa1 (by decide))
theorem P9.qg {f g:List Int} (h:P9 f) (lf:aad f+aad g<=12) (bg:∀ j,(g.getD j 0).natAbs<=BB):CP (dgm (aaq f) g):=by
 have h2:=acO (aaq f)
 have h3:=h.apm
 refine ⟨by rw[abY (aft (aaq f) g)];exact ajn (by omega),fun j=>?_⟩
 rw[aft]
 refine Nat.le_trans (ahM (i:=17) (k:=1) (fun j=>acN (k:=16) (by omega) h.aiv j) (fun j=>by rw[Nat.pow_one];exact bg j) (by omega) j) (aa1 (by decide))
theorem apt {f g:List Int} (h:aad f=0):nq f g=0:=aku h
theorem atB {f g:List Int} (h:P9 f) (lf:aad f+aad g<=12) (bg:∀ j,(g.getD j 0).natAbs<=BB):nq (aaq f) g=nq f g:=by
 by_cases h0:aad f=0
 ·rw[abW h0,apt h0];exact apt rfl
 ·have hq:=abx h.q h0
  obtain ⟨xs,hx⟩:=abE h0 (fun _=>True)
  have hx1:Lst (fun x=>sgp f x=0) xs:=hx.congr fun x=>⟨fun h=>h.1,fun h=>⟨h,trivial⟩⟩
  rw[amB h.cp (h.dg lf bg) h0 hx1,amB h.part (h.qg lf bg) hq.q0 (hx1.congr fun x=>(hq.root x).symm)]
end Go.Proofs.YtkefcldcfeolbaaGreat
namespace Go.Proofs.YtkefcldcfeolbaaGreat
open Go.RowKit
structure G6 (g:List Int):Prop where
 len:g.length<=6
 b:∀ j,(g.getD j 0).natAbs<=BB
theorem G6.aad {g:List Int} (h:G6 g):aad g<=6:=by have:=aat g;have:=h.len;omega
theorem G6.fit {g:List Int} (h:G6 g):abw g:=fun j=>Nat.lt_of_le_of_lt (h.b j) (by rw[show BB=BB^1 from (Nat.pow_one _).symm,<- Nat.pow_mul,Nat.one_mul];exact Nat.pow_lt_pow_right (by rw[aan];decide) (by rw[abZ];decide))
theorem anB (f g:List Int):(aag f g).length<=f.length+g.length:=by
 unfold aag
 split
 ·exact Nat.zero_le _
 ·rw[ab8];omega
set_option maxHeartbeats 400000 in
theorem amC {I J:aas} (hI:IK I) (hJ:IK J) (A:Option Addr) (la ca:Nat) (f:List Int) (B:Option Addr) (lb cb:Nat) (g:List Int) (w:World) (hf:aar I w A la ca f) (hg:aar J w B lb cb g) (h9:P9 f) (l6:aad f+aad g<=12) (hg6:G6 g) (hla:la<=1000000) :
 Calls Tryz.prog 10 #[.slice A la ca,.slice B lb cb] w fun e w'=>e=.returned (.int .i64 (nq f g))/\Below w.heap.size w w':=by
 have sf:=h9.cp.fit.smp
 have c1:=h9.part
 have c2:=h9.aaz
 have c3:=h9.qg l6 hg6.b
 have hn:=Lh (atB h9 l6 hg6.b)
 have ht:=h9.aiw
 have hlb:lb<=6:=by have:=hg.length;have:=hg6.len;omega
 obtain ⟨V,hV⟩:∃ V,V=nq f g:=⟨_,rfl⟩
 rw[<- hV] at hn ⊢
 have HG:=Lh hg
 clear hV hg
 go_enter Tryz.func10,Tryz.ntmps10
 go_wp2_with fail
 refine (ahK hI _ _ _ _ _ hf sf (fun _=>h9.q) hla).mono ?_
 rintro e w1 ⟨A1,l1,c1',rfl,h1,hb1⟩
 have hl:=h1.length
 have hlp:=c1.len
 have hl1:l1<=10:=by rw[<- hl,<- ht,aae];exact hlp
 replace HG:=Lh (HG.out.below hJ hb1)
 have Hb1:=Lh hb1
 obtain ⟨Q,hQ⟩:∃ Q,Q=aaq f:=⟨_,rfl⟩
 rw[<- hQ] at h1 c1 c2 c3 hn
 have H1:=Lh h1
 clear hf hb1 hl ht hlp hQ h1
 go_wp2_with fail
 refine (acp ikN _ _ _ _ _ H1.out c1.fit.smp (by omega)).mono ?_
 rintro e w4 ⟨A4,l4,c4,rfl,h4,hb4⟩
 have hl4:l4<=10:=by have:=h4.length;rw[abm] at this;have:=H1.out.length;have:=aat Q;omega
 replace H1:=Lh (H1.out.below ikN hb4)
 replace HG:=Lh (HG.out.below hJ hb4)
 have Hb4:=Lh (Hb1.out.trans (hb4.mono Hb1.out.size))
 clear hb4 Hb1
 go_wp2_with fail
 refine (acS ikN hJ _ _ _ (aaz Q) _ _ _ g _ h4 HG.out c2.fit hg6.fit (by omega) (by omega)).mono ?_
 rintro e w5 ⟨A5,l5,c5,rfl,h5,hb5⟩
 have hl5:l5<=20:=by
  have:=h5.length
  have:=anB (aaf (aaz Q)) (aaf g)
  rw[aae,aae] at this
  have:=hg6.aad
  have:=c2.len
  omega
 replace H1:=Lh (H1.out.below ikN hb5)
 have Hb5:=Lh (Hb4.out.trans (hb5.mono Hb4.out.size))
 obtain ⟨k1,k2,k3,k4⟩:=abL c1 c3
 clear hb5 Hb4 h4 HG
 go_wp2_with fail
 refine (akg _ _ _ Q _ _ _ (dgm Q g) _ H1.out h5 c1.fit.smp c3.fit.smp (by omega) (by omega) 12 k1 (by omega)).mono ?_
 rintro e w2' ⟨A2,l2,c2',rfl,h2,hb2⟩
 have Hb2:=Lh (Hb5.out.trans (hb2.mono Hb5.out.size))
 clear h5 hb2 Hb5 H1
 go_wp2_with fail
 refine (apq _ _ _ _ _ _ _ h2 k2 (by omega)).mono ?_
 rintro e w3 ⟨he,hb3⟩
 have he2:e=.returned (.int .i64 V):=by rw[he,<- hn.out];rfl
 subst he2
 have Hb3:=Lh (Hb2.out.trans (hb3.mono Hb2.out.size))
 clear h2 hb3 Hb2 he
 go_wp2
 go_ret
 exact ⟨rfl,Hb3.out⟩
end Go.Proofs.YtkefcldcfeolbaaGreat
namespace Go.Proofs.YtkefcldcfeolbaaGreat
open Go.RowKit
end Go.Proofs.YtkefcldcfeolbaaGreat
namespace Go.Proofs.YtkefcldcfeolbaaGreat
open Go.RowKit
theorem SqF.dg {R g:List Int} {k:Nat} (h:SqF R k) (hk:k<=29) (l6:aad R+aad g<=12) (hg:G6 g):CP (dgm R g):=by
 have h2:=acO R
 have h3:=hg.aad
 refine ⟨by rw[abY (aft R g)];exact ajn (by omega),fun j=>?_⟩
 rw[aft]
 refine Nat.le_trans (ahM (i:=k+1) (k:=1) (fun j=>acN (k:=k) (by omega) h.b j) (fun j=>by rw[Nat.pow_one];exact hg.b j) (by omega) j) (aa1 (by omega))
end Go.Proofs.YtkefcldcfeolbaaGreat
namespace Go.Proofs.YtkefcldcfeolbaaGreat
open Go.RowKit
section
variable {f g:List Int} {za zb zc:Int} {qa qb qc:Nat}
end
theorem aiy (S:Pt->Int) (hS:∀ x,S x=1∨S x=-1∨S x=0):∀ xs:List Pt,∃ m p:Nat,aj8 (xs.map S)=(p:Int)-(m:Int)/\xs.length=m+(xs.filter fun x=>decide (S x=0)).length+p
 | []=>⟨0,0,rfl,rfl⟩
 | x :: xs=>by
   obtain ⟨m,p,h1,h2⟩:=aiy S hS xs
   rw[List.map_cons,adr,h1]
   rcases hS x with h | h | h
   ·refine ⟨m,p+1,by rw[h];omega,?_⟩
    rw[List.filter_cons,if_neg (by simp[h]),List.length_cons];omega
   ·refine ⟨m+1,p,by rw[h];omega,?_⟩
    rw[List.filter_cons,if_neg (by simp[h]),List.length_cons];omega
   ·refine ⟨m,p,by rw[h];omega,?_⟩
    rw[List.filter_cons,if_pos (by simp[h]),List.length_cons,List.length_cons];omega
theorem amD {d f:List Int} (h:Dvq d f) {x:Pt} (h0:sgp d x=0):sgp f x=0:=by
 obtain ⟨c,q,hc,e⟩:=h
 have h1:sgp (psc c f) x=0:=by
  rw[aj3 (r:=aag q d) (fun t=>by rw[aaH,aaC,e]) x,adD,h0,Int.mul_zero]
 rw[ab1] at h1
 rcases Int.mul_eq_zero.1 h1 with h2 | h2
 ·exact absurd h2 (afN hc)
 ·exact h2
theorem apu {f g d:List Int} (h:acV f g d) {x:Pt} (h1:sgp f x=0) (h2:sgp g x=0):sgp d x=0:=by
 obtain ⟨c,u,v,hc,e⟩:=h
 have v1:Van x 1 f:=fun i hi=>by obtain rfl:i=0:=by omega
                                 exact h1
 have v2:Van x 1 g:=fun i hi=>by obtain rfl:i=0:=by omega
                                 exact h2
 have h3:Van x 1 (psc c d):=((v1.mul u).add (v2.mul v)).ev fun t=>by rw[aaH,acJ,aaC,aaC,e]
 exact (h3.aoE hc) 0 (by omega)
structure GdF (f g G:List Int):Prop where
 ga:aqV f g
 g0:aad G≠0
 fit:abw G
 len:aad G<=9
 t:G.length<=9
 b:∀ j,((aal G).getD j 0).natAbs<=BB^16
 r:∀ x,sgp G x=0↔sgp f x=0/\sgp g x=0
theorem ae5 {f g:List Int} (h:P9 f) (l6:aad f+aad g<=12) (hg:G6 g) (h0:aad f≠0):GdF f g (gres f g):=by
 have b1:BB<=BB^80:=by have:BB^1<=BB^80:=aa1 (by decide);rw[Nat.pow_one] at this;exact this
 have ays:∀ j,(f.getD j 0).natAbs<=BB^80:=fun j=>Nat.le_trans (h.b j) (aa1 (a:=10) (b:=80) (by decide))
 have ayt:∀ j,(g.getD j 0).natAbs<=BB^80:=fun j=>Nat.le_trans (hg.b j) b1
 have hs:aad f+aad g<=34:=by have:=hg.aad;omega
 have ga:=ar4 hs ays ayt
 have hgi:=alo ga
 have hi:ad7 f g (gres f g):=hgi.resolve_left (fun h=>h0 h.1) |>.2
 have bd:=amy hs ays ayt
 have dl:aad (gres f g)<=aad f:=ae2 hi.l h0
 have h9:=h.len
 refine ⟨ga,hi.ne,fun j=>Nat.lt_of_le_of_lt (bd j) (Nat.pow_lt_pow_right (by rw[aan];decide) (by rw[aqZ,abZ];decide)),by omega,by rw[<- hi.trim,aae];omega,fun j=>?_,fun x=>⟨fun e=>⟨amD hi.l e,amD hi.r e⟩,fun e=>apu hi.c e.1 e.2⟩⟩
 obtain ⟨c,q,hc,e⟩:=hi.l
 have hk:=agT hi.ne
 have e2:∀ x,ev (gres f g) x=(sg (aai (gres f g))*(aam (gres f g):Int))*ev (aal (gres f g)) x:=fun x=>by
  rw[<- aaH]
  exact aay (fun k=>by rw[aaG];exact acA hi.ne k) x
 obtain ⟨s,hs'⟩:=aeG (l:=aal (gres f g)) (f:=f) (r:=psc (sg (aai (gres f g))*(aam (gres f g):Int)) q) (agr hi.ne) hc (fun x=>by rw[e,e2,aaH];grind)
 exact aeI (g:=s) (k:=10) (by omega) h0 h.b (fun x=>by rw[hs' x,Int.mul_comm]) j
structure SgV (f g:List Int) (a b c:Int):Prop where
 s:a+b+c=nall f
 d:c-a=nq f g
 a0:0<=a
 b0:0<=b
 c0:0<=c
 z:aad f≠0->b=nall (aaq (gres f g))
theorem ajo {f g G:List Int} (h:GdF f g G):QOK G/\CP (aaq G)/\CP (aaz (aaq G)):=by
 have hq:QOK G:=⟨by have:=h.len;omega,fun j=>Nat.le_trans (h.b j) (aa1 (by decide))⟩
 have hf:=abx hq h.g0
 have hl:=h.len
 have l2:=hf.l
 have l3:=acO (aaq G)
 exact ⟨hq,⟨by omega,fun j=>Nat.le_trans (hf.b 16 h.b j) (aa1 (by decide))⟩,⟨by omega,fun j=>Nat.le_trans (acN (k:=22) (by omega) (hf.b 16 h.b) j) (aa1 (by decide))⟩⟩
theorem sgv {f g:List Int} (h:P9 f) (l6:aad f+aad g<=12) (hg:G6 g) (h0:aad f≠0):∃ m p:Nat,nall (aaq (gres f g))+(m:Int)+(p:Int)=nall f/\nq f g=(p:Int)-(m:Int)/\0<=nall (aaq (gres f g))/\nall f<=10:=by
 have hd:=ae5 h l6 hg h0
 obtain ⟨k1,k2,k3⟩:=ajo hd
 have hf:=abx k1 hd.g0
 obtain ⟨zs,hz⟩:=abE h0 (fun _=>True)
 have hz1:Lst (fun x=>sgp f x=0) zs:=hz.congr fun x=>⟨fun h=>h.1,fun h=>⟨h,trivial⟩⟩
 obtain ⟨m,p,e1,e2⟩:=aiy (sgp g) (aff g) zs
 have hfl:(zs.filter fun x=>decide (sgp g x=0))=(zs.filter fun x=>@decide (sgp g x=0) (Classical.propDecidable _)):=List.filter_congr fun x _=>decide_eq_decide.2 Iff.rfl
 have hz2:Lst (fun x=>sgp (aaq (gres f g)) x=0) (zs.filter fun x=>decide (sgp g x=0)):=by
  rw[hfl]
  exact (hz1.filter (Q:=fun x=>sgp g x=0)).congr fun x=>by rw[hf.root,hd.r]
 have hl:zs.length<=8:=by
  have h99:=h.len
  have hp:aad f=(aad f-1)+1:=by omega
  have:=al1 (aad f-1) f hp zs hz1.1 (fun x hx=>(hz1.2 x).1 hx)
  omega
 refine ⟨m,p,?_,?_,?_,?_⟩
 ·rw[acB k2 k3 hf.q0 hz2,acB h.cp h.der h0 hz1]
  have:((zs.filter fun x=>decide (sgp g x=0)).length:Int)+m+p=zs.length:=by omega
  exact this
 ·rw[amB h.cp (h.dg l6 hg.b) h0 hz1,e1]
 ·rw[acB k2 k3 hf.q0 hz2];omega
 ·rw[acB h.cp h.der h0 hz1];omega
end Go.Proofs.YtkefcldcfeolbaaGreat
namespace Go.Proofs.YtkefcldcfeolbaaGreat
open Go.RowKit
end Go.Proofs.YtkefcldcfeolbaaGreat
namespace Go.Proofs.YtkefcldcfeolbaaGreat
open Go.RowKit
set_option maxHeartbeats 400000 in
theorem aw6 (A:Option Addr) (la ca:Nat) (f g G:List Int) (w:World) (hf:aaB w A la ca G) (hd:GdF f g G) :
 Calls Tryz.prog 12 #[.slice A la ca] w fun e w'=>e=.returned (.int .i64 (nall (aaq G)))/\Below w.heap.size w w':=by
 have sf:=hd.fit.smp
 obtain ⟨hq,c1,c2⟩:=ajo hd
 have ht:aaf (aaq G)=aaq G:=(abx hq hd.g0).t
 have hla:la<=1000000:=by have:=hf.length;have:=hd.t;omega
 obtain ⟨V,hV⟩:∃ V,V=nall (aaq G):=⟨_,rfl⟩
 rw[<- hV]
 have HV:=Lh hV
 clear hV
 go_enter Tryz.func12,Tryz.ntmps12
 go_wp2_with fail
 refine (ahK ikN _ _ _ _ _ hf sf (fun _=>hq) hla).mono ?_
 rintro e w1 ⟨A1,l1,c1',rfl,h1,hb1⟩
 have hl:=h1.length
 have hlp:=c1.len
 have hl1:l1<=10:=by rw[<- hl,<- ht,aae];exact hlp
 have Hb1:=Lh hb1
 obtain ⟨Q,hQ⟩:∃ Q,Q=aaq G:=⟨_,rfl⟩
 rw[<- hQ] at h1 c1 c2 HV
 obtain ⟨k1,k2,k3,k4⟩:=abL c1 c2
 clear hf hb1 hl ht hlp hQ
 go_wp2_with fail
 refine (ad5 _ _ _ _ _ h1 c1.fit.smp c2.fit.smp (by omega) 12 k1 (by omega)).mono ?_
 rintro e w2' ⟨A2,l2,c2',rfl,h2,hb2⟩
 have Hb2:=Lh (Hb1.out.trans (hb2.mono Hb1.out.size))
 clear h1 hb2 Hb1
 go_wp2_with fail
 refine (apq _ _ _ _ _ _ _ h2 k2 (by omega)).mono ?_
 rintro e w3 ⟨he,hb3⟩
 have he2:e=.returned (.int .i64 V):=by rw[he,HV.out];unfold nall;rw[if_pos c1.len]
 subst he2
 have Hb3:=Lh (Hb2.out.trans (hb3.mono Hb2.out.size))
 clear h2 hb3 Hb2 he
 go_wp2
 go_ret
 exact ⟨rfl,Hb3.out⟩
set_option maxHeartbeats 1000000 in
theorem apv {I J:aas} (hI:IK I) (hJ:IK J) (A:Option Addr) (la ca:Nat) (f:List Int) (B:Option Addr) (lb cb:Nat) (g:List Int) (w:World) (hf:aar I w A la ca f) (hg:aar J w B lb cb g) (h9:P9 f) (l6:aad f+aad g<=12) (hg6:G6 g) (hla:la<=1000000) :
 Calls Tryz.prog 9 #[.slice A la ca,.slice B lb cb] w fun e w'=>(∃ a b c,e=.returned (.tuple #[.int .i64 a,.int .i64 b,.int .i64 c])/\SgV f g a b c/\a<=10/\b<=10/\c<=10)/\Below w.heap.size w w':=by
 have sf:=h9.cp.fit.smp
 have hlb:lb<=6:=by have:=hg.length;have:=hg6.len;omega
 have HF:=Lh hf
 have HG:=Lh hg
 clear hf hg
 go_enter Tryz.func9,Tryz.ntmps9
 go_wp2_with fail
 refine (aaO _ _ _ _ _ (HF.out.at_ hI) sf (by omega)).mono ?_
 rintro e w1 ⟨rfl,hb1⟩
 replace HF:=Lh (HF.out.below hI hb1)
 replace HG:=Lh (HG.out.below hJ hb1)
 have Hb:=Lh hb1
 clear hb1
 by_cases F0:aad f=0
 ·have d0:((aad f:Nat):Int)-1=-1:=by omega
  rw[d0]
  have hn:=Lh (apt (g:=g) F0)
  have hm:=Lh (show nall f=0 from ahJ F0)
  have HF0:=Lh F0
  clear F0 d0 HF HG
  go_wp2
  refine bodyPost_ret (v:=.tuple #[.int .i64 0,.int .i64 0,.int .i64 0]) (by simp[results,Tryz.results9,go_sem]) rfl ⟨⟨0,0,0,rfl,⟨by rw[hm.out];rfl,by rw[hn.out];rfl,by decide,by decide,by decide,fun h=>absurd HF0.out h⟩,by decide,by decide,by decide⟩,Hb.out⟩
 obtain ⟨dF,hdF⟩:∃ d:Nat,((aad f:Nat):Int)-1=(d:Int):=⟨aad f-1,by omega⟩
 rw[hdF]
 have nF:¬ ((dF:Int)<0):=by omega
 have hd:=ae5 h9 l6 hg6 F0
 obtain ⟨m,p,e1,e2,e3,e4⟩:=sgv h9 l6 hg6 F0
 obtain ⟨G,hG⟩:∃ G,G=gres f g:=⟨_,rfl⟩
 rw[<- hG] at hd e1 e3
 have HGe:=Lh hG.symm
 obtain ⟨N0,hN0⟩:∃ N,N=nall (aaq G):=⟨_,rfl⟩
 obtain ⟨N,hN⟩:∃ N,N=nall f:=⟨_,rfl⟩
 obtain ⟨S,hS⟩:∃ S,S=nq f g:=⟨_,rfl⟩
 rw[<- hN0] at e1 e3
 rw[<- hN] at e1 e4
 rw[<- hS] at e2
 have HN0:=Lh hN0.symm
 have HN:=Lh hN.symm
 have HSe:=Lh hS.symm
 have ga:=hd.ga
 have sg:=hg6.fit.smp
 have w1:IntKind.i64.wrap (N-N0)=(m:Int)+p:=by rw[show N-N0=(m:Int)+p by omega];exact IntWalk.i64_in _ (by omega)
 have w2:IntKind.i64.wrap ((m:Int)+p-S)=2*(m:Int):=by rw[show (m:Int)+p-S=2*(m:Int) by omega];exact IntWalk.i64_in _ (by omega)
 have w3:IntKind.i64.wrap ((m:Int)+p+S)=2*(p:Int):=by rw[show (m:Int)+p+S=2*(p:Int) by omega];exact IntWalk.i64_in _ (by omega)
 have t1:(2*(m:Int)).tdiv 2=(m:Int):=Int.mul_tdiv_cancel_left _ (by decide)
 have t2:(2*(p:Int)).tdiv 2=(p:Int):=Int.mul_tdiv_cancel_left _ (by decide)
 have v1:IntKind.i64.wrap (m:Int)=(m:Int):=IntWalk.i64_in _ (by omega)
 have v2:IntKind.i64.wrap (p:Int)=(p:Int):=IntWalk.i64_in _ (by omega)
 have Hd:=Lh hd
 have HE:=Lh (And.intro e1 (And.intro e2 (And.intro e3 e4)))
 clear F0 hdF hG hN0 hN hS hd e1 e2 e3 e4
 go_wp2_with fail
 refine (alq hI hJ _ _ _ f _ _ _ g _ HF.out HG.out sf sg (by omega) (by omega) ga).mono ?_
 rintro e w5 ⟨A5,l5,c5,rfl,h5,hb5⟩
 rw[HGe.out] at h5
 replace HF:=Lh (HF.out.below hI hb5)
 replace HG:=Lh (HG.out.below hJ hb5)
 replace Hb:=Lh (Hb.out.trans (hb5.mono Hb.out.size))
 have H5:=Lh h5
 clear hb5 h5
 go_wp2_with fail
 refine (aw6 _ _ _ f g G _ H5.out Hd.out).mono ?_
 rintro e w6 ⟨rfl,hb6⟩
 rw[HN0.out]
 replace HF:=Lh (HF.out.below hI hb6)
 replace HG:=Lh (HG.out.below hJ hb6)
 replace Hb:=Lh (Hb.out.trans (hb6.mono Hb.out.size))
 clear hb6 H5
 go_wp2_with fail
 refine (avv hI _ _ _ _ _ HF.out h9.pq hla).mono ?_
 rintro e w7 ⟨rfl,hb7⟩
 rw[HN.out]
 replace HF:=Lh (HF.out.below hI hb7)
 replace HG:=Lh (HG.out.below hJ hb7)
 replace Hb:=Lh (Hb.out.trans (hb7.mono Hb.out.size))
 clear hb7
 go_wp2_with fail
 refine (amC hI hJ _ _ _ f _ _ _ g _ HF.out HG.out h9 l6 hg6 hla).mono ?_
 rintro e w8 ⟨rfl,hb8⟩
 rw[HSe.out]
 replace Hb:=Lh (Hb.out.trans (hb8.mono Hb.out.size))
 clear hb8 HF HG
 go_wp2
 refine bodyPost_ret (v:=.tuple #[.int .i64 (m:Int),.int .i64 N0,.int .i64 (p:Int)]) (by simp[results,Tryz.results9,go_sem]) rfl ⟨⟨(m:Int),N0,(p:Int),rfl,⟨by rw[HN.out];have:=HE.out;omega,by rw[HSe.out];have:=HE.out;omega,by omega,HE.out.2.2.1,by omega,fun _=>by rw[HGe.out,HN0.out]⟩,by have:=HE.out;omega,by have:=HE.out;omega,by have:=HE.out;omega⟩,Hb.out⟩
end Go.Proofs.YtkefcldcfeolbaaGreat
namespace Go.Proofs.YtkefcldcfeolbaaGreat
open Go Go.RowKit
structure S6 (f:List Int):Prop where
 len:f.length<=6
 b:∀ j,(f.getD j 0).natAbs<=4294967296
section
variable {f:List Int}
theorem S6.p9 (h:S6 f):P9 f:=⟨by have:=aat f;have:=h.len;omega,fun j=>Nat.le_trans (h.b j) (Nat.le_trans (by rw[Nat.pow_one,aan];decide) (aa1 (show 1<=10 by decide)))⟩
theorem S6.pl (h:S6 f):aad f<=6:=by have:=aat f;have:=h.len;omega
theorem S6.q9 (h:S6 f):P9 (aaq f):=by
 by_cases h0:aad f=0
 ·rw[abW h0]
  exact ⟨by decide,fun j=>by simp⟩
 ·have hq:=abx h.p9.q h0
  refine ⟨by have:=hq.l;have:=h.pl;omega,fun j=>Nat.le_trans (hq.b 1 (fun j=>Nat.le_trans (acM f j) (Nat.le_trans (h.b j) (by rw[Nat.pow_one,aan];decide))) j) (aa1 (by decide))⟩
theorem S6.ql (h:S6 f):aad (aaq f)<=6:=by have:=h.p9.apm;have:=h.pl;omega
theorem S6.qlen (h:S6 f):(aaq f).length<=6:=by rw[<- h.p9.aiw,aae];exact h.ql
theorem S6.g6 (h:S6 f):G6 f:=⟨h.len,fun j=>Nat.le_trans (h.b j) (by rw[aan];decide)⟩
end
theorem apE.azD {w:World} {g o:Nat} {rs:List (Fq×Fq)} (h:apE w g o rs) {k:Nat} (hk:k<rs.length) :
 ∃ n A l c B m d n' A' l' c' B' m' d',w.cell? ⟨g,o+k*6,none⟩=some (.bool n)/\w.cell? ⟨g,o+k*6+1,none⟩=some (.slice A l c)/\w.cell? ⟨g,o+k*6+2,none⟩=some (.slice B m d)/\w.cell? ⟨g,o+k*6+3,none⟩=some (.bool n')/\w.cell? ⟨g,o+k*6+4,none⟩=some (.slice A' l' c')/\w.cell? ⟨g,o+k*6+5,none⟩=some (.slice B' m' d') /\
   aaA w n A l c (rs.getD k r00).1.z/\aaT w B m d (rs.getD k r00).1.q/\aaA w n' A' l' c' (rs.getD k r00).2.z/\aaT w B' m' d' (rs.getD k r00).2.q:=by
 have e:rs[k]?=some (rs.getD k r00):=by rw[List.getD_eq_getElem?_getD,List.getElem?_eq_getElem hk];rfl
 obtain ⟨vs,⟨n,A,l,c,B,m,d,n',A',l',c',B',m',d',hv,h1,h2,h3,h4⟩,hc⟩:=h k _ e
 subst hv
 exact ⟨n,A,l,c,B,m,d,n',A',l',c',B',m',d',hc 0 _ rfl,hc 1 _ rfl,hc 2 _ rfl,hc 3 _ rfl,hc 4 _ rfl,hc 5 _ rfl,h1,h2,h3,h4⟩
end Go.Proofs.YtkefcldcfeolbaaGreat
namespace Go.Proofs.YtkefcldcfeolbaaGreat
open Go Go.RowKit
noncomputable def csg (g:List Int) (s:Int):List Pt->Nat
 | []=>0
 | x :: xs=>(if sgp g x=s then 1 else 0)+csg g s xs
section
variable {f g:List Int}
theorem apQ (s:Int) (x:Pt):∀ l:List Pt,csg g s (l ++ [x])=csg g s l+(if sgp g x=s then 1 else 0)
 | []=>by simp[csg]
 | y :: l=>by rw[List.cons_append,csg,csg,apQ s x l];omega
theorem ajy {xs:List Pt} {k:Nat} (hk:k<xs.length) (s:Int):csg g s (xs.take (k+1))=csg g s (xs.take k)+(if sgp g (xs.getD k default)=s then 1 else 0):=by
 have e:xs.take (k+1)=xs.take k ++ [xs.getD k default]:=by
  rw[List.take_add_one,List.getElem?_eq_getElem hk,List.getD_eq_getElem?_getD,List.getElem?_eq_getElem hk]
  rfl
 rw[e,apQ]
theorem apR:∀ l:List Pt,csg g (-1) l+csg g 0 l+csg g 1 l=l.length
 | []=>rfl
 | x :: l=>by
   have h:=apR l
   rw[csg,csg,csg,List.length_cons]
   rcases aff g x with e | e | e<;>rw[e]<;>simp<;>omega
theorem apS:∀ l:List Pt,aj8 (l.map (sgp g))=(csg g 1 l:Int)-(csg g (-1) l:Int)
 | []=>rfl
 | x :: l=>by
   rw[List.map_cons,adr,apS l,csg,csg]
   rcases aff g x with e | e | e<;>rw[e]<;>simp<;>omega
theorem ajz:∀ l:List Pt,(l.filter fun x=>decide (sgp g x=0)).length=csg g 0 l
 | []=>rfl
 | x :: l=>by
   rw[List.filter_cons,csg]
   by_cases h:sgp g x=0
   ·rw[if_pos (by simpa using h),if_pos h,List.length_cons,ajz l];omega
   ·rw[if_neg (by simpa using h),if_neg h,ajz l];omega
theorem apT (s:Int) (l:List Pt):csg g s l<=l.length:=by
 induction l with
 | nil=>exact Nat.le_refl _
 | cons x l ih =>
   rw[csg,List.length_cons]
   split<;>omega
theorem atQ (h:P9 f) (l6:aad f+aad g<=12) (hg:G6 g) (h0:aad f≠0) {xs:List Pt} (hx:Lst (fun x=>sgp f x=0) xs) {a b c:Int} (hv:SgV f g a b c):a=csg g (-1) xs/\b=csg g 0 xs/\c=csg g 1 xs:=by
 have hd:=ae5 h l6 hg h0
 obtain ⟨k1,k2,k3⟩:=ajo hd
 have hf:=abx k1 hd.g0
 have hfl:(xs.filter fun x=>decide (sgp g x=0))=(xs.filter fun x=>@decide (sgp g x=0) (Classical.propDecidable _)):=List.filter_congr fun x _=>decide_eq_decide.2 Iff.rfl
 have hz2:Lst (fun x=>sgp (aaq (gres f g)) x=0) (xs.filter fun x=>decide (sgp g x=0)):=by
  rw[hfl]
  exact (hx.filter (Q:=fun x=>sgp g x=0)).congr fun x=>by rw[hf.root,hd.r]
 have e1:b=csg g 0 xs:=by
  rw[hv.z h0,acB k2 k3 hf.q0 hz2,ajz]
 have e2:a+b+c=xs.length:=by rw[hv.s,acB h.cp h.der h0 hx]
 have e3:c-a=(csg g 1 xs:Int)-(csg g (-1) xs:Int):=by rw[hv.d,amB h.cp (h.dg l6 hg.b) h0 hx,apS]
 have e4:=apR (g:=g) xs
 omega
theorem avG {p:List Int} (hl:p.length<=6) (hb:∀ j,(p.getD j 0).natAbs<BB^1):S6 p:=by
 refine ⟨hl,fun j=>?_⟩
 have:=hb j
 rw[Nat.pow_one,aan] at this
 omega
end
end Go.Proofs.YtkefcldcfeolbaaGreat
namespace Go.Proofs.YtkefcldcfeolbaaGreat
open Go.RowKit
section
variable {f g G Q:List Int} {x:Pt} {a b:Fq} {s r:Fq×Fq} {i:Nat}
def Free (G:List Int) (s:Fq×Fq):Prop:=∀ y,sgp G y=0->y<s.1.p∨s.2.p<y
theorem Free.congr (h:Free Q s) (e:∀ y,sgp G y=0↔sgp Q y=0):Free G s:=fun y hy=>h y ((e y).1 hy)
theorem afy.atT (h:afy f x s.1 s.2) (e:s.1.v=s.2.v) (gx:sgp G x≠0):Free G s:=fun y hy=>by
 have e2:s.1.p=s.2.p:=by unfold Fq.p;rw[e]
 have ex:x=s.1.p:=by
  rcases h.2 with h | h
  ·exact h.2
  ·grind
 rcases Pt.tri y s.1.p with c | c | c
 ·exact .inl c
 ·rw[c,<- ex] at hy;exact absurd hy gx
 ·exact .inr (by rw[<- e2];exact c)
theorem afy.atU (h:afy f x s.1 s.2) (hf:Free G s):sgp G s.1.p=sgp G x:=by
 rcases h.2 with h | ⟨_,_,_,l1,l2,_⟩
 ·rw[h.2]
 ·have na:sgp G s.1.p≠0:=fun c=>by
   rcases hf _ c with d | d
   ·exact Pt.irr _ d
   ·exact Pt.asym d (Pt.lt_trans l1 l2)
  have nx:sgp G x≠0:=fun c=>by
   rcases hf _ c with d | d
   ·exact Pt.asym d l1
   ·exact Pt.asym d l2
  exact aeW l1 (fun z z1 z2 c=>by
   rcases hf _ c with d | d
   ·exact Pt.asym d z1
   ·exact Pt.asym d (Pt.lt_trans z2 l2)) na nx
theorem aq7 {k:Nat} (h:SqF Q k) (hk:k<=31) (ha:0<s.1.q) (hb:0<s.2.q) (hab:s.1.v<s.2.v) (na:sgp Q s.1.p≠0) (nb:sgp Q s.2.p≠0):(s.1.chg (aaN 12 Q (aaz Q)):Int)=(s.2.chg (aaN 12 Q (aaz Q)):Int)↔Free Q s:=by
 obtain ⟨xs,hx⟩:=abE h.q0 (fun x=>s.1.p<x/\x<s.2.p)
 have hc:=ajs h hk ha hb hab hx
 rw[aeh hb,if_neg nb] at hc
 constructor
 ·intro e y hy
  have hl:xs.length=0:=by omega
  have hn:=List.eq_nil_of_length_eq_zero hl
  rcases Pt.tri y s.1.p with c | c | c
  ·exact .inl c
  ·rw[c] at hy;exact absurd hy na
  ·rcases Pt.tri y s.2.p with d | d | d
   ·have:=(hx.2 y).2 ⟨hy,c,d⟩
    rw[hn] at this;cases this
   ·rw[d] at hy;exact absurd hy nb
   ·exact .inr d
 ·intro hf
  have hn:xs.length=0:=by
   match xs,hx with
   | [],_=>rfl
   | y :: ys,hx =>
     obtain ⟨h1,h2,h3⟩:=(hx.2 y).1 (List.mem_cons_self ..)
     rcases hf y h1 with c | c
     ·exact absurd c (Pt.asym h2)
     ·exact absurd c (Pt.asym h3)
  omega
structure ASt (f:List Int) (x:Pt) (i:Nat) (s:Fq×Fq):Prop where
 iso:afy f x s.1 s.2
 d:DyW (cbn (aaq f)) (2*((cbn (aaq f):Nat):Rat)) i s
theorem ASt.half (h9:P9 f) (h0:aad f≠0) (h:ASt f x i s):ASt f x (i+1) (hlf (aaq f) s)/\Half s (hlf (aaq f) s):=by
 have hq:=abx h9.q h0
 have hs:=aq6 hq.q0 hq.simple (fun y=>(hq.root y).symm) h.d.d.1.p h.d.d.2.p h.iso
 exact ⟨⟨hs.1,avJ h.d⟩,hs.2⟩
theorem ASt.fqb (h9:P9 f) (h0:aad f≠0) (h:ASt f x i s) (hi:i<=NN+1):FqB s.1/\FqB s.2/\FqB (s.1.mid s.2):=by
 have h1:i<=NN+2500:=Nat.le_trans hi (Nat.add_le_add_left (by decide) NN)
 have h2:i+1<=NN+2500:=Nat.le_trans (Nat.succ_le_succ hi) (Nat.add_le_add_left (show 2<=2500 by decide) NN)
 have:=h.d.d.fqb h1 (avK (SqF.of9 h9.pq h0))
 exact ⟨this.1,this.2.1,this.2.2 h2⟩
theorem anL {xs:List Pt} {k:Nat} (hx:RF f xs (acQ f)) (hk:k<xs.length):∃ i,i<=NN+1/\ASt f (xs.getD k default) i ((acQ f).getD k r00):=by
 obtain ⟨i,i1,i2⟩:=apV f _ (getD_mem (by rw[hx.len];exact hk) r00)
 exact ⟨i,i1,hx.iso k hk,i2⟩
theorem Dy.avO {K:Nat} (h:Dy K i a):-((K:Nat):Rat)<=a.v/\a.v<=((K:Nat):Rat):=by
 obtain ⟨h1,h2⟩:=ahR h.z
 have hq:(0:Rat)<((a.q:Nat):Rat):=by exact_mod_cast h.p
 rw[Rat.natCast_mul] at h1 h2
 have hv:a.v*((a.q:Nat):Rat)=(a.z:Rat):=by
  unfold Fq.v
  rw[Rat.div_mul_cancel (by grind)]
 constructor
 ·refine Rat.not_lt.1 fun c=>?_
  have:=Rat.mul_lt_mul_of_pos_right c hq
  grind
 ·refine Rat.not_lt.1 fun c=>?_
  have:=Rat.mul_lt_mul_of_pos_right c hq
  grind
theorem ASt.more (h9:P9 f) (h0:aad f≠0) (h:ASt f x i s) (tG:aaf G=G) (lG:aad G<=10) (bG:∀ j,(G.getD j 0).natAbs<=BB^16) (gx:sgp G x≠0) (hne:s.1.v≠s.2.v) (hf:¬ Free G s):i<NN:=by
 obtain ⟨y,hy⟩:=Classical.not_forall.1 hf
 obtain ⟨hy,hn⟩:=Classical.not_imp.1 hy
 have hs:=SqF.of9 h9.pq h0
 have hq:=abx h9.q h0
 have hc1:(1:Rat)<=((cbn (aaq f):Nat):Rat):=by exact_mod_cast alz _
 have h1:=atS hs (by decide) tG lG bG hc1 (h.d.d.1.avO).1 (h.d.d.2.avO).2 (x:=x) (y:=y) ((hq.root x).2 h.iso.1) gx hy h.iso.lo h.iso.hi (fun c=>hn (.inl c)) (fun c=>hn (.inr c))
 refine Nat.lt_of_not_le fun hc=>?_
 have hw:=h.d.w.resolve_left hne
 have h2:=asc hs
 have hp:(2:Rat)^NN<=2^i:=apC (by grind) hc
 have hp1:(1:Rat)<=2^i:=acX (by grind) i
 generalize akC 16 ((cbn (aaq f):Nat):Rat)=D at *
 generalize ((cbn (aaq f):Nat):Rat)=K at *
 generalize (2:Rat)^i=P at *
 generalize (2:Rat)^NN=N at *
 generalize s.2.v-s.1.v=w at *
 have h5:=Rat.mul_le_mul_of_nonneg_right h1 (show 0<=P by grind)
 have h6:D*w*P=D*(2*K):=by rw[Rat.mul_assoc,hw]
 have h7:D*(K - -K)=D*(2*K):=by grind
 grind
theorem aq8 (p:List Int) (j:Nat):((ae1 p).getD j 0).natAbs=(p.getD j 0).natAbs:=by
 unfold ae1
 split
 ·rw[ams,aau,Int.natAbs_neg]
 ·rw[aau]
theorem atV (h9:P9 Q) (l6:aad Q<=6) (q0:aad Q≠0) (hg:G6 g):P9 (gres Q g):=by
 have hd:=ae5 h9 (by have:=hg.aad;omega) hg q0
 refine ⟨by have:=hd.len;omega,fun j=>?_⟩
 by_cases g0:aad g=0
 ·unfold gres
  rw[if_neg q0,if_pos g0,aq8]
  exact h9.b j
 ·have hi:ad7 Q g (gres Q g):=(alo hd.ga).resolve_left (fun h=>q0 h.1) |>.2
  have hk:=agT hi.ne
  have e2:∀ x,ev (gres Q g) x=(sg (aai (gres Q g))*(aam (gres Q g):Int))*ev (aal (gres Q g)) x:=fun x=>by
   rw[<- aaH]
   exact aay (fun k=>by rw[aaG];exact acA hi.ne k) x
  obtain ⟨c,q,hc,e⟩:=hi.r
  obtain ⟨t,ht⟩:=aeG (l:=aal (gres Q g)) (f:=g) (r:=psc (sg (aai (gres Q g))*(aam (gres Q g):Int)) q) (agr hi.ne) hc (fun x=>by rw[e,e2,aaH];grind)
  have hb1:∀ j,(g.getD j 0).natAbs<=BB^1:=fun j=>by rw[Nat.pow_one];exact hg.b j
  have h1:=aeI (g:=t) (k:=1) (by have:=hg.aad;omega) g0 hb1 (fun x=>(ht x).trans (Int.mul_comm _ _)) j
  have hc1:aam (gres Q g)<=BB:=by
   rw[hi.cont]
   exact Nat.le_trans (Nat.le_of_dvd (Nat.pos_of_ne_zero (acf g0)) (Nat.gcd_dvd_right _ _)) (ag7 g0 hg.b)
  rw[acA hi.ne j,Int.natAbs_mul,Int.natAbs_mul,Int.natAbs_natCast]
  have hs:(sg (aai (gres Q g))).natAbs<=1:=by rcases aav (aai (gres Q g)) with ⟨_,e⟩ | ⟨_,e⟩ | ⟨_,e⟩<;>omega
  have h3:(sg (aai (gres Q g))).natAbs*aam (gres Q g)<=1*BB:=Nat.mul_le_mul hs hc1
  rw[Nat.one_mul] at h3
  refine Nat.le_trans (Nat.mul_le_mul h3 h1) ?_
  rw[show BB*BB^(1+6)=BB^8 by rw[Nat.mul_comm,<- Nat.pow_succ]]
  exact aa1 (by decide)
theorem ase (h:S6 f) (h0:aad f≠0) (hg:G6 g):P9 (gres (aaq f) g):=atV h.q9 h.ql (abx h.p9.q h0).q0 hg
theorem anM (h:S6 f) (h0:aad f≠0) (hg:G6 g) (ha:0<a.q) (hb:0<b.q) (hi:afy f x a b) (hlt:a.v<b.v):0<aeJ (gres (aaq f) g) a.z a.q b.z b.q↔sgp g x=0:=by
 have hq:=abx h.p9.q h0
 have hd:=ae5 h.q9 (by have:=h.ql;have:=hg.aad;omega) hg hq.q0
 obtain ⟨xs,hx⟩:=abE hd.g0 (fun y=>a.p<y/\(y<b.p∨y=b.p))
 rw[ahL (ase h h0 hg).pq hd.g0 ha hb ((ahT ha hb).2 hlt) hx]
 rcases hi.2 with h2 | ⟨_,n1,n2,l1,l2,hu⟩
 ·grind
 constructor
 ·intro hl
  match xs,hx,hl with
  | y :: ys,hx,_ =>
    obtain ⟨h1,h2,h3⟩:=(hx.2 y).1 (List.mem_cons_self ..)
    obtain ⟨k1,k2⟩:=(hd.r y).1 h1
    have k3:=(hq.root y).1 k1
    rcases h3 with h3 | h3
    ·rw[<- hu y k3 h2 h3];exact k2
    ·rw[h3] at k3;exact absurd k3 n2
 ·intro hg0
  have:=(hx.2 x).2 ⟨(hd.r x).2 ⟨(hq.root x).2 hi.1,hg0⟩,l1,.inl l2⟩
  have:=List.length_pos_of_mem this
  omega
end
end Go.Proofs.YtkefcldcfeolbaaGreat
namespace Go.Proofs.YtkefcldcfeolbaaGreat
open Go.RowKit
theorem axj {g:List Int} (h:G6 g):CP g:=⟨by have:=h.aad;omega,fun j=>Nat.le_trans (h.b j) (by have:=aa1 (show 1<=32 by decide);rw[Nat.pow_one] at this;exact this)⟩
theorem axk {g:List Int} (h:G6 g):P9 g:=⟨by have:=h.aad;omega,fun j=>Nat.le_trans (h.b j) (by have:=aa1 (show 1<=10 by decide);rw[Nat.pow_one] at this;exact this)⟩
structure ZaG (f g:List Int) (x:Pt):Prop where
 fit:abw g
 len:g.length<=16
 at_:∀ a:Fq,FqB a->ajf a.z a.q g
 ga:aqV (aaq f) g
 g9:P9 (gres (aaq f) g)
 gl:(gres (aaq f) g).length<=9
 zc:∀ a b:Fq,0<a.q->0<b.q->afy f x a b->a.v<b.v->(0<aeJ (gres (aaq f) g) a.z a.q b.z b.q↔sgp g x=0)
structure AwO (f g:List Int) (x:Pt):Prop where
 q:QOK g
 t:aaf (aaq g)=aaq g
 q0:aad (aaq g)≠0
 gr:∀ y,sgp g y=0↔sgp (aaq g) y=0
 ol:(aaq g).length<=11
 fO:abw (aaq g)
 fD:abw (aaz (aaq g))
 k1:ajH 12 (pred (aaq g)) (pred (aaz (aaq g)))
 k3:(chn 12 (pred (aaq g)) (pred (aaz (aaq g)))).length<=12
 k4:(aaN 12 (aaq g) (aaz (aaq g))).length<=13
 at_:∀ a:Fq,FqB a->ajf a.z a.q (aaq g)
 el:∀ a:Fq,FqB a->∀ p∈aaN 12 (aaq g) (aaz (aaq g)),ajf a.z a.q p
 free:∀ s:Fq×Fq,0<s.1.q->0<s.2.q->s.1.v<s.2.v->sgp (aaq g) s.1.p≠0->sgp (aaq g) s.2.p≠0->((s.1.chg (aaN 12 (aaq g) (aaz (aaq g))):Int)=(s.2.chg (aaN 12 (aaq g) (aaz (aaq g))):Int)↔Free (aaq g) s)
 more:∀ i s,ASt f x i s->s.1.v≠s.2.v->¬ Free (aaq g) s->i<NN
section
variable {f g:List Int} {x:Pt}
theorem avP (h:S6 f) (h0:aad f≠0) (hg:G6 g):ZaG f g x:=by
 have hq:=abx h.p9.q h0
 have hd:=ae5 h.q9 (by have:=h.ql;have:=hg.aad;omega) hg hq.q0
 exact ⟨hg.fit,by have:=hg.len;omega,fun a ha=>(axj hg).at (by have:=hg.len;omega) ha.z ha.q,hd.ga,ase h h0 hg,hd.t,fun a b ha hb hi hlt=>anM h h0 hg ha hb hi hlt⟩
theorem avQ (h:S6 f) (h0:aad f≠0) (hg:G6 g) (gx:sgp g x≠0):AwO f g x:=by
 have g9:=axk hg
 have g0:aad g≠0:=fun e=>gx (afM e x)
 have hqg:=abx g9.q g0
 have hsq:=SqF.of9 g9.pq g0
 have hOl:(aaq g).length<=6:=by rw[<- hqg.t,aae];have:=hqg.l;have:=hg.aad;omega
 have hgr:∀ y,sgp g y=0↔sgp (aaq g) y=0:=fun y=>(hqg.root y).symm
 have hOx:sgp (aaq g) x≠0:=fun e=>gx ((hgr x).2 e)
 have c1:=g9.part
 have c2:=g9.aaz
 obtain ⟨k1,k2,k3,k4⟩:=abL c1 c2
 have hall:∀ p∈aaN 12 (aaq g) (aaz (aaq g)),Elm p:=k2
 exact ⟨g9.q,hqg.t,hqg.q0,hgr,by omega,c1.fit,c2.fit,k1,k3,k4,fun a ha=>c1.at (by omega) ha.z ha.q,fun a ha p hp=>(hall p hp).at ha.z ha.q,fun s ha hb hab na nb=>aq7 hsq (by decide) ha hb hab na nb,fun i s hs hne hn=>hs.more h.p9 h0 hsq.t hsq.len hsq.b hOx hne hn⟩
end
end Go.Proofs.YtkefcldcfeolbaaGreat
namespace Go.Proofs.YtkefcldcfeolbaaGreat
open Go Go.RowKit
set_option maxRecDepth 100000 in
set_option maxHeartbeats 4000000 in
theorem arb {J:aas} (hJ:IK J) {w:World} {Ap:Option Addr} {lp cp:Nat} {f:List Int} {Ag:Option Addr} {lg cg:Nat} {g:List Int} {x:Pt} {r:Fq×Fq} {n:Bool} {A:Option Addr} {l c:Nat} {B:Option Addr} {m d:Nat} {n':Bool} {A':Option Addr} {l' c':Nat} {B':Option Addr} {m' d':Nat}
 (hp:aaB w Ap lp cp (aaq f)) (s6:S6 f) (hg:aar J w Ag lg cg g) (zg:ZaG f g x) (hz:aaA w n A l c r.1.z) (hq:aaT w B m d r.1.q) (hz':aaA w n' A' l' c' r.2.z) (hq':aaT w B' m' d' r.2.q) (ha:FqB r.1) (hb:FqB r.2) (hi:afy f x r.1 r.2) :
 Calls Tryz.prog 23 #[.slice Ap lp cp,.agg #[.bool n,.slice A l c,.slice B m d,.bool n',.slice A' l' c',.slice B' m' d'],.slice Ag lg cg] w fun e w'=>e=.returned (.bool (decide (sgp g x=0)))/\Below w.heap.size w w':=by
 have o1:=aak w (ahX n A l c B m d n' A' l' c' B' m' d')
 have T:=Lh (apL.make hz hq hz' hq')
 have HP:=Lh (hp.below ikN o1)
 have HG:=Lh (hg.below hJ o1)
 have Hb:=Lh o1
 have hlg:lg<=16:=by have:=hg.length;have:=zg.len;omega
 have hlp:lp<=6:=by have:=hp.length;have:=s6.qlen;omega
 have p1:=ha.p
 have p2:=hb.p
 have pg:=zg.at_ r.1 ha
 have hd:=zg.ga
 have hd9:=zg.g9
 have hdt:=zg.gl
 have avR:=zg.fit
 have hle:=hi.le
 have ez:r.1.v=r.2.v->(r.1.sgn g=0↔sgp g x=0):=fun e=>by
  rw[aeh ha.p]
  rcases hi.2 with h | h
  ·rw[h.2]
  ·grind
 have en:r.1.v≠r.2.v->(0<aeJ (gres (aaq f) g) r.1.z r.1.q r.2.z r.2.q↔sgp g x=0):=fun e=>zg.zc r.1 r.2 ha.p hb.p hi (by grind)
 have fz:=aeM ha.p hb.p
 have ayz:abw (aaq f):=s6.q9.cp.fit
 obtain ⟨Q,hQ⟩:∃ Q,Q=aaq f:=⟨_,rfl⟩
 rw[<- hQ] at hd hd9 hdt en HP ayz
 obtain ⟨V,hV⟩:∃ V,V=decide (sgp g x=0):=⟨_,rfl⟩
 rw[<- hV]
 have HV:=Lh hV
 have EZ:=Lh ez
 have EN:=Lh en
 have FZ:=Lh fz
 have HD:=Lh hd
 have HD9:=Lh hd9
 clear hz hq hz' hq' o1 hp hg hV ez en fz hd hd9 hle hQ hi zg
 obtain ⟨wb,hwb⟩:∃ wb,wb=w.alloc (ahX n A l c B m d n' A' l' c' B' m' d'):=⟨_,rfl⟩
 obtain ⟨g1,hg1⟩:∃ g,g=w.heap.size:=⟨_,rfl⟩
 go_enter Tryz.func23,Tryz.ntmps23
 have x0:=T.out.r.c0;have x1:=T.out.r.c1;have x2:=T.out.r.c2;have x3:=T.out.c3;have x4:=T.out.c4;have x5:=T.out.c5
 go_wp2_with fail
 rw[<- hwb,<- hg1] at T x0 x1 x2 x3 x4 x5
 rw[<- hwb] at HP HG Hb ⊢
 rw[<- hg1]
 clear hwb hg1
 refine (afv (r:=r) T.out.r.hz T.out.r.hq T.out.hz T.out.hq ha hb).mono ?_
 rintro e w1 ⟨rfl,hb1⟩
 replace T:=Lh (T.out.move hb1)
 replace HP:=Lh (HP.out.below ikN hb1)
 replace HG:=Lh (HG.out.below hJ hb1)
 replace Hb:=Lh (Hb.out.trans (hb1.mono Hb.out.size))
 clear hb1 x0 x1 x2 x3 x4 x5
 have x0:=T.out.r.c0;have x1:=T.out.r.c1;have x2:=T.out.r.c2;have x3:=T.out.c3;have x4:=T.out.c4;have x5:=T.out.c5
 have l1:=T.out.r.lt
 by_cases c0:agO r.1 r.2=0
 ·have b1:(agO r.1 r.2 == 0)=true:=by rw[c0];rfl
  obtain ⟨S,hS⟩:∃ S,S=r.1.sgn g:=⟨_,rfl⟩
  have EV:=Lh (show V=(S == 0) by
   have h1:=EZ.out (FZ.out.1 c0)
   rw[<- hS] at h1
   rw[HV.out]
   by_cases c:S=0
   ·rw[decide_eq_true (h1.1 c),c];rfl
   ·rw[decide_eq_false fun e=>c (h1.2 e)];exact (beq_eq_false_iff_ne.2 c).symm)
  have HS:=Lh hS
  clear c0 hS
  go_wp2_with fail
  refine (abz hJ _ _ _ g _ _ _ _ _ _ _ _ _ _ HG.out pg.fit (by omega) T.out.r.hz T.out.r.hq ha.at.u ha.at.v ha.at.pos pg.ok ha.at.fz ha.at.fq).mono ?_
  rintro e w4 ⟨he,hb4⟩
  have he2:e=.returned (.int .i64 S):=by rw[HS.out];exact he
  subst he2
  replace Hb:=Lh (Hb.out.trans (hb4.mono Hb.out.size))
  clear he hb4 T HP HG x0 x1 x2 x3 x4 x5
  go_wp2
  go_ret
  exact ⟨by first | (rw[EV.out];done) | (rw[EV.out];rfl),Hb.out⟩
 ·have b1:(agO r.1 r.2 == 0)=false:=by rw[beq_eq_false_iff_ne];exact c0
  obtain ⟨U,hU⟩:∃ U,U=aeJ (gres Q g) r.1.z r.1.q r.2.z r.2.q:=⟨_,rfl⟩
  have EV:=Lh (show V=decide (0<U) by
   have h1:=EN.out (fun e=>c0 (FZ.out.2 e))
   rw[<- hU] at h1
   rw[HV.out]
   exact decide_eq_decide.2 h1.symm)
  have HU:=Lh hU
  clear c0 hU
  obtain ⟨wk,hwk⟩:∃ wk,wk=w1:=⟨_,rfl⟩
  rw[<- hwk] at T HP HG Hb x0 x1 x2 x3 x4 x5 l1 ⊢
  clear hwk
  go_wp2_with fail
  refine wp_region_held_drew (S:=(fun w'=>w'.cell? ⟨g1,0,none⟩=some (.bool n)/\w'.cell? ⟨g1,1,none⟩=some (.slice A l c)/\w'.cell? ⟨g1,2,none⟩=some (.slice B m d)/\w'.cell? ⟨g1,3,none⟩=some (.bool n')/\w'.cell? ⟨g1,4,none⟩=some (.slice A' l' c')/\w'.cell? ⟨g1,5,none⟩=some (.slice B' m' d'))) (by kernel_rfl) (by (try dsimp only);go_keep) (fun hHeld=>?_)
  (refine tq 0 ?_;simp only[aac,List.set])
  (refine tq 1 ?_;simp only[aac,List.set])
  (refine tq 3 ?_;simp only[aac,List.set])
  (refine tq 4 ?_;simp only[aac,List.set])
  (refine tq 5 ?_;simp only[aac,List.set])
  (refine tq 6 ?_;simp only[aac,List.set])
  (refine rdy 2 (fun K hK=>?_);go_simp)
  refine (alq ikN hJ _ _ _ Q _ _ _ g _ (HP.out.below ikN Bel.go) (HG.out.below hJ Bel.go) ayz.smp avR.smp (by omega) (by omega) HD.out).mono ?_
  rintro e w4 ⟨A4,l4,c4,rfl,h4,hb4⟩
  have G4:=Lh ((Below.trans Bel.go (hb4.mono (by simp<;>omega))):Below wk.heap.size wk w4)
  have hl4:l4<=9:=by have:=h4.length;omega
  have H4:=Lh h4
  clear h4
  obtain ⟨hcx,hfx⟩:=aao hb4;refine hK.out _ _ ?_ (fun _=>?_);(focus (((try dsimp only);repeat' apply And.intro)<;>(rw[hcx _ (by go_simp)];go_simp)));clear hHeld hK K hcx hfx;rename_i hHeld;clear hb4
  (refine rdy 7 (fun K hK=>?_);go_simp)
  have T4:=T.out.move G4.out
  refine (apr ikN _ _ _ (gres Q g) _ _ _ _ _ _ _ r.1.q r.1.z _ _ _ _ _ _ _ r.2.q r.2.z _ (H4.out.below ikN Bel.go) (by omega) HD9.out.pq (T4.r.hz.below Bel.go) (T4.r.hq.below Bel.go) (T4.hz.below Bel.go) (T4.hq.below Bel.go) ha.at hb.at ha.z ha.q hb.z hb.q).mono ?_
  rintro e w5 ⟨he,hb5⟩
  have he2:e=.returned (.int .i64 U):=by rw[HU.out];exact he
  subst he2
  have G5:=Lh (G4.out.trans (((Below.trans Bel.go (hb5.mono (by simp<;>omega))):Below w4.heap.size w4 w5).mono G4.out.size))
  clear he T4
  obtain ⟨hcx,hfx⟩:=aao hb5;refine hK.out _ _ ?_ (fun _=>?_);(focus (((try dsimp only);repeat' apply And.intro)<;>(rw[hcx _ (by go_simp)];go_simp)));clear hHeld hK K hcx hfx;rename_i hHeld;clear hb5
  (refine tq 8 ?_;simp only[aac,List.set])
  (refine tq 9 ?_;simp only[aac,List.set])
  refine wpAnyH_done (by kernel_rfl) ?_ _
  replace Hb:=Lh (Hb.out.trans (G5.out.mono Hb.out.size))
  clear hHeld x0 x1 x2 x3 x4 x5 T HP HG G4 G5 H4
  go_wp2
  go_ret
  exact ⟨by first | (rw[EV.out];done) | (rw[EV.out];rfl),Hb.out⟩
end Go.Proofs.YtkefcldcfeolbaaGreat
namespace Go.Proofs.YtkefcldcfeolbaaGreat
open Go Go.RowKit
def ajI (C:Value->Prop) (E t base:Nat) (w:World) (v:Value) (us:List Value):Prop :=
 (us=[]/\v=.slice none 0 0)∨∃ g n cap cs,v=.slice (some ⟨g,0,none⟩) n cap/\base<=g/\us.length=n*E/\n<=cap/\(∀ (j:Nat) (u:Value),us[j]?=some u->w.cell? ⟨g,j,none⟩=some u)/\Blk w g t cs/\cs.size=cap*E/\∀ j,j<cap*E->∃ u,cs[j]?=some u/\C u
theorem ajI.below {C:Value->Prop} {E t base:Nat} {w w':World} {v:Value} {us:List Value} (h:ajI C E t base w v us) (hb:Below w.heap.size w w'):ajI C E t base w' v us:=by
 rcases h with h | ⟨g,n,cap,cs,h1,h2,h3,h4,h5,h6,h7,h8⟩
 ·exact .inl h
 ·exact .inr ⟨g,n,cap,cs,h1,h2,h3,h4,fun j u hu=>(hb.cell (p:=⟨g,j,none⟩) h6.lt).trans (h5 j u hu),h6.below hb h6.lt,h7,h8⟩
theorem ajI.nil (C:Value->Prop) (E t base:Nat) (w:World):ajI C E t base w (.slice none 0 0) []:=.inl ⟨rfl,rfl⟩
def GrE (C:Value->Prop) (E t base:Nat) (w:World) (v:Value) (us vs:List Value) (v':Value) (w':World):Prop :=
 ajI C E t base w' v' (us ++ vs)/\((∃ g n n' cap,v=.slice (some ⟨g,0,none⟩) n cap/\v'=.slice (some ⟨g,0,none⟩) n' cap/\base<=g/\g<w.heap.size/\(∀ o u,w.cell? ⟨g,o,none⟩=some u->C u)/\FrS g g w w')∨(Below w.heap.size w w'/\∃ n' cap,v'=.slice (some ⟨w.heap.size,0,none⟩) n' cap))
theorem GrE.below {C:Value->Prop} {E t base:Nat} {w w':World} {v v':Value} {us vs:List Value} (h:GrE C E t base w v us vs v' w') (hB:base<=w.heap.size):Below base w w':=by
 rcases h.2 with ⟨g,n,n',cap,_,_,h1,_,_,hf⟩ | ⟨hb,_⟩
 ·exact hf.mono (Below.refl _ _) h1 h1 hB
 ·exact hb.mono hB
theorem ajI.frs {C:Value->Prop} {E t base:Nat} {w w':World} {v:Value} {us:List Value} {g:Nat} (h:ajI C E t base w v us) (hf:FrS g g w w') (hg:∀ k n c,v=.slice (some ⟨k,0,none⟩) n c->k≠g):ajI C E t base w' v us:=by
 rcases h with h | ⟨k,n,cap,cs,h1,h2,h3,h4,h5,h6,h7,h8⟩
 ·exact .inl h
 ·have hk:=hg k n cap h1
  exact .inr ⟨k,n,cap,cs,h1,h2,h3,h4,fun j u hu=>(hf.cell h6.lt hk hk j).trans (h5 j u hu),(hf.same k h6.lt hk hk).trans h6,h7,h8⟩
theorem ajI.len {C:Value->Prop} {E t base:Nat} {w:World} {v:Value} {us:List Value} (h:ajI C E t base w v us):∃ A n c,v=.slice A n c/\us.length=n*E/\n<=c:=by
 rcases h with ⟨h1,h2⟩ | ⟨g,n,cap,cs,h1,h2,h3,h4,h5⟩
 ·exact ⟨none,0,0,h2,by rw[h1];simp,Nat.le_refl _⟩
 ·exact ⟨_,n,cap,h1,h3,h4⟩
theorem af6 {C:Value->Prop} {g t N:Nat}:∀ {cs:Array Value} (_:∀ j,j<N->∃ v,cs[j]?=some v/\C v) (_:cs.size=N) (vs:List Value) (_:∀ v∈vs,C v) (o:Nat) (_:o+vs.length<=N) {W:World} (_:Blk W g t cs),
 ∃ cs',Blk (W.setCells g o vs) g t cs'/\cs'.size=N/\(∀ j,j<N->∃ v,cs'[j]?=some v/\C v)/\(∀ (j:Nat) (v:Value),vs[j]?=some v->cs'[o+j]?=some v)/\∀ j,j<o->cs'[j]?=cs[j]?
 | cs,hc,hs,[],_,_,_,_,hk=>⟨cs,hk,hs,hc,fun j v hv=>by simp at hv,fun _ _=>rfl⟩
 | cs,hc,hs,v :: vs,hv,o,ho,W,hk=>by
   simp only[List.length_cons] at ho
   obtain ⟨cs',h1,h2,h3,h4,h5⟩:=af6 (cs:=cs.setIfInBounds o v) (fun j hj=>by
    rcases Nat.decEq j o with hne | heq
    ·rw[Array.getElem?_setIfInBounds_ne (by omega)];exact hc j hj
    ·subst heq
     exact ⟨v,by rw[Array.getElem?_setIfInBounds_self_of_lt (by omega)],hv v (List.mem_cons_self ..)⟩) (by simpa using hs) vs (fun u hu=>hv u (List.mem_cons_of_mem _ hu)) (o+1) (by omega) (hk.acn o v)
   refine ⟨cs',h1,h2,h3,fun j u hu=>?_,fun j hj=>?_⟩
   ·match j,hu with
    | 0,hu =>
      have e:v=u:=by simpa using hu
      rw[Nat.add_zero,h5 o (by omega),Array.getElem?_setIfInBounds_self_of_lt (by omega),e]
    | j+1,hu =>
      rw[show o+(j+1)=o+1+j by omega]
      exact h4 j u (by simpa using hu)
   ·rw[h5 j (by omega),Array.getElem?_setIfInBounds_ne (by omega)]
set_option maxHeartbeats 1000000 in
theorem ahV {w:World} {o:Oper} {a:Act} {K:Act->World->Prop} {Q:Exit->Act->World->Prop} (s x:Operand) (t e:TypeId)
 (ho:o.op=.call { callee:=.builtin .append,args:=#[s,x],argTypes:=#[t,t] }) (E:Nat) (i0:TypeInfo) (z:Value) (ht:Tryz.prog.underlying t=some (.slice e)) (hi:Tryz.prog.info? e=some i0) (hz0:i0.zero=some z) (hz1:i0.size=E) (hz2:i0.bytes<=200) (hzs:z.cells.size=E) (C:Value->Prop) (hC:∀ u,C u->Nd u) (hzn:∀ j,j<E->C (z.cells[j]!)) (hE:0<E)
 (base:Nat) (v:Value) (us vs:List Value) (hs:a.eval s=v) (hown:ajI C E e base w v us) (hB:base<=w.heap.size)
 (ax:Addr) (m c:Nat) (hx:a.eval x=.slice (some ax) m c) (hvl:vs.length=m*E) (hxc:∀ (j:Nat) (u:Value),vs[j]?=some u->w.cell? (ax.add j)=some u) (hvn:∀ u∈vs,C u) (hm:0<m∨v≠.slice none 0 0) (hn:us.length+vs.length<=100000000)
 (dd:Nat) (hdd:o.dst=some dd) (h:∀ v' w',GrE C E e base w v us vs v' w'->K (a.put (some dd) v') w') :
 Oper.wp Tryz.prog o a w K Q:=by
 rw[<- hdd] at h
 have hone:∀ u∈vs,u.oneCell'=true:=fun u hu=>(hC u (hvn u hu)).2
 have hml:m<=100000000:=by
  have:m<=m*E:=Nat.le_mul_of_pos_right _ hE
  omega
 have hzc:∀ k j,j<k*E->∃ v,(Builtin.zeroCells z.cells k)[j]?=some v/\C v:=fun k j hj=>by
  unfold Builtin.zeroCells
  rw[Array.getElem?_map,Array.getElem?_range,hzs,if_pos hj]
  exact ⟨_,rfl,hzn _ (Nat.mod_lt _ hE)⟩
 have hzz:∀ k,(Builtin.zeroCells z.cells k).size=k*E:=fun k=>by rw[size_zeroCells,hzs]
 have hvj:∀ j,j<vs.length->∃ u,vs[j]?=some u/\C u:=fun j hj=>⟨vs[j]'hj,List.getElem?_eq_getElem hj,hvn _ (List.getElem_mem _)⟩
 have hnew:∀ (n cap':Nat) (olds:List Value),olds.length=n*E->(∀ u∈olds,C u)->(us=olds)->n+m<=cap' ->
  GrE C E e base w v us vs (.slice (some ⟨w.heap.size,0,none⟩) (n+m) cap') (w.drew.alloc (.cells ((olds ++ vs).toArray ++ Builtin.zeroCells z.cells (cap'-(n+m))) e)):=fun n cap' olds hl hnd hu hc=>by
  have hbw:Below w.heap.size w (w.drew.alloc (.cells ((olds ++ vs).toArray ++ Builtin.zeroCells z.cells (cap'-(n+m))) e)):=((Below.refl _ _).drew).alloc (by simp) _
  have hk:Blk (w.drew.alloc (.cells ((olds ++ vs).toArray ++ Builtin.zeroCells z.cells (cap'-(n+m))) e)) w.heap.size e ((olds ++ vs).toArray ++ Builtin.zeroCells z.cells (cap'-(n+m))):=Blk.new w.drew _ _
  have hlen:(olds ++ vs).length=(n+m)*E:=by rw[List.length_append,hl,hvl,Nat.add_mul]
  refine ⟨.inr ⟨w.heap.size,n+m,cap',_,rfl,hB,by rw[hu,hlen],hc,fun j u hj=>?_,hk,?_,fun j hj=>?_⟩,.inr ⟨hbw,_,_,rfl⟩⟩
  ·rw[hu] at hj
   have hjl:=(List.getElem?_eq_some_iff.1 hj).1
   refine (hk.cell j).trans ?_
   rw[Array.getElem?_append_left (by simpa using hjl),List.getElem?_toArray,hj]
  ·rw[Array.size_append,List.size_toArray,hzz,hlen,<- Nat.add_mul,Nat.add_sub_cancel' hc]
  ·rcases Nat.lt_or_ge j ((n+m)*E) with h1 | h1
   ·rw[Array.getElem?_append_left (by rw[List.size_toArray,hlen];exact h1),List.getElem?_toArray]
    refine ⟨(olds ++ vs)[j]'(by rw[hlen];exact h1),List.getElem?_eq_getElem _,?_⟩
    rcases List.mem_append.1 (List.getElem_mem (l:=olds ++ vs) (by rw[hlen];exact h1)) with h2 | h2
    ·exact hnd _ h2
    ·exact hvn _ h2
   ·rw[Array.getElem?_append_right (by rw[List.size_toArray,hlen];exact h1),List.size_toArray,hlen]
    refine hzc _ _ ?_
    rw[Nat.sub_mul]
    omega
 rcases hown with ⟨hn0,hF⟩ | ⟨g,n,cap,cs,hF,hBg,hul,hnc,huc,hk,hsz,hcs⟩
 ·subst hF
  have hm0:0<m:=hm.resolve_right fun h=>h rfl
  have hrun:=run_append_nil (P:=Tryz.prog) (w:=w) t o.type e i0 z ht hi hz0 ax m c vs (by rw[hz1,hvl]) hxc hm0 (by omega) (by
   have:=Nat.mul_le_mul hml hz2
   omega)
  have hge:m<=grownCap w m 0 e:=grownCap_ge w m 0 e
  generalize grownCap w m 0 e=cap' at hrun hge
  have hg:=hnew 0 cap' [] (by simp) (fun u hu=>by simp at hu) hn0 (by omega)
  rw[List.nil_append,Nat.zero_add] at hg
  unfold Oper.wp
  simp only[execOp,ho,resolve,invoke,builtin]
  simp[hs,hx,hrun,Result.andThen]
  exact h _ _ hg
 ·subst hF
  have hnl:n<=100000000:=by
   have:n<=n*E:=Nat.le_mul_of_pos_right _ hE
   omega
  by_cases hrm:n+m<=cap
  ·have hnm:n*E+m*E<=cap*E:=by rw[<- Nat.add_mul];exact Nat.mul_le_mul_right _ hrm
   have hrun:=run_append_room_cells (P:=Tryz.prog) w t o.type e i0 ht hi g 0 n cap ax m c vs (by rw[hz1,hvl]) hxc hone hrm
    (fun j hj=>by
      obtain ⟨u,eu,_⟩:=hcs (n*E+j) (by rw[hvl] at hj;omega)
      rw[hz1,Nat.zero_add,hk.cell,eu];rfl)
    (fun j hj=>hk.frozen _)
   rw[hz1,Nat.zero_add] at hrun
   unfold Oper.wp
   simp only[execOp,ho,resolve,invoke,builtin]
   simp[hs,hx,hrun,Result.andThen]
   have hcc:∀ o u,w.cell? ⟨g,o,none⟩=some u->C u:=fun o u hu=>by
    rw[hk.cell] at hu
    have hj:o<cs.size:=(Array.getElem?_eq_some_iff.1 hu).1
    obtain ⟨u',e',hd⟩:=hcs o (by rw[<- hsz];exact hj)
    rw[hu] at e'
    cases e'
    exact hd
   obtain ⟨cs',b1,b2,b3,b4,b5⟩:∃ cs',Blk (w.setCells g (n*E) vs) g e cs'/\cs'.size=cap*E/\(∀ j,j<cap*E->∃ v,cs'[j]?=some v/\C v)/\(∀ (j:Nat) (v:Value),vs[j]?=some v->cs'[n*E+j]?=some v)/\∀ j,j<n*E->cs'[j]?=cs[j]?:=af6 hcs hsz vs hvn (n*E) (by rw[hvl];exact hnm) hk
   have hfr:FrS g g w (w.setCells g (n*E) vs):=adA vs (n*E) (FrS.refl _ _ _)
   refine h _ _ ⟨.inr ⟨g,n+m,cap,cs',rfl,hBg,by rw[List.length_append,hul,hvl,Nat.add_mul],hrm,fun j u hj=>?_,b1,b2,b3⟩,.inl ⟨g,n,n+m,cap,rfl,rfl,hBg,hk.lt,hcc,hfr⟩⟩
   refine (b1.cell j).trans ?_
   rcases Nat.lt_or_ge j us.length with h1 | h1
   ·rw[List.getElem?_append_left h1] at hj
    rw[b5 j (by rw[<- hul];exact h1),<- hk.cell j]
    exact huc j u hj
   ·rw[List.getElem?_append_right h1] at hj
    have:=b4 _ u hj
    rwa [<- hul,Nat.add_sub_cancel' h1] at this
  ·have hol:∀ u∈us,C u:=fun u hu=>by
    obtain ⟨j,hj,hju⟩:=List.getElem_of_mem hu
    have hc:=huc j u (by rw[List.getElem?_eq_getElem hj,hju])
    rw[hk.cell j] at hc
    obtain ⟨u',e',hd⟩:=hcs j (by
     have:n*E<=cap*E:=Nat.mul_le_mul_right _ hnc
     omega)
    rw[hc] at e'
    cases e'
    exact hd
   have hnm:=Nat.mul_le_mul (show n+m<=200000000 by omega) hz2
   have hfit:=growslice_fits (need:=n+m) (old:=cap) (bytes:=i0.bytes) (by omega) (by omega)
   have hrun:=run_append_grow (P:=Tryz.prog) w t o.type e i0 z ht hi hz0 ⟨g,0,none⟩ n cap us (by rw[hz1,hul])
    (fun j u hj=>by rw[Addr.add_lit,Nat.zero_add];exact huc j u hj)
    ax m c vs (by rw[hz1,hvl]) hxc (by omega) (by omega) hfit
   have hge:=grownCap_ge w (n+m) cap e
   generalize grownCap w (n+m) cap e=cap' at hrun hge
   have hg:=hnew n cap' us hul hol rfl hge
   unfold Oper.wp
   simp only[execOp,ho,resolve,invoke,builtin]
   simp[hs,hx,hrun,Result.andThen]
   exact h _ _ (by simpa using hg)
def Lay {α:Type} (R:α->List Value->Prop):List α->List Value->Prop
 | [],us=>us=[]
 | x :: xs,us=>∃ vs us',R x vs/\us=vs ++ us'/\Lay R xs us'
section
variable {α:Type} {R R':α->List Value->Prop} {E:Nat}
theorem Lay.app:∀ {xs:List α} {us:List Value} {x:α} {vs:List Value},Lay R xs us->R x vs->Lay R (xs ++ [x]) (us ++ vs)
 | [],us,x,vs,h,hx=>by
   rw[show us=[] from h]
   exact ⟨vs,[],hx,by simp,rfl⟩
 | y :: xs,us,x,vs,⟨ws,us',h1,h2,h3⟩,hx=>⟨ws,us' ++ vs,h1,by rw[h2,List.append_assoc],Lay.app h3 hx⟩
theorem Lay.mono (hm:∀ x vs,R x vs->R' x vs):∀ {xs:List α} {us:List Value},Lay R xs us->Lay R' xs us
 | [],_,h=>h
 | _ :: _,_,⟨vs,us',h1,h2,h3⟩=>⟨vs,us',hm _ _ h1,h2,Lay.mono hm h3⟩
theorem Lay.len (hR:∀ x vs,R x vs->vs.length=E):∀ {xs:List α} {us:List Value},Lay R xs us->us.length=xs.length*E
 | [],us,h=>by rw[show us=[] from h];simp
 | x :: xs,us,⟨vs,us',h1,h2,h3⟩=>by rw[h2,List.length_append,hR _ _ h1,Lay.len hR h3,List.length_cons,Nat.add_mul,Nat.one_mul,Nat.add_comm]
theorem Lay.get (hR:∀ x vs,R x vs->vs.length=E):∀ {xs:List α} {us:List Value},Lay R xs us->∀ (i:Nat) (x:α),xs[i]?=some x->∃ vs,R x vs/\∀ (j:Nat) (v:Value),vs[j]?=some v->us[i*E+j]?=some v
 | [],_,_,i,x,hx=>by simp at hx
 | y :: xs,us,⟨vs,us',h1,h2,h3⟩,i,x,hx=>by
   match i,hx with
   | 0,hx =>
     have e:y=x:=by simpa using hx
     subst e
     refine ⟨vs,h1,fun j v hv=>?_⟩
     rw[h2,Nat.zero_mul,Nat.zero_add,List.getElem?_append_left (List.getElem?_eq_some_iff.1 hv).1]
     exact hv
   | i+1,hx =>
     obtain ⟨ws,g1,g2⟩:=Lay.get hR h3 i x (by simpa using hx)
     refine ⟨ws,g1,fun j v hv=>?_⟩
     have hl:=hR _ _ h1
     rw[h2,List.getElem?_append_right (by rw[hl,Nat.add_mul];omega),hl,show (i+1)*E+j-E=i*E+j by rw[Nat.add_mul];omega]
     exact g2 j v hv
end
structure SlE {α:Type} (E:Nat) (R:World->α->List Value->Prop) (w:World) (A:Option Addr) (l c:Nat) (xs:List α):Prop where
 length:xs.length=l
 cap:l<=c
 elems:(l=0/\A=none/\c=0)∨∃ b o,A=some ⟨b,o,none⟩/\b<w.heap.size/\∀ (i:Nat) (x:α),xs[i]?=some x->∃ vs,R w x vs/\∀ (j:Nat) (v:Value),vs[j]?=some v->w.cell? ⟨b,o+i*E+j,none⟩=some v
theorem SlE.below {α:Type} {E:Nat} {R:World->α->List Value->Prop} {w w':World} {A:Option Addr} {l c:Nat} {xs:List α} (h:SlE E R w A l c xs) (hb:Below w.heap.size w w') (hR:∀ x vs,R w x vs->R w' x vs):SlE E R w' A l c xs:=by
 refine ⟨h.length,h.cap,?_⟩
 rcases h.elems with h0 | ⟨b,o,hA,hlt,hv⟩
 ·exact .inl h0
 ·refine .inr ⟨b,o,hA,Nat.lt_of_lt_of_le hlt hb.size,fun i x hx=>?_⟩
  obtain ⟨vs,h1,h2⟩:=hv i x hx
  exact ⟨vs,hR _ _ h1,fun j v hj=>(hb.cell (p:=⟨b,o+i*E+j,none⟩) hlt).trans (h2 j v hj)⟩
theorem ajI.sle {α:Type} {C:Value->Prop} {E t base:Nat} {R:World->α->List Value->Prop} {w:World} {v:Value} {us:List Value} {xs:List α} (hE:0<E) (h:ajI C E t base w v us) (hl:Lay (R w) xs us) (hR:∀ x vs,R w x vs->vs.length=E):∃ A l c,v=.slice A l c/\SlE E R w A l c xs:=by
 have hlen:=hl.len hR
 rcases h with ⟨h1,h2⟩ | ⟨g,n,cap,cs,h1,h2,h3,h4,h5,h6,h7,h8⟩
 ·have:xs.length=0:=by
   rw[h1,List.length_nil] at hlen
   rcases Nat.mul_eq_zero.1 hlen.symm with h | h<;>omega
  exact ⟨_,_,_,h2,this,Nat.le_refl _,.inl ⟨rfl,rfl,rfl⟩⟩
 ·refine ⟨_,n,cap,h1,Nat.eq_of_mul_eq_mul_right hE (by rw[<- hlen,h3]),h4,.inr ⟨g,0,rfl,h6.lt,fun i x hx=>?_⟩⟩
  obtain ⟨vs,g1,g2⟩:=hl.get hR i x hx
  exact ⟨vs,g1,fun j u hu=>by rw[Nat.zero_add];exact h5 _ u (g2 j u hu)⟩
end Go.Proofs.YtkefcldcfeolbaaGreat
namespace Go.Proofs.YtkefcldcfeolbaaGreat
open Go Go.RowKit
def ap6 (w:World) (a:Fq) (vs:List Value):Prop:=∃ n A l c B m d,vs=[.bool n,.slice A l c,.slice B m d]/\aaA w n A l c a.z/\aaT w B m d a.q
theorem ap6.below {w w':World} {a:Fq} {vs:List Value} (h:ap6 w a vs) (hb:Below w.heap.size w w'):ap6 w' a vs:=by
 obtain ⟨n,A,l,c,B,m,d,e,h1,h2⟩:=h
 exact ⟨n,A,l,c,B,m,d,e,h1.below hb,h2.below hb⟩
theorem ap6.frs {g g':Nat} {w w':World} {a:Fq} {vs:List Value} (h:ap6 w a vs) (hf:FrS g g' w w') (k1:NdB w g) (k2:NdB w g'):ap6 w' a vs:=by
 obtain ⟨n,A,l,c,B,m,d,e,h1,h2⟩:=h
 exact ⟨n,A,l,c,B,m,d,e,h1.frs hf k1 k2,h2.frs hf k1 k2⟩
theorem ap6.len {w:World} {a:Fq} {vs:List Value} (h:ap6 w a vs):vs.length=3:=by
 obtain ⟨n,A,l,c,B,m,d,e,h1,h2⟩:=h
 rw[e];rfl
end Go.Proofs.YtkefcldcfeolbaaGreat
namespace Go.Proofs.YtkefcldcfeolbaaGreat
open Go Go.RowKit
def SlC (u:Value):Prop:=∃ A l c,u=.slice A l c
theorem asf (u:Value) (h:SlC u):Nd u:=by obtain ⟨A,l,c,rfl⟩:=h;exact abr _ _ _
def amM (w:World) (p:List Int) (vs:List Value):Prop:=∃ A l c,vs=[.slice A l c]/\aaB w A l c p
def ap7 (w:World) (xs:List Int) (vs:List Value):Prop:=∃ A l c,vs=[.slice A l c]/\afl w A l c xs
section
variable {w w':World} {p xs:List Int} {vs:List Value} {g:Nat}
theorem amM.below (h:amM w p vs) (hb:Below w.heap.size w w'):amM w' p vs:=by
 obtain ⟨A,l,c,e,h1⟩:=h
 exact ⟨A,l,c,e,h1.below ikN hb⟩
theorem amM.len (h:amM w p vs):vs.length=1:=by obtain ⟨A,l,c,e,h1⟩:=h;rw[e];rfl
theorem amM.sl (h:amM w p vs):∀ v∈vs,SlC v:=by
 obtain ⟨A,l,c,e,h1⟩:=h
 intro v hv
 rw[e,List.mem_singleton] at hv
 exact ⟨A,l,c,hv⟩
theorem amM.frs (h:amM w p vs) (hf:FrS g g w w') (hc:∀ o u,w.cell? ⟨g,o,none⟩=some u->SlC u):amM w' p vs:=by
 obtain ⟨A,l,c,e,h1⟩:=h
 have hnd:NdB w g:=fun o u hu=>(asf u (hc o u hu)).1
 refine ⟨A,l,c,e,agv.frs (g:=g) (g':=g) ⟨h1,?_⟩ hf hnd hnd⟩
 rcases h1.elems with h0 | ⟨b,o,hA,hlt,he⟩
 ·exact .inl h0
 ·rcases Nat.eq_zero_or_pos l with h0 | h0
  ·exact .inl h0
  ·have hne:b≠g:=fun e=>by
    subst e
    obtain ⟨neg,_,_,_,f1,_,_⟩:=he 0 h0
    obtain ⟨_,_,_,e2⟩:=hc _ _ f1
    cases e2
   exact .inr ⟨b,o,hA,hne,hne⟩
theorem ap7.below (h:ap7 w xs vs) (hb:Below w.heap.size w w'):ap7 w' xs vs:=by
 obtain ⟨A,l,c,e,h1⟩:=h
 exact ⟨A,l,c,e,h1.below hb⟩
theorem ap7.len (h:ap7 w xs vs):vs.length=1:=by obtain ⟨A,l,c,e,h1⟩:=h;rw[e];rfl
theorem ap7.sl (h:ap7 w xs vs):∀ v∈vs,SlC v:=by
 obtain ⟨A,l,c,e,h1⟩:=h
 intro v hv
 rw[e,List.mem_singleton] at hv
 exact ⟨A,l,c,hv⟩
theorem ap7.frs (h:ap7 w xs vs) (hf:FrS g g w w') (hc:∀ o u,w.cell? ⟨g,o,none⟩=some u->SlC u):ap7 w' xs vs:=by
 obtain ⟨A,l,c,e,h1⟩:=h
 refine ⟨A,l,c,e,h1.length,h1.cap,?_⟩
 rcases h1.cells with h0 | ⟨b,o,hA,hlt,he⟩
 ·exact .inl h0
 ·rcases Nat.eq_zero_or_pos l with h0 | h0
  ·exact .inl h0
  ·have hne:b≠g:=fun e=>by
    subst e
    obtain ⟨_,_,_,e2⟩:=hc _ _ (he 0 h0)
    cases e2
   exact .inr ⟨b,o,hA,Nat.lt_of_lt_of_le hlt hf.size,fun j hj=>(hf.cell hlt hne hne _).trans (he j hj)⟩
end
theorem ah4 {w:World} {ops:Array Oper} {rest:List Oper} {o:Oper} {a:Act} {Q:Exit->Act->World->Prop} (hgd:o.guard=none) (s x:Operand) (t e:TypeId)
 (ho:o.op=.call { callee:=.builtin .append,args:=#[s,x],argTypes:=#[t,t] }) (E:Nat) (i0:TypeInfo) (z:Value) (ht:Tryz.prog.underlying t=some (.slice e)) (hi:Tryz.prog.info? e=some i0) (hz0:i0.zero=some z) (hz1:i0.size=E) (hz2:i0.bytes<=200) (hzs:z.cells.size=E) (C:Value->Prop) (hC:∀ u,C u->Nd u) (hzn:∀ j,j<E->C (z.cells[j]!)) (hE:0<E)
 (base:Nat) (v:Value) (us vs:List Value) (hs:a.eval s=v) (hown:ajI C E e base w v us) (hB:base<=w.heap.size)
 (ax:Addr) (m c:Nat) (hx:a.eval x=.slice (some ax) m c) (hvl:vs.length=m*E) (hxc:∀ (j:Nat) (u:Value),vs[j]?=some u->w.cell? (ax.add j)=some u) (hvn:∀ u∈vs,C u) (hm:0<m∨v≠.slice none 0 0) (hn:us.length+vs.length<=100000000)
 (dd:Nat) (hdd:o.dst=some dd) (h:∀ v' w',GrE C E e base w v us vs v' w'->wpList Tryz.prog ops Q rest (a.put (some dd) v') w') :
 wpList Tryz.prog ops Q (o :: rest) a w :=
 wpList_plain hgd fun _ hK'=>ahV s x t e ho E i0 z ht hi hz0 hz1 hz2 hzs C hC hzn hE base v us vs hs hown hB ax m c hx hvl hxc hvn hm hn dd hdd fun v' w' hg=>hK' _ _ (h v' w' hg)
theorem one_cell {w:World} {u:Value} (t:TypeId):∀ (j:Nat) (v:Value),[u][j]?=some v->(w.alloc (.cells #[u] t)).cell? ((⟨w.heap.size,0,none⟩:Addr).add j)=some v:=fun j v hv=>by
 match j,hv with
 | 0,hv=>simp at hv;subst hv;simp[Addr.add]
end Go.Proofs.YtkefcldcfeolbaaGreat
namespace Go.Proofs.YtkefcldcfeolbaaGreat
open Go Go.RowKit
section
variable {α:Type} {C:Value->Prop} {E t base:Nat} {R:World->α->List Value->Prop} {w w':World} {v v':Value} {us vs:List Value}
theorem GrE.mv (h:GrE C E t base w v us vs v' w') (hb:∀ x vs,Below w.heap.size w w'->R w x vs->R w' x vs) (hf:∀ g x vs,FrS g g w w'->(∀ o u,w.cell? ⟨g,o,none⟩=some u->C u)->R w x vs->R w' x vs) (x:α) (ys:List Value) (hx:R w x ys):R w' x ys:=by
 rcases h.2 with ⟨g,n,n',cap,_,_,_,_,k,f⟩ | ⟨k,_⟩
 ·exact hf g x ys f k hx
 ·exact hb x ys k hx
end
theorem atX {B:Nat} {t:TypeId} {w w':World} {v v':Value} {us vs:List Value} (h:GrE SlC 1 t B w v us vs v' w') (p:List Int) (ys:List Value):amM w p ys->amM w' p ys:=h.mv (fun _ _ hb hx=>hx.below hb) (fun _ _ _ hf hc hx=>hx.frs hf hc) p ys
theorem slz:∀ j,j<1->SlC ((Value.slice none 0 0).cells[j]!):=fun j hj=>by
 match j,hj with
 | 0,_=>exact ⟨none,0,0,rfl⟩
end Go.Proofs.YtkefcldcfeolbaaGreat
namespace Go.Proofs.YtkefcldcfeolbaaGreat
open Go Go.RowKit
def New (B:Nat) (A:Option Addr) (l:Nat):Prop:=l=0∨∃ r,A=some ⟨r,0,none⟩/\B<=r
section
variable {B B' g:Nat} {A:Option Addr} {l c:Nat} {w w':World} {p:List Int} {ps:List (List Int)} {vs us:List Value} {v v':Value}
theorem New.mono (h:New B A l) (hb:B'<=B):New B' A l:=h.imp id fun ⟨r,e,hr⟩=>⟨r,e,Nat.le_trans hb hr⟩
def acR (B:Nat) (w:World) (p:List Int) (vs:List Value):Prop:=∃ A l c,vs=[.slice A l c]/\aaB w A l c p/\New B A l
theorem acR.axn (h:acR B w p vs):amM w p vs:=by
 obtain ⟨A,l,c,e,h1,_⟩:=h
 exact ⟨A,l,c,e,h1⟩
theorem acR.mono (h:acR B w p vs) (hb:B'<=B):acR B' w p vs:=by
 obtain ⟨A,l,c,e,h1,h2⟩:=h
 exact ⟨A,l,c,e,h1,h2.mono hb⟩
theorem acR.below (h:acR B w p vs) (hb:Below w.heap.size w w'):acR B w' p vs:=by
 obtain ⟨A,l,c,e,h1,h2⟩:=h
 exact ⟨A,l,c,e,h1.below ikN hb,h2⟩
theorem acR.len (h:acR B w p vs):vs.length=1:=h.axn.len
theorem acR.sl (h:acR B w p vs):∀ v∈vs,SlC v:=h.axn.sl
theorem acR.frs (h:acR B w p vs) (hf:FrS g g w w') (hc:∀ o u,w.cell? ⟨g,o,none⟩=some u->SlC u):acR B w' p vs:=by
 obtain ⟨A',l',c',e',h'⟩:=h.axn.frs hf hc
 obtain ⟨A,l,c,e,_,h2⟩:=h
 have e2:=e.symm.trans e'
 cases e2
 exact ⟨_,_,_,e',h',h2⟩
theorem acR.off (h:acR B w p vs) (hf:FrS g g w w') (hn:NdB w g) (hg:g<B):acR B w' p vs:=by
 obtain ⟨A,l,c,e,h1,h2⟩:=h
 refine ⟨A,l,c,e,agv.frs (g:=g) (g':=g) ⟨h1,?_⟩ hf hn hn,h2⟩
 rcases h2 with h0 | ⟨r,hA,hr⟩
 ·exact .inl h0
 ·exact .inr ⟨r,0,hA,by omega,by omega⟩
theorem amN {B0:Nat} {t:TypeId} (h:GrE SlC 1 t B0 w v us vs v' w') (p:List Int) (ys:List Value):acR B w p ys->acR B w' p ys:=h.mv (fun _ _ hb hx=>hx.below hb) (fun _ _ _ hf hc hx=>hx.frs hf hc) p ys
def ChF (B:Nat) (w:World) (A:Option Addr) (l c:Nat) (ps:List (List Int)):Prop:=SlE 1 (acR B) w A l c ps/\New B A l
theorem ChF.nil (B:Nat) (w:World):ChF B w none 0 0 []:=⟨⟨rfl,Nat.le_refl _,.inl ⟨rfl,rfl,rfl⟩⟩,.inl rfl⟩
theorem ChF.own {t:TypeId} (h:ajI SlC 1 t B w (.slice A l c) us) (hl:Lay (acR B w) ps us):ChF B w A l c ps:=by
 obtain ⟨A9,l9,c9,e9,h9⟩:=h.sle (by decide) hl fun x vs hx=>hx.len
 cases e9
 refine ⟨h9,?_⟩
 rcases h with ⟨_,e⟩ | ⟨g,n,cap,cs,e,hb,_⟩
 ·cases e;exact .inl rfl
 ·cases e;exact .inr ⟨g,rfl,hb⟩
theorem ChF.mono (h:ChF B w A l c ps) (hb:B'<=B):ChF B' w A l c ps:=by
 refine ⟨⟨h.1.length,h.1.cap,?_⟩,h.2.mono hb⟩
 rcases h.1.elems with h0 | ⟨b,o,e,hlt,hv⟩
 ·exact .inl h0
 ·refine .inr ⟨b,o,e,hlt,fun i x hx=>?_⟩
  obtain ⟨vs,h1,h2⟩:=hv i x hx
  exact ⟨vs,h1.mono hb,h2⟩
theorem ChF.below (h:ChF B w A l c ps) (hb:Below w.heap.size w w'):ChF B w' A l c ps:=⟨h.1.below hb fun _ _ hx=>hx.below hb,h.2⟩
theorem ChF.off (h:ChF B w A l c ps) (hf:FrS g g w w') (hn:NdB w g) (hg:g<B):ChF B w' A l c ps:=by
 refine ⟨⟨h.1.length,h.1.cap,?_⟩,h.2⟩
 rcases h.1.elems with h0 | ⟨b,o,e,hlt,hv⟩
 ·exact .inl h0
 ·rcases h.2 with h0 | ⟨r,hA,hr⟩
  ·subst h0
   refine .inr ⟨b,o,e,Nat.lt_of_lt_of_le hlt hf.size,fun i x hx=>?_⟩
   have:=h.1.length
   have hi:i<ps.length:=by
    refine Nat.lt_of_not_le fun hc=>?_
    rw[List.getElem?_eq_none hc] at hx;cases hx
   omega
  ·have hbr:b=r:=congrArg Addr.block (Option.some.inj (e.symm.trans hA))
   refine .inr ⟨b,o,e,Nat.lt_of_lt_of_le hlt hf.size,fun i x hx=>?_⟩
   obtain ⟨vs,h1,h2⟩:=hv i x hx
   exact ⟨vs,h1.off hf hn hg,fun j v hj=>(hf.cell hlt (by omega) (by omega) _).trans (h2 j v hj)⟩
theorem ChF.av4 (h:ChF B w A l c ps):aiX w A l c ps:=by
 refine ⟨h.1.length,?_⟩
 rcases h.1.elems with ⟨h0,_⟩ | ⟨b,o,e,hlt,hv⟩
 ·exact .inl h0
 ·refine .inr ⟨b,o,e,hlt,fun j hj=>?_⟩
  have hjl:j<ps.length:=by rw[h.1.length];exact hj
  obtain ⟨vs,⟨A1,l1,c1,e1,h1,_⟩,hc⟩:=hv j (ps.getD j []) (by rw[List.getD_eq_getElem?_getD,List.getElem?_eq_getElem hjl];rfl)
  subst e1
  have:=hc 0 _ rfl
  rw[Nat.mul_one,Nat.add_zero] at this
  exact ⟨A1,l1,c1,this,h1.at_ ikN⟩
theorem atY {t:TypeId} {base:Nat} (w:World) (A:Option Addr) (l c:Nat) (hb:base<=w.heap.size):ajI SlC 1 t base (w.alloc (.cells #[.slice A l c] t)) (.slice (some ⟨w.heap.size,0,none⟩) 1 1) [.slice A l c]:=by
 refine .inr ⟨w.heap.size,1,1,_,rfl,hb,rfl,Nat.le_refl _,fun j u hu=>?_,Blk.new w t _,rfl,fun j hj=>?_⟩
 ·match j,hu with
  | 0,hu=>simp at hu;subst hu;simp
 ·match j,hj with
  | 0,_=>exact ⟨_,rfl,A,l,c,rfl⟩
end
set_option maxRecDepth 100000 in
set_option maxHeartbeats 4000000 in
theorem agP {I:aas} (hI:IK I) (A:Option Addr) (len cap:Nat) (p:List Int) (w:World) (h:aar I w A len cap p) (hs:SmP p) (hm:len<=1000000000) :
 Calls Tryz.prog 35 #[.slice A len cap] w fun e w'=>∃ A' l' c',e=.returned (.slice A' l' c')/\aaB w' A' l' c' (aal p)/\New w.heap.size A' l'/\Below w.heap.size w w':=by
 have hsc:=aiY hs
 have Hp:=Lh h
 go_enter Tryz.func35,Tryz.ntmps35
 go_wp2_with fail
 refine (afp hI _ _ _ _ _ h hs hm).mono ?_
 rintro e w1 ⟨n1,A1,l1,c1,rfl,h1,hb1⟩
 have hba:Below w1.heap.size w1 (w1.alloc (aap n1 A1 l1 c1)):=(Below.refl _ _).alloc (Nat.le_refl _) _
 have HC:=Lh (aaK.make h1)
 have Hb1:=Lh (hb1.trans (hba.mono hb1.size))
 have h2:=(h.below hI hb1).below hI hba
 have Hsz:=Lh hb1.size
 clear h h1 hb1 hba
 go_wp2_with fail
 refine (lead_any _ _ _ _ _ (h2.at_ hI) hs (by omega)).mono ?_
 rintro e w2 ⟨n2,A2,l2,c2,rfl,hL,hb2⟩
 have h3:=h2.below hI hb2
 have HC2:=Lh (HC.out.move hb2)
 have Hb2:=Lh (Hb1.out.trans (hb2.mono Hb1.out.size))
 clear h2 hb2 HC Hb1
 have hsl:SmI (aai p):=hs.getD _
 go_wp2_with fail
 refine (aa8 _ _ _ _ _ _ hL.at_ hsl).mono ?_
 rintro e w3 ⟨rfl,rfl⟩
 have hba:Below w2.heap.size w2 (w2.alloc (Obj.cells #[Value.bool n2,Value.slice A2 l2 c2] 36)):=(Below.refl _ _).alloc (Nat.le_refl _) _
 have h4:=h3.below hI hba
 have HC3:=Lh (HC2.out.move hba)
 have Hb3:=Lh (Hb2.out.trans (hba.mono Hb2.out.size))
 clear h3 hba HC2 Hb2 hL
 generalize w2.alloc (Obj.cells #[Value.bool n2,Value.slice A2 l2 c2] 36)=W at *
 obtain ⟨gb,hgb⟩:∃ g,g=w1.heap.size:=⟨_,rfl⟩
 rw[<- hgb] at HC3 ⊢
 have Hgb:=Lh (show w.heap.size<=gb by have:=Hsz.out;omega)
 have Hl0:=Lh (aa4 (f:=p))
 have Hcn:=Lh (fun h=>acf (p:=p) h)
 have hcs:SmI (aam p:Int):=by show Sm _;rw[Int.natAbs_natCast];exact hsc
 clear hgb
 rcases aav (aai p) with ⟨hp,hsg⟩ | ⟨hp,hsg⟩ | ⟨hp,hsg⟩
 ·rw[hsg]
  have hpl:aad p≠0:=fun h=>by have:=Hl0.out.2 h;omega
  have hne:-(aam p:Int)≠0:=by have:=Hcn.out hpl;omega
  have hsn:SmI (-(aam p:Int)):=by show Sm _;rw[Int.natAbs_neg,Int.natAbs_natCast];exact hsc
  have b0:=HC3.out.c0
  have b1:=HC3.out.c1
  have H4:=Lh h4
  have Hpp:=Lh (show aal p=(aaf p).map (·.tdiv (-(aam p:Int))) by unfold aal;rw[if_neg hpl,hsg,Int.neg_one_mul])
  clear h4 hp hsg hpl hsl
  go_wp2_with fail
  refine (adT _ _ _ _ _ _ HC3.out.hz.at_ hcs).mono ?_
  rintro e w5 ⟨n5,A5,l5,c5,rfl,h5,hb5⟩
  have hC5:=HC3.out.move hb5
  have H5:=Lh (H4.out.below hI hb5)
  have Hb5:=Lh (Hb3.out.trans (hb5.mono Hb3.out.size))
  have HP:=Lh (hC5.put h5)
  have hbp:Below w.heap.size w (adp w5 gb n5 A5 l5 c5):=(Hb5.out.setCell (p:=⟨gb,0,none⟩) Hgb.out _).setCell (p:=⟨gb,1,none⟩) Hgb.out _
  have c50:=hC5.c0
  have c51:=hC5.c1
  have f50:=hC5.f0
  have f51:=hC5.f1
  have H6:=Lh (Hp.out.below hI hbp)
  have Hbp:=Lh hbp
  clear h5 hb5 hC5 b0 b1 HC3 H4 hbp H5 Hb5
  go_wp2_with fail
  refine (afH hI _ _ _ _ _ _ _ _ _ _ H6.out HP.out.hz hs hsn hne hm).mono ?_
  rintro e w7 ⟨g7,rfl,h7,hg7,hb7⟩
  have Hn7:=Lh (Nat.le_trans Hbp.out.size hg7)
  clear hg7
  have hq7:=h7.poly (cap:=aad p) (by rw[List.length_map,aae];exact Nat.le_refl _)
  rw[List.length_map,aae] at hq7
  have Hq7:=Lh hq7
  have Hb7:=Lh (Hbp.out.trans (hb7.mono Hbp.out.size))
  clear h7 hb7 hq7 HP H6 Hbp c50 c51 f50 f51
  go_wp2
  go_ret
  exact ⟨_,_,_,rfl,by rw[Hpp.out];exact Hq7.out,.inr ⟨g7,rfl,Hn7.out⟩,Hb7.out⟩
 ·rw[hsg]
  have hpl:aad p=0:=Hl0.out.1 hp
  have Hpp:=Lh (show aal p=[] by unfold aal;rw[if_pos hpl])
  clear h4 hp hsg hpl hsl
  go_wp2
  go_ret
  exact ⟨_,_,_,rfl,by rw[Hpp.out];exact aar.nil _ _ _ _,.inl rfl,Hb3.out⟩
 ·rw[hsg]
  have hpl:aad p≠0:=fun h=>by have:=Hl0.out.2 h;omega
  have hne:(aam p:Int)≠0:=by have:=Hcn.out hpl;omega
  have b0:=HC3.out.c0
  have b1:=HC3.out.c1
  have H4:=Lh h4
  have Hpp:=Lh (show aal p=(aaf p).map (·.tdiv (aam p:Int)) by unfold aal;rw[if_neg hpl,hsg,Int.one_mul])
  clear h4 hp hsg hpl hsl
  go_wp2_with fail
  refine (afH hI _ _ _ _ _ _ _ _ _ _ H4.out HC3.out.hz hs hcs hne hm).mono ?_
  rintro e w7 ⟨g7,rfl,h7,hg7,hb7⟩
  have Hn7:=Lh (Nat.le_trans Hb3.out.size hg7)
  clear hg7
  have hq7:=h7.poly (cap:=aad p) (by rw[List.length_map,aae];exact Nat.le_refl _)
  rw[List.length_map,aae] at hq7
  have Hq7:=Lh hq7
  have Hb7:=Lh (Hb3.out.trans (hb7.mono Hb3.out.size))
  clear h7 hb7 hq7 HC3 H4 Hb3
  go_wp2
  go_ret
  exact ⟨_,_,_,rfl,by rw[Hpp.out];exact Hq7.out,.inr ⟨g7,rfl,Hn7.out⟩,Hb7.out⟩
set_option maxHeartbeats 400000 in
theorem agy {I:aas} (hI:IK I) (A:Option Addr) (len cap:Nat) (p:List Int) (w:World) (h:aar I w A len cap p) (hs:SmP p) (hm:len<=1000000000) :
 Calls Tryz.prog 83 #[.slice A len cap] w fun e w'=>∃ A' l' c',e=.returned (.slice A' l' c')/\aaB w' A' l' c' (pmn (aaf p))/\New w.heap.size A' l'/\Below w.heap.size w w':=by
 have hpl:aad p<=1000000000:=by have:=aat p;have:=h.length;omega
 go_enter Tryz.func83,Tryz.ntmps83
 go_wp2_with fail
 refine (abC hI _ _ _ _ _ h hs (by omega)).mono ?_
 rintro e w1 ⟨l1,rfl,h1,rfl,hb1⟩
 have Hb1:=Lh hb1
 have hs2:=hs.aaf
 clear h hs hb1
 go_wp2_with fail
 refine (al8 hI _ _ _ _ _ h1 hs2 (by omega)).mono ?_
 rintro e w2 ⟨g,rfl,h2,hg,hb2⟩
 have hp:=h2.poly (cap:=aad p) (by rw[acy,aae];exact Nat.le_refl _)
 rw[acy,aae] at hp
 have HG:=Lh (Nat.le_trans Hb1.out.size hg)
 have H2:=Lh hp
 have Hb2:=Lh (Hb1.out.trans (hb2.mono Hb1.out.size))
 clear h1 h2 hb2 hp hg
 go_wp2
 go_ret
 exact ⟨_,_,_,rfl,H2.out,.inr ⟨g,rfl,HG.out⟩,Hb2.out⟩
set_option maxHeartbeats 400000 in
theorem adO {I:aas} (hI:IK I) (A:Option Addr) (len cap:Nat) (f:List Int) (w:World) (h:aar I w A len cap f) (hs:SmP f) (hm:len<=1000000000) :
 Calls Tryz.prog 61 #[.slice A len cap] w fun e w'=>∃ A' l' c',e=.returned (.slice A' l' c')/\aaB w' A' l' c' (pred f)/\New w.heap.size A' l'/\Below w.heap.size w w':=by
 have hfl:=h.length
 go_enter Tryz.func61,Tryz.ntmps61
 go_wp2_with fail
 refine (lead_any _ _ _ _ _ (h.at_ hI) hs (by omega)).mono ?_
 rintro e w1 ⟨n1,A1,l1,c1,rfl,h1,hb1⟩
 have h01:=h.below hI hb1
 have Hb1:=Lh hb1
 have sl:SmI (aai f):=hs.getD _
 clear h hb1
 go_wp2_with fail
 refine (aa8 _ _ _ _ _ _ h1.at_ sl).mono ?_
 rintro e w2 ⟨rfl,hw⟩
 have hb2:Below w1.heap.size w1 w2:=by first | exact hw | (rw[hw];exact Below.refl _ _) | (rw[hw];exact (Below.refl _ _).alloc (Nat.le_refl _) _)
 have h02:=h01.below hI hb2
 have Hb2:=Lh (Hb1.out.trans (hb2.mono Hb1.out.size))
 clear h01 h1 hb2 hw Hb1
 by_cases hn:aai f<0
 ·have hsg:sg (aai f)=-1:=by rcases aav (aai f) with ⟨_,e⟩ | ⟨_,e⟩ | ⟨_,e⟩<;>omega
  have hsl:sg (aai f)<0:=by omega
  have Hn:=Lh hn
  clear hn hsg
  go_wp2_with fail
  refine (agP hI _ _ _ _ _ h02 hs hm).mono ?_
  rintro e w3 ⟨A3,l3,c3,rfl,h3,hn3,hb3⟩
  have HN:=Lh (hn3.mono Hb2.out.size)
  clear hn3
  have hl3:=h3.length
  have hpl:=afP f
  have Hb3:=Lh (Hb2.out.trans (hb3.mono Hb2.out.size))
  clear h02 hb3 Hb2
  go_wp2_with fail
  refine (agy ikN _ _ _ _ _ h3 (afQ hs) (by omega)).mono ?_
  rintro e w4 ⟨A4,l4,c4,rfl,h4,hn4,hb4⟩
  replace HN:=Lh (hn4.mono Hb3.out.size)
  clear hn4
  have H4:=Lh h4
  have Hb4:=Lh (Hb3.out.trans (hb4.mono Hb3.out.size))
  clear h3 h4 hb4 Hb3
  go_wp2
  go_ret
  exact ⟨_,_,_,rfl,by unfold pred;rw[if_pos (by have:=Hn.out;omega)];exact H4.out,HN.out,Hb4.out⟩
 ·have hsl:¬ sg (aai f)<0:=by rcases aav (aai f) with ⟨_,e⟩ | ⟨_,e⟩ | ⟨_,e⟩<;>omega
  have Hn:=Lh hn
  clear hn
  go_wp2_with fail
  refine (agP hI _ _ _ _ _ h02 hs hm).mono ?_
  rintro e w3 ⟨A3,l3,c3,rfl,h3,hn3,hb3⟩
  have HN:=Lh (hn3.mono Hb2.out.size)
  clear hn3
  have H3:=Lh h3
  have Hb3:=Lh (Hb2.out.trans (hb3.mono Hb2.out.size))
  clear h02 h3 hb3 Hb2
  go_wp2
  go_ret
  exact ⟨_,_,_,rfl,by unfold pred;rw[if_neg (by have:=Hn.out;omega)];exact H3.out,HN.out,Hb3.out⟩
set_option maxRecDepth 100000 in
set_option maxHeartbeats 1000000 in
theorem apW (A:Option Addr) (la ca:Nat) (a:List Int) (B:Option Addr) (lb cb:Nat) (b:List Int) (w:World) (ha:aaB w A la ca a) (hb:aaB w B lb cb b) (hf:aoT a b) :
 Calls Tryz.prog 62 #[.slice A la ca,.slice B lb cb] w fun e w'=>∃ A' l' c',e=.returned (.slice A' l' c')/\aaB w' A' l' c' (agn a b)/\New w.heap.size A' l'/\Below w.heap.size w w':=by
 have hla:la<=1000000:=by have:=hf.la;have:=ha.length;omega
 have hlb:lb<=1000000:=by have:=hf.lb;have:=hb.length;omega
 have hal:=ha.length
 have hbl:=hb.length
 have sr:=hf.r
 have srl:=hf.rl
 have sb:SmP b:=hf.fb.smp
 have HF:=Lh hf
 obtain ⟨m,hm⟩:∃ m:Nat,m=la+1-lb:=⟨_,rfl⟩
 go_enter Tryz.func62,Tryz.ntmps62
 go_wp2_with fail
 refine (agj ikN ikN _ _ _ _ _ _ _ _ 1000000000 _ ha hb hf.da hf.fb hf.b1 (by omega) (by omega) (by omega)).mono ?_
 rintro e w1 ⟨A1,l1,c1,A2,l2,c2,rfl,h1,h2,hb1⟩
 have hB1:=Lh (hb.below ikN hb1)
 have H2:=Lh h2
 have hl2:=h2.length
 have Hb1:=Lh hb1
 have Hal:=Lh hal
 have Hbl:=Lh hbl
 have hmx:max ((la:Int)-(lb:Int)+1) 0=(m:Int):=by omega
 have Hm:=Lh hm
 clear ha hb h1 h2 hb1 hf hal hbl hm
 by_cases hm2:m % 2=1
 ·have ht:Int.tmod (m:Int) 2=1:=by rw[show (2:Int)=((2:Nat):Int) from rfl,<- Int.ofNat_tmod,hm2];rfl
  have hb2:((m:Int).tmod 2 == 1)=true:=by rw[ht];rfl
  have Hm2:=Lh hm2
  have auS:b.length=lb:=Hbl.out
  clear hm2
  go_wp2_with fail
  refine (lead_any _ _ _ _ _ (hB1.out.at_ ikN) sb (by omega)).mono ?_
  rintro e w3 ⟨n3,A3,l3,c3,rfl,h3,hb3⟩
  have H23:=Lh (H2.out.below ikN hb3)
  have Hb3:=Lh (Hb1.out.trans (hb3.mono Hb1.out.size))
  have sl:SmI (aai b):=sb.getD _
  clear hb3
  go_wp2_with fail
  refine (aa8 _ _ _ _ _ _ h3.at_ sl).mono ?_
  rintro e w4 ⟨rfl,rfl⟩
  have hb4:Below w3.heap.size w3 (w3.alloc (aap n3 A3 l3 c3)):=(Below.refl _ _).alloc (Nat.le_refl _) _
  have H24:=Lh (H23.out.below ikN hb4)
  have Hb4:=Lh (Hb3.out.trans (hb4.mono Hb3.out.size))
  clear hb4 h3
  by_cases hn:aai b<0
  ·have hsl:sg (aai b)<0:=by rcases aav (aai b) with ⟨_,e⟩ | ⟨_,e⟩ | ⟨_,e⟩<;>omega
   have Hn:=Lh hn
   clear hn
   go_wp2_with fail
   refine (adO ikN _ _ _ _ _ H24.out sr (by omega)).mono ?_
   rintro e w5 ⟨A5,l5,c5,rfl,h5,hn5,hb5⟩
   have HN:=Lh (hn5.mono Hb4.out.size)
   clear hn5
   have H5:=Lh h5
   have Hb5:=Lh (Hb4.out.trans (hb5.mono Hb4.out.size))
   clear h5 hb5
   go_wp2
   go_ret
   exact ⟨_,_,_,rfl,by unfold agn;rw[if_pos ⟨by rw[Hal.out,Hbl.out,<- Hm.out];exact Hm2.out,by have:=Hn.out;omega⟩];exact H5.out,HN.out,Hb5.out⟩
  ·have hsl:¬ sg (aai b)<0:=by rcases aav (aai b) with ⟨_,e⟩ | ⟨_,e⟩ | ⟨_,e⟩<;>omega
   have Hn:=Lh hn
   clear hn
   go_wp2_with fail
   refine (adO ikN _ _ _ _ _ H24.out sr (by omega)).mono ?_
   rintro e w5 ⟨A5,l5,c5,rfl,h5,hn5,hb5⟩
   have HN:=Lh (hn5.mono Hb4.out.size)
   clear hn5
   have hl5:=h5.length
   have hpl:=pred_le (psr a b)
   have Hb5:=Lh (Hb4.out.trans (hb5.mono Hb4.out.size))
   clear hb5
   go_wp2_with fail
   refine (agy ikN _ _ _ _ _ h5 (ag5 sr) (by omega)).mono ?_
   rintro e w6 ⟨A6,l6,c6,rfl,h6,hn6,hb6⟩
   replace HN:=Lh (hn6.mono Hb5.out.size)
   clear hn6
   have H6:=Lh h6
   have Hb6:=Lh (Hb5.out.trans (hb6.mono Hb5.out.size))
   clear h5 h6 hb6
   go_wp2
   go_ret
   exact ⟨_,_,_,rfl,by unfold agn;rw[if_neg (fun hh=>by have h1:=Hn.out;have h2:=hh.2;omega)];exact H6.out,HN.out,Hb6.out⟩
 ·have ht:Int.tmod (m:Int) 2=0:=by rw[show (2:Int)=((2:Nat):Int) from rfl,<- Int.ofNat_tmod,show m % 2=0 by omega];rfl
  have hb2:((m:Int).tmod 2 == 1)=false:=by rw[ht];rfl
  have Hm2:=Lh hm2
  clear hm2
  go_wp2_with fail
  refine (adO ikN _ _ _ _ _ H2.out sr (by omega)).mono ?_
  rintro e w5 ⟨A5,l5,c5,rfl,h5,hn5,hb5⟩
  have HN:=Lh (hn5.mono Hb1.out.size)
  clear hn5
  have hl5:=h5.length
  have hpl:=pred_le (psr a b)
  have Hb5:=Lh (Hb1.out.trans (hb5.mono Hb1.out.size))
  clear hb5
  go_wp2_with fail
  refine (agy ikN _ _ _ _ _ h5 (ag5 sr) (by omega)).mono ?_
  rintro e w6 ⟨A6,l6,c6,rfl,h6,hn6,hb6⟩
  replace HN:=Lh (hn6.mono Hb5.out.size)
  clear hn6
  have H6:=Lh h6
  have Hb6:=Lh (Hb5.out.trans (hb6.mono Hb5.out.size))
  clear h5 h6 hb6
  go_wp2
  go_ret
  exact ⟨_,_,_,rfl,by unfold agn;rw[if_neg (fun hh=>Hm2.out (by rw[Hm.out,<- Hal.out,<- Hbl.out];exact hh.1))];exact H6.out,HN.out,Hb6.out⟩
set_option maxRecDepth 100000 in
set_option maxHeartbeats 4000000 in
theorem ard (A:Option Addr) (la ca:Nat) (f:List Int) (B:Option Addr) (lb cb:Nat) (g:List Int) (w:World) (hf:aaB w A la ca f) (hg:aaB w B lb cb g) (sf:SmP f) (sg:SmP g) (hla:la<=1000000) (hlb:lb<=1000000) (k:Nat) (hok:ajH k (pred f) (pred g)) (hlen:(chn k (pred f) (pred g)).length<=1000000) :
 Calls Tryz.prog 28 #[.slice A la ca,.slice B lb cb] w fun e w'=>(∃ A' l' c',e=.returned (.slice A' l' c')/\ChF w.heap.size w' A' l' c' (aaN k f g))/\Below w.heap.size w w':=by
 obtain ⟨i0,hi,hz0,hz1,hz2⟩:=info_parts akb
 have hfl:=hf.length
 have hpf:=aat f
 obtain ⟨LL,hLL⟩:∃ LL,LL=aaN k f g:=⟨_,rfl⟩
 rw[<- hLL]
 have HLL:=Lh hLL
 clear hLL
 go_enter Tryz.func28,Tryz.ntmps28
 go_wp2_with fail
 refine (aaO _ _ _ _ _ (hf.at_ ikN) sf (by omega)).mono ?_
 rintro e w1 ⟨rfl,hb1⟩
 have hf1:=hf.below ikN hb1
 have hg1:=hg.below ikN hb1
 have Hb1:=Lh hb1
 clear hf hg hb1
 by_cases h0:aad f=0
 ·have hd:((aad f:Nat):Int)-1<0:=by omega
  have H0:=Lh h0
  clear hf1 hg1 h0
  go_wp2
  go_ret
  exact ⟨⟨_,_,_,rfl,by rw[HLL.out];unfold aaN;rw[if_pos H0.out];exact ChF.nil _ _⟩,Hb1.out⟩
 ·have hd:¬ ((aad f:Nat):Int)-1<0:=by omega
  have H0:=Lh h0
  clear h0
  go_wp2_with fail
  refine (adO ikN _ _ _ _ _ hf1 sf (by omega)).mono ?_
  rintro e w2 ⟨A2,l2,c2,rfl,h2,hn2,hb2⟩
  have HN2:=Lh (hn2.mono Hb1.out.size)
  have hg2:=hg1.below ikN hb2
  have hba:Below w2.heap.size w2 (w2.alloc (.cells #[.slice A2 l2 c2] 23)):=(Below.refl _ _).alloc (Nat.le_refl _) _
  have Hg3:=Lh (hg2.below ikN hba)
  have HO:=Lh (atY (t:=23) (base:=w.heap.size) w2 A2 l2 c2 (Nat.le_trans Hb1.out.size hb2.size))
  have H3:=Lh (h2.below ikN hba)
  have hg0:w.heap.size<=w2.heap.size:=Nat.le_trans Hb1.out.size hb2.size
  have Hb3:=Lh ((Hb1.out.trans (hb2.mono Hb1.out.size)).trans (hba.mono (Hb1.out.trans (hb2.mono Hb1.out.size)).size))
  clear hf1 hg1 h2 hb2 hg2 hba Hb1
  go_wp2_with fail
  go_region_held3 (fun w'=>w'.cell? ⟨w2.heap.size,0,none⟩=some (.slice A2 l2 c2)) (go_keep) (first
   | (go_at_call 61;go_must (refine (adO ikN _ _ _ _ _ ?_ sg (by omega)).mono ?_;(exact Hg3.out.below ikN Bel.go);rintro e w4 ⟨A4,l4,c4,rfl,h4,hn4,hb4⟩;have H4:=Lh h4;have HN4:=Lh (hn4.mono (Nat.le_trans Hb3.out.size (by simp)));have Hb4:=Lh (Hb3.out.trans ((Below.trans Bel.go (hb4.mono (by simp<;>omega))).mono Hb3.out.size));have H34:=Lh (H3.out.below ikN (Below.trans Bel.go (hb4.mono (by simp<;>omega))));have HO4:=Lh (HO.out.below (Below.trans Bel.go (hb4.mono (by simp<;>omega))));obtain ⟨hcx,hfx⟩:=aao hb4;have v0:w4.cell? ⟨w2.heap.size,0,none⟩=some (.slice A2 l2 c2):=(hcx _ (by go_simp)).trans (by go_simp);clear h4 hn4 hcx hfx hb4)))
  have HL:=Lh (show LL=[pred f] ++ chn k (pred f) (pred g) by rw[HLL.out];unfold aaN;rw[if_neg H0.out];rfl)
  have hl2:l2<=1000000:=by have h1:=H34.out.length;have h2:=pred_le f;omega
  have HY:=Lh (show Lay (acR w.heap.size w4) [pred f] [.slice A2 l2 c2] from ⟨_,[],⟨_,_,_,rfl,H34.out,HN2.out⟩,by simp,rfl⟩)
  clear Hg3 HO H3 Hb3 v0 hd
  have hLn:LL.length<=1000001:=by have:=HL.out;rw[this];simp;omega
  have Hok:=Lh hok
  clear hok hlen HLL
  go_wp2
  go_loopw [5,6,7] (fun s5 s6 s7 wr=>∃ (us:List Value) (ps:List (List Int)) (j:Nat) (a b:List Int) (A1:Option Addr) (l1 c1:Nat) (A2:Option Addr) (l2 c2:Nat),s6=.slice A1 l1 c1/\s7=.slice A2 l2 c2/\ajI SlC 1 23 w.heap.size wr s5 us/\Lay (acR w.heap.size wr) ps us/\aaB wr A1 l1 c1 a/\aaB wr A2 l2 c2 b/\New w.heap.size A2 l2/\ajH j a b/\LL=ps ++ chn j a b/\Below w.heap.size w wr) (fun s5 _ _ _=>LL.length-lenOf s5)
  case atStart=>exact ⟨_,_,k,_,_,_,_,_,_,_,_,rfl,rfl,HO4.out,HY.out,H34.out,H4.out,HN4.out,Hok.out,HL.out,Hb4.out⟩
  case round =>
   clear HO4 H34 H4 Hok HL Hb4 hg0 hl2 HY HN2 HN4
   obtain ⟨us,ps,j,a,b,A1,l1,c1,A2,l2,c2,rfl,rfl,ho,hly,ha,hb,hnw,hok,hL,hbw⟩:=hrel
   obtain ⟨Av,nv,cv,ev,hul,hcap⟩:=ho.len
   subst ev
   have hlen1:=hly.len fun x vs hx=>hx.len
   have HO:=Lh (And.intro ho hly)
   have Ha:=Lh ha
   have Hb:=Lh hb
   have HN:=Lh hnw
   have HL:=Lh hL
   have Hbw:=Lh hbw
   have hbl:=hb.length
   match j,hok with
   | j+1,hok =>
     by_cases hb0:b=[]
     ·subst hb0
      have hl2:l2=0:=hbl.symm
      subst hl2
      have hps:LL=ps:=by have:=HL.out;simp[chn] at this;exact this
      have Hps:=Lh hps
      clear ho hly ha hb hnw hL hbw hok hbl hps hul hcap hlen1
      go_wp2
      go_ret
      exact ⟨⟨_,_,_,rfl,by rw[Hps.out];exact ChF.own HO.out.1 HO.out.2⟩,Hbw.out⟩
     ·obtain ⟨hfit,hok2⟩:=hok.resolve_left hb0
      have hLs:LL=(ps ++ [b]) ++ chn j b (agn a b):=by
       have h1:=HL.out
       simp only[chn] at h1
       rw[if_neg hb0] at h1
       rw[h1];simp
      have hnlt:nv<LL.length:=by rw[hLs];simp;omega
      have hl2:0<l2:=by rw[<- hbl];exact List.length_pos_iff.2 hb0
      have azp:(0:Int)<(l2:Int):=by omega
      have hba:Below wr.heap.size wr (wr.alloc (.cells #[.slice A2 l2 c2] 23)):=(Below.refl _ _).alloc (Nat.le_refl _) _
      have HO1:=Lh (And.intro (HO.out.1.below hba) (show Lay (acR w.heap.size (wr.alloc (.cells #[.slice A2 l2 c2] 23))) ps us from HO.out.2.mono fun _ _ hx=>hx.below hba))
      have HX1:=Lh (show acR w.heap.size (wr.alloc (.cells #[.slice A2 l2 c2] 23)) b [.slice A2 l2 c2] from ⟨_,_,_,rfl,Hb.out.below ikN hba,HN.out⟩)
      have HA1:=Lh (show amM (wr.alloc (.cells #[.slice A2 l2 c2] 23)) a [.slice A1 l1 c1] from ⟨_,_,_,rfl,Ha.out.below ikN hba⟩)
      have atc:=Lh (Hbw.out.trans (hba.mono Hbw.out.size))
      have Hsz:=Lh (show w.heap.size<=(wr.alloc (.cells #[.slice A2 l2 c2] 23)).heap.size from atc.out.size)
      have awR:=Lh hfit
      have awS:=Lh hok2
      have HLs:=Lh hLs
      have HUL:=Lh hul
      have hub:us.length+[Value.slice A2 l2 c2].length<=100000000:=by simp;omega
      have HUB:=Lh hub
      clear ho hly ha hb hnw hL hbw hok hfit hok2 hLs hba hbl HO Ha Hb HN Hbw HL hul hcap hlen1 hub
      go_wp2_with (at_builtin;refine ah4 rfl (.tmp 22) (.tmp 24) 47 23 rfl 1 i0 (.slice none 0 0) Tryz.underlying47 hi hz0 hz1 (by rw[hz2];omega) rfl SlC asf slz (by decide) w.heap.size _ us [.slice A2 l2 c2] rfl HO1.out.1 Hsz.out ⟨wr.heap.size,0,none⟩ 1 1 rfl rfl (one_cell _) HX1.out.sl (.inl (by decide)) HUB.out 25 rfl ?_)
      intro v2 w5 hgr
      have hn5:acR w.heap.size w5 b [.slice A2 l2 c2]:=amN hgr _ _ HX1.out
      have ayB:Lay (acR w.heap.size w5) (ps ++ [b]) (us ++ [.slice A2 l2 c2]):=Lay.app (HO1.out.2.mono fun p ys hp=>amN hgr p ys hp) hn5
      obtain ⟨_,_,_,e5,hb5,hnn⟩:=hn5
      cases e5
      obtain ⟨_,_,_,e6,ha5⟩:=atX hgr _ _ HA1.out
      cases e6
      obtain ⟨Ax,nx,cx,ex,hux,azG⟩:=hgr.1.len
      subst ex
      have hnx:nx=nv+1:=by
       have:=HUL.out
       rw[List.length_append,List.length_singleton] at hux
       omega
      have Ho5:=Lh (And.intro hgr.1 ayB)
      have arT:=Lh (atc.out.trans (hgr.below Hsz.out))
      have Hb5:=Lh hb5
      have HN5:=Lh hnn
      have HNX:=Lh hnx
      clear hgr HO1 HX1 HA1 atc ayB hux azG hnn hnx Hsz
      go_wp2_with fail
      refine (apW _ _ _ _ _ _ _ _ _ ha5 hb5 awR.out).mono ?_
      rintro e w6 ⟨A6,l6,c6,rfl,h6,hn6,hb6⟩
      have H6:=Lh h6
      have HN6:=Lh (hn6.mono arT.out.size)
      have Hb6:=Lh (Hb5.out.below ikN hb6)
      have Ho6:=Lh (And.intro (Ho5.out.1.below hb6) (show Lay (acR w.heap.size w6) (ps ++ [b]) (us ++ [.slice A2 l2 c2]) from Ho5.out.2.mono fun _ _ hx=>hx.below hb6))
      have awT:=Lh (arT.out.trans (hb6.mono arT.out.size))
      clear ha5 hb5 h6 hn6 hb6 Hb5 Ho5 arT HN5
      go_wp2
      go_roundw
      case rel=>exact ⟨_,_,j,_,_,_,_,_,_,_,_,rfl,rfl,Ho6.out.1,Ho6.out.2,Hb6.out,H6.out,HN6.out,awS.out,HLs.out,awT.out⟩
      case measure=>have:=HNX.out;simp[lenOf];omega
set_option maxHeartbeats 400000 in
theorem anN (A:Option Addr) (la ca:Nat) (f:List Int) (w:World) (hf:aaB w A la ca f) (sf:SmP f) (sd:SmP (aaz f)) (hla:la<=1000000) (k:Nat) (hok:ajH k (pred f) (pred (aaz f))) (hlen:(chn k (pred f) (pred (aaz f))).length<=1000000) :
 Calls Tryz.prog 16 #[.slice A la ca] w fun e w'=>(∃ A' l' c',e=.returned (.slice A' l' c')/\ChF w.heap.size w' A' l' c' (aaN k f (aaz f)))/\Below w.heap.size w w':=by
 have hfl:=hf.length
 have hpf:=aat f
 go_enter Tryz.func16,Tryz.ntmps16
 go_wp2_with fail
 refine (acp ikN _ _ _ _ _ hf sf (by omega)).mono ?_
 rintro e w1 ⟨A1,l1,c1,rfl,h1,hb1⟩
 have hf1:=hf.below ikN hb1
 have hl1:=h1.length
 rw[abm] at hl1
 have Hb1:=Lh hb1
 clear hf hb1
 go_wp2_with fail
 refine (ard _ _ _ _ _ _ _ _ _ hf1 h1 sf sd hla (by omega) k hok hlen).mono ?_
 rintro e w2 ⟨⟨A2,l2,c2,rfl,h2⟩,hb2⟩
 have H2:=Lh (h2.mono Hb1.out.size)
 have Hb2:=Lh (Hb1.out.trans (hb2.mono Hb1.out.size))
 clear hf1 h1 h2 hb2
 go_wp2
 go_ret
 exact ⟨⟨_,_,_,rfl,H2.out⟩,Hb2.out⟩
end Go.Proofs.YtkefcldcfeolbaaGreat
namespace Go.Proofs.YtkefcldcfeolbaaGreat
open Go Go.RowKit
structure RBk (w:World) (g:Nat) (n:Bool) (A:Option Addr) (l c:Nat) (B:Option Addr) (m d:Nat) (n':Bool) (A':Option Addr) (l' c':Nat) (B':Option Addr) (m' d':Nat) (s:Fq×Fq):Prop where
 k:Blk w g 40 #[.bool n,.slice A l c,.slice B m d,.bool n',.slice A' l' c',.slice B' m' d']
 hz:aaA w n A l c s.1.z
 hq:aaT w B m d s.1.q
 hz':aaA w n' A' l' c' s.2.z
 hq':aaT w B' m' d' s.2.q
section
variable {w w':World} {g:Nat} {n:Bool} {A:Option Addr} {l c:Nat} {B:Option Addr} {m d:Nat} {n':Bool} {A':Option Addr} {l' c':Nat} {B':Option Addr} {m' d':Nat} {s t:Fq×Fq}
theorem RBk.tb (h:RBk w g n A l c B m d n' A' l' c' B' m' d' s):apL w g n A l c B m d s.1.z s.1.q n' A' l' c' B' m' d' s.2.z s.2.q :=
 ⟨⟨h.k.cell 0,h.k.cell 1,h.k.cell 2,h.k.frozen 0,h.k.frozen 1,h.k.frozen 2,h.k.lt,h.hz,h.hq⟩,h.k.cell 3,h.k.cell 4,h.k.cell 5,h.hz',h.hq'⟩
theorem RBk.make (hz:aaA w n A l c s.1.z) (hq:aaT w B m d s.1.q) (hz':aaA w n' A' l' c' s.2.z) (hq':aaT w B' m' d' s.2.q):RBk (w.alloc (ahX n A l c B m d n' A' l' c' B' m' d')) w.heap.size n A l c B m d n' A' l' c' B' m' d' s:=by
 have ho:=aak w (ahX n A l c B m d n' A' l' c' B' m' d')
 exact ⟨Blk.new _ _ _,hz.below ho,hq.below ho,hz'.below ho,hq'.below ho⟩
theorem RBk.move (h:RBk w g n A l c B m d n' A' l' c' B' m' d' s) (hb:Below w.heap.size w w'):RBk w' g n A l c B m d n' A' l' c' B' m' d' s :=
 ⟨h.k.below hb h.k.lt,h.hz.below hb,h.hq.below hb,h.hz'.below hb,h.hq'.below hb⟩
theorem RBk.ndb (h:RBk w g n A l c B m d n' A' l' c' B' m' d' s):NdB w g:=afu h.k fun j v hv=>by
 match j,hv with
 | 0,hv=>simp at hv;subst hv;exact aax _
 | 1,hv=>simp at hv;subst hv;exact aah _ _ _
 | 2,hv=>simp at hv;subst hv;exact aah _ _ _
 | 3,hv=>simp at hv;subst hv;exact aax _
 | 4,hv=>simp at hv;subst hv;exact aah _ _ _
 | 5,hv=>simp at hv;subst hv;exact aah _ _ _
 | j+6,hv=>simp at hv
variable {n₂:Bool} {A₂:Option Addr} {l₂ c₂:Nat} {B₂:Option Addr} {m₂ d₂:Nat} {n₃:Bool} {A₃:Option Addr} {l₃ c₃:Nat} {B₃:Option Addr} {m₃ d₃:Nat}
theorem RBk.put (h:RBk w g n A l c B m d n' A' l' c' B' m' d' s) (h1:aaA w n₂ A₂ l₂ c₂ t.1.z) (h2:aaT w B₂ m₂ d₂ t.1.q) (h3:aaA w n₃ A₃ l₃ c₃ t.2.z) (h4:aaT w B₃ m₃ d₃ t.2.q) :
 RBk (pu6 w g (.bool n₂) (.slice A₂ l₂ c₂) (.slice B₂ m₂ d₂) (.bool n₃) (.slice A₃ l₃ c₃) (.slice B₃ m₃ d₃)) g n₂ A₂ l₂ c₂ B₂ m₂ d₂ n₃ A₃ l₃ c₃ B₃ m₃ d₃ t:=by
 have hf:=ahU w g (.bool n₂) (.slice A₂ l₂ c₂) (.slice B₂ m₂ d₂) (.bool n₃) (.slice A₃ l₃ c₃) (.slice B₃ m₃ d₃)
 have nd:=h.ndb
 exact ⟨(((((h.k.acn 0 _).acn 1 _).acn 2 _).acn 3 _).acn 4 _).acn 5 _,h1.frs hf nd nd,h2.frs hf nd nd,h3.frs hf nd nd,h4.frs hf nd nd⟩
end
theorem ajA {w w':World} {g:Nat} {n:Bool} {A:Option Addr} {l c:Nat} {B:Option Addr} {m d:Nat} {n':Bool} {A':Option Addr} {l' c':Nat} {B':Option Addr} {m' d':Nat} {s:Fq×Fq} {Ap:Option Addr} {lp cp:Nat} {p:List Int} (hp:aaB w Ap lp cp p) (hl:2<=p.length) (hk:RBk w g n A l c B m d n' A' l' c' B' m' d' s) (hf:FrS g g w w'):aaB w' Ap lp cp p:=by
 refine agv.frs (g:=g) (g':=g) ⟨hp,?_⟩ hf hk.ndb hk.ndb
 have hlen:=hp.length
 rcases hp.elems with h0 | ⟨b,o,hA,hlt,he⟩
 ·exact .inl h0
 ·refine .inr ⟨b,o,hA,?_⟩
  have hne:b≠g:=fun e=>by
   subst e
   obtain ⟨_,_,_,_,f1,_,_⟩:=he 0 (by omega)
   obtain ⟨_,_,_,_,f2,_,_⟩:=he 1 (by omega)
   rw[hk.k.cell] at f1 f2
   match o,f1,f2 with
   | 0,_,f2=>simp at f2
   | 1,f1,_=>simp at f1
   | 2,f1,_=>simp at f1
   | 3,_,f2=>simp at f2
   | 4,f1,_=>simp at f1
   | 5,f1,_=>simp at f1
   | o+6,f1,_=>simp at f1
  exact ⟨hne,hne⟩
end Go.Proofs.YtkefcldcfeolbaaGreat
namespace Go.Proofs.YtkefcldcfeolbaaGreat
open Go Go.RowKit
set_option maxRecDepth 100000 in
set_option maxHeartbeats 4000000 in
theorem ajB {I:aas} (hI:IK I) {w:World} {Ap:Option Addr} {lp cp:Nat} {Q:List Int} {r:Fq×Fq} {n:Bool} {A:Option Addr} {l c:Nat} {B:Option Addr} {m d:Nat} {n':Bool} {A':Option Addr} {l' c':Nat} {B':Option Addr} {m' d':Nat}
 (hp:aar I w Ap lp cp Q) (hlp:lp<=1000000) (hQ:∀ x,FqB x->ajf x.z x.q Q) (hz:aaA w n A l c r.1.z) (hq:aaT w B m d r.1.q) (hz':aaA w n' A' l' c' r.2.z) (hq':aaT w B' m' d' r.2.q) (ha:FqB r.1) (hb:FqB r.2) (hm:FqB (r.1.mid r.2)) :
 Calls Tryz.prog 55 #[.slice Ap lp cp,.agg #[.bool n,.slice A l c,.slice B m d,.bool n',.slice A' l' c',.slice B' m' d']] w fun e w'=>aq9 (hlf Q r) e w'/\Below w.heap.size w w':=by
 have o1:=aak w (ahX n A l c B m d n' A' l' c' B' m' d')
 have o2:=aak (w.alloc (ahX n A l c B m d n' A' l' c' B' m' d')) agV
 have b2:Below w.heap.size w ((w.alloc (ahX n A l c B m d n' A' l' c' B' m' d')).alloc agV):=o1.alloc (by simp) _
 have T:=Lh ((apL.make hz hq hz' hq').move o2)
 have K3:Blk ((w.alloc (ahX n A l c B m d n' A' l' c' B' m' d')).alloc agV) (w.alloc (ahX n A l c B m d n' A' l' c' B' m' d')).heap.size 40 rz6:=Blk.new _ _ _
 simp only[World.size_alloc] at K3
 have HP:=Lh (hp.below hI b2)
 have x0:=T.out.r.c0;have x1:=T.out.r.c1;have x2:=T.out.r.c2;have x3:=T.out.c3;have x4:=T.out.c4;have x5:=T.out.c5
 have K4:=Lh K3
 have Hb:=Lh b2
 have hl3:=K3.lt
 have pa:=hQ _ ha
 have pm:=hQ _ hm
 have HQ:=Lh hQ
 obtain ⟨R,hR⟩:∃ R,R=hlf Q r:=⟨_,rfl⟩
 rw[<- hR]
 unfold hlf at hR
 have HR:=Lh hR
 obtain ⟨S,hS⟩:∃ S,S=(r.1.mid r.2).sgn Q:=⟨_,rfl⟩
 obtain ⟨S2,hS2⟩:∃ S,S=r.1.sgn Q:=⟨_,rfl⟩
 have HS:=Lh hS
 have HS2:=Lh hS2
 obtain ⟨wb,hwb⟩:∃ wb,wb=(w.alloc (ahX n A l c B m d n' A' l' c' B' m' d')).alloc agV:=⟨_,rfl⟩
 clear o1 o2 b2 hz hq hz' hq' K3 hp hQ hR hS hS2
 go_enter Tryz.func55,Tryz.ntmps55
 go_wp2_with fail
 rw[<- hwb] at T K4 HP Hb x0 x1 x2 x3 x4 x5 hl3 ⊢
 clear hwb
 obtain ⟨g1,hg1⟩:∃ g,g=w.heap.size:=⟨_,rfl⟩
 obtain ⟨g3,hg3⟩:∃ g,g=w.heap.size+1:=⟨_,rfl⟩
 rw[<- hg1] at T x0 x1 x2 x3 x4 x5
 rw[<- hg3] at K4 hl3
 rw[<- hg3,<- hg1]
 have l1:g1<wb.heap.size:=by omega
 have Hg:=Lh (show w.heap.size<=g3 by omega)
 have ng1:g1≠g3:=by omega
 have ng2:g3≠g1:=by omega
 clear hg1 hg3
 refine (afv T.out.r.hz T.out.r.hq T.out.hz T.out.hq ha hb).mono ?_
 rintro e w1 ⟨rfl,hb1⟩
 replace HP:=Lh (HP.out.below hI hb1);replace T:=Lh (T.out.move hb1);replace K4:=Lh (K4.out.below hb1 K4.out.lt);replace Hb:=Lh (Hb.out.trans ((hb1).mono Hb.out.size))
 clear hb1
 clear x0 x1 x2 x3 x4 x5
 by_cases c0:agO r.1 r.2=0
 ·have b1:(agO r.1 r.2 == 0)=true:=by rw[c0];rfl
  have ER:=Lh (show R=r by rw[HR.out,if_pos c0])
  clear c0
  have x0:=T.out.r.c0;have x1:=T.out.r.c1;have x2:=T.out.r.c2;have x3:=T.out.c3;have x4:=T.out.c4;have x5:=T.out.c5
  have FX:=Lh (aea (r:=r) Hb.out K4.out Hg.out T.out.r.hz T.out.r.hq T.out.hz T.out.hq);rw[<- ER.out] at FX;have r0:=(K4.out.cell 0).trans rfl;have r1:=(K4.out.cell 1).trans rfl;have r2:=(K4.out.cell 2).trans rfl;have r3:=(K4.out.cell 3).trans rfl;have r4:=(K4.out.cell 4).trans rfl;have r5:=(K4.out.cell 5).trans rfl;have s0:=K4.out.frozen 0;have s1:=K4.out.frozen 1;have s2:=K4.out.frozen 2;have s3:=K4.out.frozen 3;have s4:=K4.out.frozen 4;have s5:=K4.out.frozen 5;clear K4 Hb;go_wp2_with fail;refine bodyPost_ret (v:=.agg #[.bool n,.slice A l c,.slice B m d,.bool n',.slice A' l' c',.slice B' m' d']) (by simp[results,Tryz.results55,go_sem,r0,r1,r2,r3,r4,r5]) rfl FX.out
 have b1:(agO r.1 r.2 == 0)=false:=by rw[beq_eq_false_iff_ne];exact c0
 have hR:=HR.out
 rw[if_neg c0] at hR
 replace HR:=Lh hR
 clear c0 hR
 have x0:=T.out.r.c0;have x1:=T.out.r.c1;have x2:=T.out.r.c2;have x3:=T.out.c3;have x4:=T.out.c4;have x5:=T.out.c5
 go_wp2_with fail
 refine (alu _ _ _ _ _ _ _ _ _ _ _ _ _ _ _ _ _ _ _ T.out.r.hz T.out.r.hq T.out.hz T.out.hq ha.fz ha.fq ha.p hb.fz hb.fq hb.p).mono ?_
 rintro e w2 ⟨⟨n5,A5,l5,c5,B5,m5,d5,rfl,h5,k5⟩,hb2⟩
 obtain ⟨M,hM⟩:∃ M,M=r.1.mid r.2:=⟨_,rfl⟩
 have h5':aaA w2 n5 A5 l5 c5 M.z:=by rw[hM];exact h5
 have k5':aaT w2 B5 m5 d5 M.q:=by rw[hM];exact k5
 rw[<- hM] at hm pm
 have HM:=Lh hM
 have o5:=aak w2 (aa0 n5 A5 l5 c5 B5 m5 d5)
 have b5:Below w1.heap.size w1 (w2.alloc (aa0 n5 A5 l5 c5 B5 m5 d5)):=hb2.trans (o5.mono hb2.size)
 have R5:=Lh (aci.make h5' k5')
 replace HP:=Lh (HP.out.below hI b5);replace T:=Lh (T.out.move b5);replace K4:=Lh (K4.out.below b5 K4.out.lt);replace Hb:=Lh (Hb.out.trans ((b5).mono Hb.out.size))
 have a0:=R5.out.c0
 have a1:=R5.out.c1
 have a2:=R5.out.c2
 clear hb2 h5 k5 h5' k5' hM o5 b5 x0 x1 x2 x3 x4 x5
 go_wp2_with fail
 refine (abz hI _ _ _ Q _ _ _ _ _ _ _ _ _ _ HP.out pm.fit (by omega) R5.out.hz R5.out.hq hm.at.u hm.at.v hm.at.pos pm.ok hm.at.fz hm.at.fq).mono ?_
 rintro e w4 ⟨he,hb4⟩
 have he2:e=.returned (.int .i64 S):=by rw[HS.out,<- HM.out];exact he
 subst he2
 clear he a0 a1 a2
 replace HP:=Lh (HP.out.below hI hb4);replace T:=Lh (T.out.move hb4);replace K4:=Lh (K4.out.below hb4 K4.out.lt);replace Hb:=Lh (Hb.out.trans ((hb4).mono Hb.out.size))
 replace R5:=Lh (R5.out.move hb4)
 clear hb4
 by_cases c2:S=0
 ·have b2:(S == 0)=true:=by rw[c2];rfl
  have ER:=Lh (show R=(M.nf,M.nf) by rw[HR.out,<- HS.out,if_pos c2,HM.out])
  clear c2
  have a0:=R5.out.c0
  have a1:=R5.out.c1
  have a2:=R5.out.c2
  go_wp2_with fail
  refine (ara R5.out.hz R5.out.hq hm).mono ?_
  rintro e w6 ⟨⟨n6,A6,l6,c6,B6,m6,d6,n7,A7,l7,c7,B7,m7,d7,rfl,h6,k6,h7,k7⟩,hb6⟩
  replace HP:=Lh (HP.out.below hI hb6);replace T:=Lh (T.out.move hb6);replace K4:=Lh (K4.out.below hb6 K4.out.lt);replace Hb:=Lh (Hb.out.trans ((hb6).mono Hb.out.size))
  have H6:=Lh (And.intro (And.intro h6 k6) (And.intro h7 k7))
  clear hb6 h6 k6 h7 k7 R5 a0 a1 a2 T HP
  have FX:=Lh (aea (r:=(M.nf,M.nf)) Hb.out K4.out Hg.out H6.out.1.1 H6.out.1.2 H6.out.2.1 H6.out.2.2);rw[<- ER.out] at FX;have r0:=(K4.out.cell 0).trans rfl;have r1:=(K4.out.cell 1).trans rfl;have r2:=(K4.out.cell 2).trans rfl;have r3:=(K4.out.cell 3).trans rfl;have r4:=(K4.out.cell 4).trans rfl;have r5:=(K4.out.cell 5).trans rfl;have s0:=K4.out.frozen 0;have s1:=K4.out.frozen 1;have s2:=K4.out.frozen 2;have s3:=K4.out.frozen 3;have s4:=K4.out.frozen 4;have s5:=K4.out.frozen 5;clear K4 Hb;go_wp2_with fail;refine bodyPost_ret (v:=.agg #[.bool n6,.slice A6 l6 c6,.slice B6 m6 d6,.bool n7,.slice A7 l7 c7,.slice B7 m7 d7]) (by simp[results,Tryz.results55,go_sem,r0,r1,r2,r3,r4,r5]) rfl FX.out
 have b2:(S == 0)=false:=by rw[beq_eq_false_iff_ne];exact c2
 have hR:=HR.out
 rw[<- HS.out,if_neg c2,<- HS2.out,<- HM.out] at hR
 replace HR:=Lh hR
 clear c2 hR
 have x0:=T.out.r.c0;have x1:=T.out.r.c1;have x2:=T.out.r.c2;have x3:=T.out.c3;have x4:=T.out.c4;have x5:=T.out.c5
 go_wp2_with fail
 refine (abz hI _ _ _ Q _ _ _ _ _ _ _ _ _ _ HP.out pa.fit (by omega) T.out.r.hz T.out.r.hq ha.at.u ha.at.v ha.at.pos pa.ok ha.at.fz ha.at.fq).mono ?_
 rintro e w6 ⟨he,hb6⟩
 have he2:e=.returned (.int .i64 S2):=by rw[HS2.out];exact he
 subst he2
 clear he
 clear x0 x1 x2 x3 x4 x5
 replace HP:=Lh (HP.out.below hI hb6);replace T:=Lh (T.out.move hb6);replace K4:=Lh (K4.out.below hb6 K4.out.lt);replace Hb:=Lh (Hb.out.trans ((hb6).mono Hb.out.size))
 replace R5:=Lh (R5.out.move hb6)
 clear hb6
 by_cases c3:S=S2
 ·have b3:(S == S2)=true:=by rw[c3];simp
  have ER:=Lh (show R=(M,r.2) by rw[HR.out,if_pos c3])
  clear c3
  have x0:=T.out.r.c0;have x1:=T.out.r.c1;have x2:=T.out.r.c2;have x3:=T.out.c3;have x4:=T.out.c4;have x5:=T.out.c5
  have a0:=R5.out.c0
  have a1:=R5.out.c1
  have a2:=R5.out.c2
  have FX:=Lh (aea (r:=(M,r.2)) Hb.out K4.out Hg.out R5.out.hz R5.out.hq T.out.hz T.out.hq);rw[<- ER.out] at FX;have r0:=(K4.out.cell 0).trans rfl;have r1:=(K4.out.cell 1).trans rfl;have r2:=(K4.out.cell 2).trans rfl;have r3:=(K4.out.cell 3).trans rfl;have r4:=(K4.out.cell 4).trans rfl;have r5:=(K4.out.cell 5).trans rfl;have s0:=K4.out.frozen 0;have s1:=K4.out.frozen 1;have s2:=K4.out.frozen 2;have s3:=K4.out.frozen 3;have s4:=K4.out.frozen 4;have s5:=K4.out.frozen 5;clear K4 Hb;go_wp2_with fail;refine bodyPost_ret (v:=.agg #[.bool n5,.slice A5 l5 c5,.slice B5 m5 d5,.bool n',.slice A' l' c',.slice B' m' d']) (by simp[results,Tryz.results55,go_sem,r0,r1,r2,r3,r4,r5]) rfl FX.out
 ·have b3:(S == S2)=false:=by rw[beq_eq_false_iff_ne];exact c3
  have ER:=Lh (show R=(r.1,M) by rw[HR.out,if_neg c3])
  clear c3
  have x0:=T.out.r.c0;have x1:=T.out.r.c1;have x2:=T.out.r.c2;have x3:=T.out.c3;have x4:=T.out.c4;have x5:=T.out.c5
  have a0:=R5.out.c0
  have a1:=R5.out.c1
  have a2:=R5.out.c2
  have FX:=Lh (aea (r:=(r.1,M)) Hb.out K4.out Hg.out T.out.r.hz T.out.r.hq R5.out.hz R5.out.hq);rw[<- ER.out] at FX;have r0:=(K4.out.cell 0).trans rfl;have r1:=(K4.out.cell 1).trans rfl;have r2:=(K4.out.cell 2).trans rfl;have r3:=(K4.out.cell 3).trans rfl;have r4:=(K4.out.cell 4).trans rfl;have r5:=(K4.out.cell 5).trans rfl;have s0:=K4.out.frozen 0;have s1:=K4.out.frozen 1;have s2:=K4.out.frozen 2;have s3:=K4.out.frozen 3;have s4:=K4.out.frozen 4;have s5:=K4.out.frozen 5;clear K4 Hb;go_wp2_with fail;refine bodyPost_ret (v:=.agg #[.bool n,.slice A l c,.slice B m d,.bool n5,.slice A5 l5 c5,.slice B5 m5 d5]) (by simp[results,Tryz.results55,go_sem,r0,r1,r2,r3,r4,r5]) rfl FX.out
end Go.Proofs.YtkefcldcfeolbaaGreat
namespace Go.Proofs.YtkefcldcfeolbaaGreat
open Go Go.RowKit
def AwE (f g:List Int) (x:Pt) (r:Fq×Fq) (e:Ending) (w:World):Prop:=∃ i s,i<=NN+1/\ASt f x i s/\r.1.v<=s.1.v/\s.2.v<=r.2.v/\Free g s/\aq9 s e w
set_option maxRecDepth 100000 in
set_option maxHeartbeats 16000000 in
theorem avS {J:aas} (hJ:IK J) {w:World} {Ap:Option Addr} {lp cp:Nat} {f:List Int} {Ag:Option Addr} {lg cg:Nat} {g:List Int} {x:Pt} {i0:Nat} {r:Fq×Fq} {n:Bool} {A:Option Addr} {l c:Nat} {B:Option Addr} {m d:Nat} {n':Bool} {A':Option Addr} {l' c':Nat} {B':Option Addr} {m' d':Nat}
 (hp:aaB w Ap lp cp (aaq f)) (s6:S6 f) (h0:aad f≠0) (hg:aar J w Ag lg cg g) (hlg:lg<=16) (avR:abw g) (gx:sgp g x≠0) (go:AwO f g x) (hz:aaA w n A l c r.1.z) (hq:aaT w B m d r.1.q) (hz':aaA w n' A' l' c' r.2.z) (hq':aaT w B' m' d' r.2.q) (hi0:i0<=NN+1) (ha:ASt f x i0 r) :
 Calls Tryz.prog 25 #[.slice Ap lp cp,.agg #[.bool n,.slice A l c,.slice B m d,.bool n',.slice A' l' c',.slice B' m' d'],.slice Ag lg cg] w fun e w'=>AwE f g x r e w'/\Below w.heap.size w w':=by
 have o1:=aak w (ahX n A l c B m d n' A' l' c' B' m' d')
 have o2:=aak (w.alloc (ahX n A l c B m d n' A' l' c' B' m' d')) agV
 have b2:Below w.heap.size w ((w.alloc (ahX n A l c B m d n' A' l' c' B' m' d')).alloc agV):=o1.alloc (by simp) _
 have KB:=Lh ((RBk.make (s:=r) hz hq hz' hq').move o2)
 have K3:Blk ((w.alloc (ahX n A l c B m d n' A' l' c' B' m' d')).alloc agV) (w.alloc (ahX n A l c B m d n' A' l' c' B' m' d')).heap.size 40 rz6:=Blk.new _ _ _
 simp only[World.size_alloc] at K3
 have K4:=Lh K3
 have HG:=Lh (hg.below hJ b2)
 have HP:=Lh hp
 have Hbw:=Lh b2
 have hlp:lp<=6:=by have:=hp.length;have:=s6.qlen;omega
 have f9:=s6.p9
 have gq:=go.q
 have hOl:=go.ol
 have hOt:=go.t
 have hO0:=go.q0
 have hgr:=go.gr
 have hOx:sgp (aaq g) x≠0:=fun e=>gx ((hgr x).2 e)
 have c1:=go.fO
 have c2:=go.fD
 have k1:=go.k1
 have k3:=go.k3
 have k4:=go.k4
 have hat:=go.at_
 have hall:=go.el
 have hfree:=go.free
 have hmore:=go.more
 obtain ⟨O,hO⟩:∃ O,O=aaq g:=⟨_,rfl⟩
 rw[<- hO] at hOl hOt hO0 hgr hOx c1 c2 k1 k3 k4 hat hall hfree hmore
 have HOe:=Lh hO
 have HSQ:=Lh (And.intro hOt hO0)
 have HAT:=Lh hat
 have HFR:=Lh hfree
 have HMO:=Lh hmore
 have HGR:=Lh hgr
 have HOX:=Lh hOx
 have HAL:=Lh hall
 have ayC:=Lh ha
 have H0:=Lh h0
 have hQ:∀ x,FqB x->ajf x.z x.q (aaq f):=fun x hx=>f9.part.at (by have:=s6.qlen;omega) hx.z hx.q
 obtain ⟨Q,hQe⟩:∃ Q,Q=aaq f:=⟨_,rfl⟩
 rw[<- hQe] at HP hQ
 have HQe:=Lh hQe
 have HQ:=Lh hQ
 obtain ⟨g1,hg1⟩:∃ g,g=w.heap.size:=⟨_,rfl⟩
 obtain ⟨g3,hg3⟩:∃ g,g=w.heap.size+1:=⟨_,rfl⟩
 obtain ⟨wb,hwb⟩:∃ wb,wb=(w.alloc (ahX n A l c B m d n' A' l' c' B' m' d')).alloc agV:=⟨_,rfl⟩
 clear o1 o2 b2 hz hq hz' hq' K3 hp hg hO hgr hOx hall ha h0 hQ hQe gx go hat hfree hmore hOt hO0
 go_enter Tryz.func25,Tryz.ntmps25
 go_wp2_with fail
 rw[<- hwb,<- hg1] at KB
 rw[<- hwb,<- hg3] at K4
 rw[<- hwb] at HG Hbw ⊢
 rw[<- hg3,<- hg1]
 have Hg1:=Lh (show w.heap.size<=g1 by omega)
 have Hg3:=Lh (show w.heap.size<=g3 by omega)
 have ng1:g1≠g3:=by omega
 clear hwb hg1 hg3
 refine (ahK hJ _ _ _ g _ HG.out avR.smp (fun _=>gq) (by omega)).mono ?_
 rintro e w1 ⟨A7,l7,c7,rfl,h7,hb1⟩
 rw[<- HOe.out] at h7
 have hl7:l7<=11:=by have:=h7.length;omega
 have HO:=Lh h7
 replace KB:=Lh (KB.out.move hb1)
 replace K4:=Lh (K4.out.below hb1 K4.out.lt)
 replace Hbw:=Lh (Hbw.out.trans (hb1.mono Hbw.out.size))
 clear h7 hb1 HG
 go_wp2_with fail
 refine (anN _ _ _ _ _ HO.out c1.smp c2.smp (by omega) 12 k1 (by omega)).mono ?_
 rintro e w2 ⟨⟨A8,l8,c8,rfl,h8⟩,hb2⟩
 have hl8:l8<=13:=by rw[<- h8.1.length];exact k4
 have HC:=Lh h8
 have HB8:=Lh (show g1<w1.heap.size from KB.out.k.lt)
 obtain ⟨B8,hB8⟩:∃ B8,B8=w1.heap.size:=⟨_,rfl⟩
 rw[<- hB8] at HC HB8
 obtain ⟨PS,hPS⟩:∃ PS,PS=aaN 12 O (aaz O):=⟨_,rfl⟩
 rw[<- hPS] at HC
 have HPS:=Lh hPS
 have HPl:=Lh (show PS.length=l8 by rw[hPS];exact h8.1.length)
 replace KB:=Lh (KB.out.move hb2)
 replace HO:=Lh (HO.out.below ikN hb2)
 replace K4:=Lh (K4.out.below hb2 K4.out.lt)
 replace Hbw:=Lh (Hbw.out.trans (hb2.mono Hbw.out.size))
 clear h8 hb2 hB8 hPS k1 k3 k4
 go_wp2_with fail
 go_loopg [9] (NN+1-i0) (fun k s9 wr=>∃ i s n A l c B m d n' A' l' c' B' m' d',i+k=NN+1/\ASt f x i s/\r.1.v<=s.1.v/\s.2.v<=r.2.v/\RBk wr g1 n A l c B m d n' A' l' c' B' m' d' s/\aaB wr A7 l7 c7 O/\ChF B8 wr A8 l8 c8 PS/\Blk wr g3 40 rz6/\Below w.heap.size w wr)
 case atStart=>exact ⟨i0,r,n,A,l,c,B,m,d,n',A',l',c',B',m',d',by omega,ayC.out,Rat.le_refl,Rat.le_refl,KB.out,HO.out,HC.out,K4.out,Hbw.out⟩
 case round =>
  clear KB HO HC K4 Hbw ayC
  obtain ⟨i,s,n,A,l,c,B,m,d,n',A',l',c',B',m',d',hik,hst,w1',w2',hkb,ho,hc,hk4,hbw⟩:=hrel
  have hi1:i<=NN+1:=by omega
  obtain ⟨fa,fb,fm⟩:=hst.fqb f9 H0.out hi1
  have KB:=Lh hkb
  have HO:=Lh ho
  have HC:=Lh hc
  have K4:=Lh hk4
  have Hbw:=Lh hbw
  have HI:=Lh (And.intro hik (And.intro hi1 True.intro))
  have HS:=Lh (And.intro hst (And.intro w1' w2'))
  have fz:=aeM fa.p fb.p
  have hle:=hst.iso.le
  have FE:=Lh (show agO s.1 s.2=0->Free g s from fun e=>Free.congr (hst.iso.atT (fz.1 e) HOX.out) HGR.out)
  have hlt:agO s.1 s.2≠0->s.1.v<s.2.v:=fun e=>by
   have:s.1.v≠s.2.v:=fun h=>e (fz.2 h)
   grind
  have FC:=Lh (show agO s.1 s.2≠0->s.1.sgn O≠0->s.2.sgn O≠0->(((s.1.chg PS:Nat):Int)=((s.2.chg PS:Nat):Int)↔Free O s) from fun e e1 e2=>by
   rw[HPS.out]
   exact HFR.out s fa.p fb.p (hlt e) (by rw[<- aeh fa.p];exact e1) (by rw[<- aeh fb.p];exact e2))
  have FM:=Lh (show agO s.1 s.2≠0->¬ Free O s->i<NN from fun e hn=>HMO.out i s hst (fun h=>e (fz.2 h)) hn)
  have F1:=Lh (show s.1.sgn O=0->¬ Free O s from fun e hf=>by
   rw[aeh fa.p] at e
   rcases hf _ e with h | h
   ·exact Pt.irr _ h
   ·have:s.2.v<s.1.v:=Pt.aaZ.1 h
    grind)
  have F2:=Lh (show s.2.sgn O=0->¬ Free O s from fun e hf=>by
   rw[aeh fb.p] at e
   rcases hf _ e with h | h
   ·have:s.2.v<s.1.v:=Pt.aaZ.1 h
    grind
   ·exact Pt.irr _ h)
  have po1:=HAT.out s.1 fa
  have po2:=HAT.out s.2 fb
  have el1:∀ p∈PS,ajf s.1.z s.1.q p:=fun p hp=>HAL.out s.1 fa p (by rw[<- HPS.out];exact hp)
  have el2:∀ p∈PS,ajf s.2.z s.2.q p:=fun p hp=>HAL.out s.2 fb p (by rw[<- HPS.out];exact hp)
  have E1:=Lh el1
  have E2:=Lh el2
  have L2:=Lh (show ¬ Free O s->2<=O.length from fun hn=>by
   obtain ⟨y,hy⟩:=Classical.not_forall.1 hn
   obtain ⟨hy,_⟩:=Classical.not_imp.1 hy
   have e1:O.length=aad O:=by rw[<- aae,HSQ.out.1]
   refine Classical.byContradiction fun hc=>?_
   have h2:=aez (p:=O) (by have:=HSQ.out.2;omega) y
   rw[hy] at h2
   exact afN (abf HSQ.out.2) h2.symm)
  obtain ⟨t,ht⟩:∃ t,t=hlf Q s:=⟨_,rfl⟩
  have HN:=Lh (show ASt f x (i+1) t/\Half s t by rw[ht,HQe.out];exact hst.half f9 H0.out)
  have HT:=Lh ht
  clear hik hst w1' w2' hkb ho hc hk4 hbw fz hle hlt el1 el2 ht
  have x0:=KB.out.tb.r.c0;have x1:=KB.out.tb.r.c1;have x2:=KB.out.tb.r.c2;have x3:=KB.out.tb.c3;have x4:=KB.out.tb.c4;have x5:=KB.out.tb.c5
  go_wp2_with fail
  refine (afv (r:=s) KB.out.hz KB.out.hq KB.out.hz' KB.out.hq' fa fb).mono ?_
  rintro e w3 ⟨rfl,hb3⟩
  clear x0 x1 x2 x3 x4 x5
  replace KB:=Lh (KB.out.move hb3);replace HO:=Lh (HO.out.below ikN hb3);replace HC:=Lh (HC.out.below hb3);replace K4:=Lh (K4.out.below hb3 K4.out.lt);replace Hbw:=Lh (Hbw.out.trans ((hb3).mono Hbw.out.size))
  clear hb3
  by_cases c0:agO s.1 s.2=0
  ·have b1:(agO s.1 s.2 == 0)=true:=by rw[c0];rfl
   have FR:=Lh (FE.out c0)
   clear c0
   have FX:=Lh (aea (r:=s) Hbw.out K4.out Hg3.out KB.out.hz KB.out.hq KB.out.hz' KB.out.hq');have r0:=(K4.out.cell 0).trans rfl;have r1:=(K4.out.cell 1).trans rfl;have r2:=(K4.out.cell 2).trans rfl;have r3:=(K4.out.cell 3).trans rfl;have r4:=(K4.out.cell 4).trans rfl;have r5:=(K4.out.cell 5).trans rfl;have s0:=K4.out.frozen 0;have s1:=K4.out.frozen 1;have s2:=K4.out.frozen 2;have s3:=K4.out.frozen 3;have s4:=K4.out.frozen 4;have s5:=K4.out.frozen 5;have x0:=KB.out.tb.r.c0;have x1:=KB.out.tb.r.c1;have x2:=KB.out.tb.r.c2;have x3:=KB.out.tb.c3;have x4:=KB.out.tb.c4;have x5:=KB.out.tb.c5;clear K4 KB HO HC Hbw;go_wp2_with fail;refine bodyPost_ret (v:=.agg #[.bool n,.slice A l c,.slice B m d,.bool n',.slice A' l' c',.slice B' m' d']) (by simp[results,Tryz.results25,go_sem,r0,r1,r2,r3,r4,r5]) rfl ⟨⟨i,s,HI.out.2.1,HS.out.1,HS.out.2.1,HS.out.2.2,FR.out,FX.out.1⟩,FX.out.2⟩
  have b1:(agO s.1 s.2 == 0)=false:=by rw[beq_eq_false_iff_ne];exact c0
  replace FC:=Lh (FC.out c0)
  replace FM:=Lh (FM.out c0)
  clear c0 FE
  have x0:=KB.out.tb.r.c0;have x1:=KB.out.tb.r.c1;have x2:=KB.out.tb.r.c2;have x3:=KB.out.tb.c3;have x4:=KB.out.tb.c4;have x5:=KB.out.tb.c5
  obtain ⟨S1,hS1⟩:∃ S,S=s.1.sgn O:=⟨_,rfl⟩
  obtain ⟨S2,hS2⟩:∃ S,S=s.2.sgn O:=⟨_,rfl⟩
  have HS1:=Lh hS1
  have HS2:=Lh hS2
  clear hS1 hS2
  go_wp2_with fail
  refine (abz ikN _ _ _ O _ _ _ _ _ _ _ _ _ _ HO.out po1.fit (by omega) KB.out.hz KB.out.hq fa.at.u fa.at.v fa.at.pos po1.ok fa.at.fz fa.at.fq).mono ?_
  rintro e w4 ⟨he,hb4⟩
  have he2:e=.returned (.int .i64 S1):=by rw[HS1.out];exact he
  subst he2
  clear x0 x1 x2 x3 x4 x5
  replace KB:=Lh (KB.out.move hb4);replace HO:=Lh (HO.out.below ikN hb4);replace HC:=Lh (HC.out.below hb4);replace K4:=Lh (K4.out.below hb4 K4.out.lt);replace Hbw:=Lh (Hbw.out.trans ((hb4).mono Hbw.out.size))
  clear he hb4
  by_cases e1:S1=0
  ·have NF:=Lh (F1.out (by rw[<- HS1.out];exact e1))
   have b2:(S1 != 0)=false:=by rw[e1];rfl
   clear e1 F1 F2 FC E1 E2
   have x0:=KB.out.tb.r.c0;have x1:=KB.out.tb.r.c1;have x2:=KB.out.tb.r.c2;have x3:=KB.out.tb.c3;have x4:=KB.out.tb.c4;have x5:=KB.out.tb.c5
   go_wp2_with fail
   refine wp_region_held_drew (S:=(fun w'=>w'.cell? ⟨g1,0,none⟩=some (.bool n)/\w'.cell? ⟨g1,1,none⟩=some (.slice A l c)/\w'.cell? ⟨g1,2,none⟩=some (.slice B m d)/\w'.cell? ⟨g1,3,none⟩=some (.bool n')/\w'.cell? ⟨g1,4,none⟩=some (.slice A' l' c')/\w'.cell? ⟨g1,5,none⟩=some (.slice B' m' d'))) (by kernel_rfl) (by (try dsimp only);go_keep) (fun hHeld=>?_);(refine tq 0 ?_;simp only[aac,List.set]);(refine tq 1 ?_;simp only[aac,List.set]);(refine tu 2 ?_;simp only[aac,List.set]);(refine tu 3 ?_;simp only[aac,List.set]);(refine tu 4 ?_;simp only[aac,List.set]);(refine tu 5 ?_;simp only[aac,List.set]);(refine tu 6 ?_;simp only[aac,List.set]);(refine tu 7 ?_;simp only[aac,List.set]);(refine tu 8 ?_;simp only[aac,List.set]);(refine tu 9 ?_;simp only[aac,List.set]);(refine tu 10 ?_;simp only[aac,List.set]);(refine tq 11 ?_;simp only[aac,List.set]);refine wpAnyH_done (by kernel_rfl) ?_ _;clear hHeld;clear x0 x1 x2 x3 x4 x5
   have jd:=(Below.refl w4.heap.size w4).drew
   replace KB:=Lh (KB.out.move jd);replace HO:=Lh (HO.out.below ikN jd);replace HC:=Lh (HC.out.below jd);replace K4:=Lh (K4.out.below jd K4.out.lt);replace Hbw:=Lh (Hbw.out.trans ((jd).mono Hbw.out.size))
   clear jd
   have HM:=Lh (FM.out NF.out);have HL2:=Lh (L2.out NF.out);have x0:=KB.out.tb.r.c0;have x1:=KB.out.tb.r.c1;have x2:=KB.out.tb.r.c2;have x3:=KB.out.tb.c3;have x4:=KB.out.tb.c4;have x5:=KB.out.tb.c5;go_wp2_with fail;refine (ajB ikN (r:=s) (HP.out.below ikN Hbw.out) (by omega) HQ.out KB.out.hz KB.out.hq KB.out.hz' KB.out.hq' fa fb fm).mono ?_;rintro e w9 ⟨he,hb9⟩;rw[<- HT.out] at he;obtain ⟨n5,A5,l5,c5,B5,m5,d5,n6,A6,l6,c6,B6,m6,d6,rfl,z1,z2,z3,z4⟩:=he;clear x0 x1 x2 x3 x4 x5;replace KB:=Lh (KB.out.move hb9);replace HO:=Lh (HO.out.below ikN hb9);replace HC:=Lh (HC.out.below hb9);replace K4:=Lh (K4.out.below hb9 K4.out.lt);replace Hbw:=Lh (Hbw.out.trans ((hb9).mono Hbw.out.size));clear hb9;have hf:=ahU w9 g1 (.bool n5) (.slice A5 l5 c5) (.slice B5 m5 d5) (.bool n6) (.slice A6 l6 c6) (.slice B6 m6 d6);have R1:=Lh (KB.out.put z1 z2 z3 z4);have R2:=Lh (ajA HO.out HL2.out KB.out hf);have R3:=Lh (HC.out.off hf KB.out.ndb HB8.out);have R4:=Lh (show Blk (pu6 w9 g1 (.bool n5) (.slice A5 l5 c5) (.slice B5 m5 d5) (.bool n6) (.slice A6 l6 c6) (.slice B6 m6 d6)) g3 40 rz6 from (hf.same g3 K4.out.lt (by omega) (by omega)).trans K4.out);have R5:=Lh (hf.mono Hbw.out Hg1.out Hg1.out Hbw.out.size);have x0:=KB.out.tb.r.c0;have x1:=KB.out.tb.r.c1;have x2:=KB.out.tb.r.c2;have x3:=KB.out.tb.c3;have x4:=KB.out.tb.c4;have x5:=KB.out.tb.c5;have s0:=KB.out.k.frozen 0;have s1:=KB.out.k.frozen 1;have s2:=KB.out.k.frozen 2;have s3:=KB.out.k.frozen 3;have s4:=KB.out.k.frozen 4;have s5:=KB.out.k.frozen 5;clear hf z1 z2 z3 z4 KB HO HC K4 Hbw;go_wp2_with fail;go_roundg (gk-1);(case rel=>exact ⟨i+1,t,n5,A5,l5,c5,B5,m5,d5,n6,A6,l6,c6,B6,m6,d6,by have:=HI.out.1;have:=HM.out;omega,HN.out.1,Rat.le_trans HS.out.2.1 HN.out.2.lo,Rat.le_trans HN.out.2.hi HS.out.2.2,R1.out,R2.out,R3.out,R4.out,R5.out⟩);(case measure=>have:=HI.out.1;have:=HM.out;omega)
  have b2:(S1 != 0)=true:=by rw[bne_iff_ne];exact e1
  have N1:=Lh (show s.1.sgn O≠0 by rw[<- HS1.out];exact e1)
  clear e1
  have x0:=KB.out.tb.r.c0;have x1:=KB.out.tb.r.c1;have x2:=KB.out.tb.r.c2;have x3:=KB.out.tb.c3;have x4:=KB.out.tb.c4;have x5:=KB.out.tb.c5
  go_wp2_with fail
  refine (abz ikN _ _ _ O _ _ _ _ _ _ _ _ _ _ HO.out po2.fit (by omega) KB.out.hz' KB.out.hq' fb.at.u fb.at.v fb.at.pos po2.ok fb.at.fz fb.at.fq).mono ?_
  rintro e w5 ⟨he,hb5⟩
  have he2:e=.returned (.int .i64 S2):=by rw[HS2.out];exact he
  subst he2
  clear x0 x1 x2 x3 x4 x5
  replace KB:=Lh (KB.out.move hb5);replace HO:=Lh (HO.out.below ikN hb5);replace HC:=Lh (HC.out.below hb5);replace K4:=Lh (K4.out.below hb5 K4.out.lt);replace Hbw:=Lh (Hbw.out.trans ((hb5).mono Hbw.out.size))
  clear he hb5
  by_cases e2:S2=0
  ·have NF:=Lh (F2.out (by rw[<- HS2.out];exact e2))
   have b3:(S2 != 0)=false:=by rw[e2];rfl
   clear e2 F1 F2 FC E1 E2
   have x0:=KB.out.tb.r.c0;have x1:=KB.out.tb.r.c1;have x2:=KB.out.tb.r.c2;have x3:=KB.out.tb.c3;have x4:=KB.out.tb.c4;have x5:=KB.out.tb.c5
   go_wp2_with fail
   refine wp_region_held_drew (S:=(fun w'=>w'.cell? ⟨g1,0,none⟩=some (.bool n)/\w'.cell? ⟨g1,1,none⟩=some (.slice A l c)/\w'.cell? ⟨g1,2,none⟩=some (.slice B m d)/\w'.cell? ⟨g1,3,none⟩=some (.bool n')/\w'.cell? ⟨g1,4,none⟩=some (.slice A' l' c')/\w'.cell? ⟨g1,5,none⟩=some (.slice B' m' d'))) (by kernel_rfl) (by (try dsimp only);go_keep) (fun hHeld=>?_);(refine tq 0 ?_;simp only[aac,List.set]);(refine tq 1 ?_;simp only[aac,List.set]);(refine tu 2 ?_;simp only[aac,List.set]);(refine tu 3 ?_;simp only[aac,List.set]);(refine tu 4 ?_;simp only[aac,List.set]);(refine tu 5 ?_;simp only[aac,List.set]);(refine tu 6 ?_;simp only[aac,List.set]);(refine tu 7 ?_;simp only[aac,List.set]);(refine tu 8 ?_;simp only[aac,List.set]);(refine tu 9 ?_;simp only[aac,List.set]);(refine tu 10 ?_;simp only[aac,List.set]);(refine tq 11 ?_;simp only[aac,List.set]);refine wpAnyH_done (by kernel_rfl) ?_ _;clear hHeld;clear x0 x1 x2 x3 x4 x5
   have jd:=(Below.refl w5.heap.size w5).drew
   replace KB:=Lh (KB.out.move jd);replace HO:=Lh (HO.out.below ikN jd);replace HC:=Lh (HC.out.below jd);replace K4:=Lh (K4.out.below jd K4.out.lt);replace Hbw:=Lh (Hbw.out.trans ((jd).mono Hbw.out.size))
   clear jd
   have HM:=Lh (FM.out NF.out);have HL2:=Lh (L2.out NF.out);have x0:=KB.out.tb.r.c0;have x1:=KB.out.tb.r.c1;have x2:=KB.out.tb.r.c2;have x3:=KB.out.tb.c3;have x4:=KB.out.tb.c4;have x5:=KB.out.tb.c5;go_wp2_with fail;refine (ajB ikN (r:=s) (HP.out.below ikN Hbw.out) (by omega) HQ.out KB.out.hz KB.out.hq KB.out.hz' KB.out.hq' fa fb fm).mono ?_;rintro e w9 ⟨he,hb9⟩;rw[<- HT.out] at he;obtain ⟨n5,A5,l5,c5,B5,m5,d5,n6,A6,l6,c6,B6,m6,d6,rfl,z1,z2,z3,z4⟩:=he;clear x0 x1 x2 x3 x4 x5;replace KB:=Lh (KB.out.move hb9);replace HO:=Lh (HO.out.below ikN hb9);replace HC:=Lh (HC.out.below hb9);replace K4:=Lh (K4.out.below hb9 K4.out.lt);replace Hbw:=Lh (Hbw.out.trans ((hb9).mono Hbw.out.size));clear hb9;have hf:=ahU w9 g1 (.bool n5) (.slice A5 l5 c5) (.slice B5 m5 d5) (.bool n6) (.slice A6 l6 c6) (.slice B6 m6 d6);have R1:=Lh (KB.out.put z1 z2 z3 z4);have R2:=Lh (ajA HO.out HL2.out KB.out hf);have R3:=Lh (HC.out.off hf KB.out.ndb HB8.out);have R4:=Lh (show Blk (pu6 w9 g1 (.bool n5) (.slice A5 l5 c5) (.slice B5 m5 d5) (.bool n6) (.slice A6 l6 c6) (.slice B6 m6 d6)) g3 40 rz6 from (hf.same g3 K4.out.lt (by omega) (by omega)).trans K4.out);have R5:=Lh (hf.mono Hbw.out Hg1.out Hg1.out Hbw.out.size);have x0:=KB.out.tb.r.c0;have x1:=KB.out.tb.r.c1;have x2:=KB.out.tb.r.c2;have x3:=KB.out.tb.c3;have x4:=KB.out.tb.c4;have x5:=KB.out.tb.c5;have s0:=KB.out.k.frozen 0;have s1:=KB.out.k.frozen 1;have s2:=KB.out.k.frozen 2;have s3:=KB.out.k.frozen 3;have s4:=KB.out.k.frozen 4;have s5:=KB.out.k.frozen 5;clear hf z1 z2 z3 z4 KB HO HC K4 Hbw;go_wp2_with fail;go_roundg (gk-1);(case rel=>exact ⟨i+1,t,n5,A5,l5,c5,B5,m5,d5,n6,A6,l6,c6,B6,m6,d6,by have:=HI.out.1;have:=HM.out;omega,HN.out.1,Rat.le_trans HS.out.2.1 HN.out.2.lo,Rat.le_trans HN.out.2.hi HS.out.2.2,R1.out,R2.out,R3.out,R4.out,R5.out⟩);(case measure=>have:=HI.out.1;have:=HM.out;omega)
  have b3:(S2 != 0)=true:=by rw[bne_iff_ne];exact e2
  replace FC:=Lh (FC.out N1.out (by rw[<- HS2.out];exact e2))
  clear e2 F1 F2 N1
  obtain ⟨wk,hwk⟩:∃ wk,wk=w5:=⟨_,rfl⟩
  rw[<- hwk] at KB HO HC K4 Hbw ⊢
  clear hwk
  obtain ⟨C1,hC1⟩:∃ C,C=s.1.chg PS:=⟨_,rfl⟩
  obtain ⟨C2,hC2⟩:∃ C,C=s.2.chg PS:=⟨_,rfl⟩
  have FC':=FC.out
  rw[<- hC1,<- hC2] at FC'
  replace FC:=Lh FC'
  have HC1:=Lh (show (vst (PS.map (sat s.1.z s.1.q)) l8).1=C1 by rw[hC1,<- HPl.out];rfl)
  have HC2:=Lh (show (vst (PS.map (sat s.2.z s.2.q)) l8).1=C2 by rw[hC2,<- HPl.out];rfl)
  clear hC1 hC2 FC'
  have l1:=KB.out.k.lt
  have x0:=KB.out.tb.r.c0;have x1:=KB.out.tb.r.c1;have x2:=KB.out.tb.r.c2;have x3:=KB.out.tb.c3;have x4:=KB.out.tb.c4;have x5:=KB.out.tb.c5
  go_wp2_with fail
  refine wp_region_held_drew (S:=(fun w'=>w'.cell? ⟨g1,0,none⟩=some (.bool n)/\w'.cell? ⟨g1,1,none⟩=some (.slice A l c)/\w'.cell? ⟨g1,2,none⟩=some (.slice B m d)/\w'.cell? ⟨g1,3,none⟩=some (.bool n')/\w'.cell? ⟨g1,4,none⟩=some (.slice A' l' c')/\w'.cell? ⟨g1,5,none⟩=some (.slice B' m' d'))) (by kernel_rfl) (by (try dsimp only);go_keep) (fun hHeld=>?_)
  (refine tq 0 ?_;simp only[aac,List.set])
  (refine tq 1 ?_;simp only[aac,List.set])
  (refine tq 2 ?_;simp only[aac,List.set])
  (refine tq 3 ?_;simp only[aac,List.set])
  (refine tq 4 ?_;simp only[aac,List.set])
  (refine tq 6 ?_;simp only[aac,List.set])
  (refine tq 7 ?_;simp only[aac,List.set])
  (refine tq 8 ?_;simp only[aac,List.set])
  (refine rdy 5 (fun K hK=>?_);go_simp)
  refine (afS _ _ _ PS _ _ _ _ _ _ _ s.1.q s.1.z _ (HC.out.av4.below Bel.go) (KB.out.hz.below Bel.go) (KB.out.hq.below Bel.go) fa.at E1.out (by omega)).mono ?_
  rintro e w6 ⟨he,hb6⟩
  rw[HC1.out] at he
  subst he
  have G6':=Lh ((Below.trans Bel.go (hb6.mono (by simp<;>omega))):Below wk.heap.size wk w6)
  obtain ⟨hcx,hfx⟩:=aao hb6;refine hK.out _ _ ?_ (fun _=>?_);(focus (((try dsimp only);repeat' apply And.intro)<;>(rw[hcx _ (by go_simp)];go_simp)));clear hHeld hK K hcx hfx;rename_i hHeld;clear hb6
  (refine rdy 9 (fun K hK=>?_);go_simp)
  refine (afS _ _ _ PS _ _ _ _ _ _ _ s.2.q s.2.z _ ((HC.out.av4.below G6'.out).below Bel.go) ((KB.out.hz'.below G6'.out).below Bel.go) ((KB.out.hq'.below G6'.out).below Bel.go) fb.at E2.out (by omega)).mono ?_
  rintro e w7 ⟨he,hb7⟩
  rw[HC2.out] at he
  subst he
  have G7:=Lh (G6'.out.trans (((Below.trans Bel.go (hb7.mono (by simp<;>omega))):Below w6.heap.size w6 w7).mono G6'.out.size))
  obtain ⟨hcx,hfx⟩:=aao hb7;refine hK.out _ _ ?_ (fun _=>?_);(focus (((try dsimp only);repeat' apply And.intro)<;>(rw[hcx _ (by go_simp)];go_simp)));clear hHeld hK K hcx hfx;rename_i hHeld;clear hb7
  by_cases e3:((C1:Nat):Int)=((C2:Nat):Int)
  ·have b4:(((C1:Nat):Int) == ((C2:Nat):Int))=true:=by rw[e3];simp
   have FR:=Lh (Free.congr (FC.out.1 e3) HGR.out)
   clear e3
   (refine tq 10 ?_;simp only[aac,List.set])
   (refine tq 11 ?_;simp only[aac,List.set])
   refine wpAnyH_done (by kernel_rfl) ?_ _
   replace KB:=Lh (KB.out.move G7.out);replace HO:=Lh (HO.out.below ikN G7.out);replace HC:=Lh (HC.out.below G7.out);replace K4:=Lh (K4.out.below G7.out K4.out.lt);replace Hbw:=Lh (Hbw.out.trans ((G7.out).mono Hbw.out.size))
   clear hHeld G6' G7
   clear x0 x1 x2 x3 x4 x5
   have FX:=Lh (aea (r:=s) Hbw.out K4.out Hg3.out KB.out.hz KB.out.hq KB.out.hz' KB.out.hq');have r0:=(K4.out.cell 0).trans rfl;have r1:=(K4.out.cell 1).trans rfl;have r2:=(K4.out.cell 2).trans rfl;have r3:=(K4.out.cell 3).trans rfl;have r4:=(K4.out.cell 4).trans rfl;have r5:=(K4.out.cell 5).trans rfl;have s0:=K4.out.frozen 0;have s1:=K4.out.frozen 1;have s2:=K4.out.frozen 2;have s3:=K4.out.frozen 3;have s4:=K4.out.frozen 4;have s5:=K4.out.frozen 5;have x0:=KB.out.tb.r.c0;have x1:=KB.out.tb.r.c1;have x2:=KB.out.tb.r.c2;have x3:=KB.out.tb.c3;have x4:=KB.out.tb.c4;have x5:=KB.out.tb.c5;clear K4 KB HO HC Hbw;go_wp2_with fail;refine bodyPost_ret (v:=.agg #[.bool n,.slice A l c,.slice B m d,.bool n',.slice A' l' c',.slice B' m' d']) (by simp[results,Tryz.results25,go_sem,r0,r1,r2,r3,r4,r5]) rfl ⟨⟨i,s,HI.out.2.1,HS.out.1,HS.out.2.1,HS.out.2.2,FR.out,FX.out.1⟩,FX.out.2⟩
  ·have b4:(((C1:Nat):Int) == ((C2:Nat):Int))=false:=by rw[beq_eq_false_iff_ne];exact e3
   have NF:=Lh (fun h=>e3 (FC.out.2 h))
   clear e3
   (refine tq 10 ?_;simp only[aac,List.set])
   (refine tq 11 ?_;simp only[aac,List.set])
   refine wpAnyH_done (by kernel_rfl) ?_ _
   replace KB:=Lh (KB.out.move G7.out);replace HO:=Lh (HO.out.below ikN G7.out);replace HC:=Lh (HC.out.below G7.out);replace K4:=Lh (K4.out.below G7.out K4.out.lt);replace Hbw:=Lh (Hbw.out.trans ((G7.out).mono Hbw.out.size))
   clear hHeld G6' G7
   clear x0 x1 x2 x3 x4 x5
   have HM:=Lh (FM.out NF.out);have HL2:=Lh (L2.out NF.out);have x0:=KB.out.tb.r.c0;have x1:=KB.out.tb.r.c1;have x2:=KB.out.tb.r.c2;have x3:=KB.out.tb.c3;have x4:=KB.out.tb.c4;have x5:=KB.out.tb.c5;go_wp2_with fail;refine (ajB ikN (r:=s) (HP.out.below ikN Hbw.out) (by omega) HQ.out KB.out.hz KB.out.hq KB.out.hz' KB.out.hq' fa fb fm).mono ?_;rintro e w9 ⟨he,hb9⟩;rw[<- HT.out] at he;obtain ⟨n5,A5,l5,c5,B5,m5,d5,n6,A6,l6,c6,B6,m6,d6,rfl,z1,z2,z3,z4⟩:=he;clear x0 x1 x2 x3 x4 x5;replace KB:=Lh (KB.out.move hb9);replace HO:=Lh (HO.out.below ikN hb9);replace HC:=Lh (HC.out.below hb9);replace K4:=Lh (K4.out.below hb9 K4.out.lt);replace Hbw:=Lh (Hbw.out.trans ((hb9).mono Hbw.out.size));clear hb9;have hf:=ahU w9 g1 (.bool n5) (.slice A5 l5 c5) (.slice B5 m5 d5) (.bool n6) (.slice A6 l6 c6) (.slice B6 m6 d6);have R1:=Lh (KB.out.put z1 z2 z3 z4);have R2:=Lh (ajA HO.out HL2.out KB.out hf);have R3:=Lh (HC.out.off hf KB.out.ndb HB8.out);have R4:=Lh (show Blk (pu6 w9 g1 (.bool n5) (.slice A5 l5 c5) (.slice B5 m5 d5) (.bool n6) (.slice A6 l6 c6) (.slice B6 m6 d6)) g3 40 rz6 from (hf.same g3 K4.out.lt (by omega) (by omega)).trans K4.out);have R5:=Lh (hf.mono Hbw.out Hg1.out Hg1.out Hbw.out.size);have x0:=KB.out.tb.r.c0;have x1:=KB.out.tb.r.c1;have x2:=KB.out.tb.r.c2;have x3:=KB.out.tb.c3;have x4:=KB.out.tb.c4;have x5:=KB.out.tb.c5;have s0:=KB.out.k.frozen 0;have s1:=KB.out.k.frozen 1;have s2:=KB.out.k.frozen 2;have s3:=KB.out.k.frozen 3;have s4:=KB.out.k.frozen 4;have s5:=KB.out.k.frozen 5;clear hf z1 z2 z3 z4 KB HO HC K4 Hbw;go_wp2_with fail;go_roundg (gk-1);(case rel=>exact ⟨i+1,t,n5,A5,l5,c5,B5,m5,d5,n6,A6,l6,c6,B6,m6,d6,by have:=HI.out.1;have:=HM.out;omega,HN.out.1,Rat.le_trans HS.out.2.1 HN.out.2.lo,Rat.le_trans HN.out.2.hi HS.out.2.2,R1.out,R2.out,R3.out,R4.out,R5.out⟩);(case measure=>have:=HI.out.1;have:=HM.out;omega)
end Go.Proofs.YtkefcldcfeolbaaGreat
namespace Go.Proofs.YtkefcldcfeolbaaGreat
open Go Go.RowKit
set_option maxRecDepth 100000 in
set_option maxHeartbeats 8000000 in
theorem atZ {I J:aas} (hI:IK I) (hJ:IK J) {w:World} {Af:Option Addr} {lf cf:Nat} {f:List Int} {Ag:Option Addr} {lg cg:Nat} {g:List Int} {x:Pt} {i0:Nat} {r:Fq×Fq} {n:Bool} {A:Option Addr} {l c:Nat} {B:Option Addr} {m d:Nat} {n':Bool} {A':Option Addr} {l' c':Nat} {B':Option Addr} {m' d':Nat}
 (hf:aar I w Af lf cf f) (s6:S6 f) (h0:aad f≠0) (hg:aar J w Ag lg cg g) (zg:ZaG f g x) (go:sgp g x≠0->AwO f g x) (hz:aaA w n A l c r.1.z) (hq:aaT w B m d r.1.q) (hz':aaA w n' A' l' c' r.2.z) (hq':aaT w B' m' d' r.2.q) (hi0:i0<=NN+1) (ha:ASt f x i0 r) :
 Calls Tryz.prog 8 #[.slice Af lf cf,.agg #[.bool n,.slice A l c,.slice B m d,.bool n',.slice A' l' c',.slice B' m' d'],.slice Ag lg cg] w fun e w'=>e=.returned (.tuple #[.int .i64 (sgp g x),.int .i64 0])/\Below w.heap.size w w':=by
 have hlf:lf<=6:=by have:=hf.length;have:=s6.len;omega
 have hlg:lg<=16:=by have:=hg.length;have:=zg.len;omega
 have avR:=zg.fit
 have HAT:=Lh zg.at_
 have hlen:=s6.len
 have o1:=aak w (ahX n A l c B m d n' A' l' c' B' m' d')
 have T:=Lh (apL.make hz hq hz' hq')
 have HP:=Lh (hf.below hI o1)
 have HG:=Lh (hg.below hJ o1)
 have Hb:=Lh o1
 have h9:=s6.p9
 obtain ⟨fa,fb,_⟩:=ha.fqb h9 h0 hi0
 have HV:=Lh (show vld 2 f r.1 r.2=true from (atM h9.pq h0 fa.p fb.p).2 ⟨x,ha.iso⟩)
 have HA:=Lh ha
 have H0:=Lh h0
 obtain ⟨S,hS⟩:∃ S,S=sgp g x:=⟨_,rfl⟩
 rw[<- hS]
 have HS:=Lh hS
 clear hf hg hz hq hz' hq' o1 ha h0 hS
 go_enter Tryz.func8,Tryz.ntmps8
 have x0:=T.out.r.c0;have x1:=T.out.r.c1;have x2:=T.out.r.c2;have x3:=T.out.c3;have x4:=T.out.c4;have x5:=T.out.c5
 go_wp2_with fail
 refine (apN hI _ _ _ f r.1 r.2 _ _ _ _ _ _ _ _ _ _ _ _ _ _ _ HP.out (by omega) h9.pq T.out.r.hz T.out.r.hq T.out.hz T.out.hq fa fb).mono ?_
 rintro e w1 ⟨he,hb1⟩
 rw[HV.out] at he
 subst he
 clear x0 x1 x2 x3 x4 x5
 replace HP:=Lh (HP.out.below hI hb1);replace HG:=Lh (HG.out.below hJ hb1);replace T:=Lh (T.out.move hb1);replace Hb:=Lh (Hb.out.trans ((hb1).mono Hb.out.size))
 clear hb1
 go_wp2_with fail
 refine (ahK hI _ _ _ f _ HP.out h9.cp.fit.smp (fun _=>h9.q) (by omega)).mono ?_
 rintro e w2 ⟨A2,l2,c2,rfl,h2,hb2⟩
 have HQ:=Lh h2
 replace HP:=Lh (HP.out.below hI hb2);replace HG:=Lh (HG.out.below hJ hb2);replace T:=Lh (T.out.move hb2);replace Hb:=Lh (Hb.out.trans ((hb2).mono Hb.out.size))
 clear h2 hb2
 have x0:=T.out.r.c0;have x1:=T.out.r.c1;have x2:=T.out.r.c2;have x3:=T.out.c3;have x4:=T.out.c4;have x5:=T.out.c5
 go_wp2_with fail
 refine (arb hJ (r:=r) HQ.out s6 HG.out zg T.out.r.hz T.out.r.hq T.out.hz T.out.hq fa fb HA.out.iso).mono ?_
 rintro e w3 ⟨he,hb3⟩
 rw[<- HS.out] at he
 subst he
 clear x0 x1 x2 x3 x4 x5
 replace HQ:=Lh (HQ.out.below ikN hb3)
 replace HP:=Lh (HP.out.below hI hb3);replace HG:=Lh (HG.out.below hJ hb3);replace T:=Lh (T.out.move hb3);replace Hb:=Lh (Hb.out.trans ((hb3).mono Hb.out.size))
 clear hb3
 by_cases c0:S=0
 ·rw[decide_eq_true c0]
  have HC:=Lh c0
  clear c0 T HP HG HQ
  go_wp2_with fail
  refine bodyPost_ret (v:=.tuple #[.int .i64 0,.int .i64 0]) (by simp[results,Tryz.results8,go_sem]) rfl ⟨by rw[HC.out],Hb.out⟩
 ·rw[decide_eq_false c0]
  have gx:sgp g x≠0:=by rw[<- HS.out];exact c0
  clear c0
  have x0:=T.out.r.c0;have x1:=T.out.r.c1;have x2:=T.out.r.c2;have x3:=T.out.c3;have x4:=T.out.c4;have x5:=T.out.c5
  go_wp2_with fail
  refine (avS hJ (r:=r) HQ.out s6 H0.out HG.out hlg avR gx (go gx) T.out.r.hz T.out.r.hq T.out.hz T.out.hq hi0 HA.out).mono ?_
  rintro e w4 ⟨⟨i,s,hi,hs,_,_,hfr,n4,A4,l4,c4,B4,m4,d4,n5,A5,l5,c5,B5,m5,d5,rfl,z1,z2,z3,z4⟩,hb4⟩
  clear x0 x1 x2 x3 x4 x5
  have hfd:∀ w:World,(Instr.field 40 (.agg #[.bool n4,.slice A4 l4 c4,.slice B4 m4 d4,.bool n5,.slice A5 l5 c5,.slice B5 m5 d5]) 0).run Tryz.prog w=.ok (.agg #[.bool n4,.slice A4 l4 c4,.slice B4 m4 d4]) w:=fun _=>by kernel_rfl
  obtain ⟨fc,_,_⟩:=hs.fqb h9 H0.out hi
  have hsg:s.1.sgn g=S:=by rw[aeh fc.p,hs.iso.atU hfr,HS.out]
  have pg:=HAT.out s.1 fc
  have Z1:=Lh z1
  have Z2:=Lh z2
  replace HP:=Lh (HP.out.below hI hb4);replace HG:=Lh (HG.out.below hJ hb4);replace T:=Lh (T.out.move hb4);replace Hb:=Lh (Hb.out.trans ((hb4).mono Hb.out.size))
  clear z1 z2 z3 z4 hb4 hs hfr hi HQ gx
  have HSG:=Lh hsg
  clear hsg
  go_wp2_with fail
  refine (abz hJ _ _ _ g _ _ _ _ _ _ _ _ _ _ HG.out pg.fit (by omega) Z1.out Z2.out fc.at.u fc.at.v fc.at.pos pg.ok fc.at.fz fc.at.fq).mono ?_
  rintro e w5 ⟨he,hb5⟩
  have he2:e=.returned (.int .i64 S):=by rw[<- HSG.out];exact he
  subst he2
  replace Hb:=Lh (Hb.out.trans (hb5.mono Hb.out.size))
  clear he hb5 T HP HG Z1 Z2 HSG hfd
  go_wp2_with fail
  refine bodyPost_ret (v:=.tuple #[.int .i64 S,.int .i64 0]) (by simp[results,Tryz.results8,go_sem]) rfl ⟨rfl,Hb.out⟩
theorem apX {I J:aas} (hI:IK I) (hJ:IK J) {w:World} {Af:Option Addr} {lf cf:Nat} {f:List Int} {Ag:Option Addr} {lg cg:Nat} {g:List Int} {x:Pt} {i0:Nat} {r:Fq×Fq} {n:Bool} {A:Option Addr} {l c:Nat} {B:Option Addr} {m d:Nat} {n':Bool} {A':Option Addr} {l' c':Nat} {B':Option Addr} {m' d':Nat}
 (hf:aar I w Af lf cf f) (s6:S6 f) (h0:aad f≠0) (hg:aar J w Ag lg cg g) (g6:G6 g) (hz:aaA w n A l c r.1.z) (hq:aaT w B m d r.1.q) (hz':aaA w n' A' l' c' r.2.z) (hq':aaT w B' m' d' r.2.q) (hi0:i0<=NN+1) (ha:ASt f x i0 r) :
 Calls Tryz.prog 8 #[.slice Af lf cf,.agg #[.bool n,.slice A l c,.slice B m d,.bool n',.slice A' l' c',.slice B' m' d'],.slice Ag lg cg] w fun e w'=>e=.returned (.tuple #[.int .i64 (sgp g x),.int .i64 0])/\Below w.heap.size w w' :=
 atZ hI hJ hf s6 h0 hg (avP s6 h0 g6) (fun gx=>avQ s6 h0 g6 gx) hz hq hz' hq' hi0 ha
end Go.Proofs.YtkefcldcfeolbaaGreat
namespace Go.Proofs.YtkefcldcfeolbaaGreat
open Go.RowKit
def lcd (a b:Nat):Int:=((((a:Int).tdiv ((Nat.gcd (a:Int).natAbs (b:Int).natAbs:Nat):Int))*(b:Int)).natAbs:Nat)
theorem asg (a b:Nat):lcd a b=((a / Nat.gcd a b*b:Nat):Int):=by
 unfold lcd
 rw[Int.natAbs_natCast,Int.natAbs_natCast,<- Int.ofNat_tdiv,<- Int.natCast_mul,Int.natAbs_natCast]
theorem arf {a b:Nat}:(lcd a b).tmod (a:Int)=0:=by
 rw[asg,<- Int.ofNat_tmod]
 obtain ⟨k,hk⟩:=Nat.gcd_dvd_right a b
 obtain ⟨j,hj⟩:=Nat.gcd_dvd_left a b
 have h:a / Nat.gcd a b*b=a*k:=by
  by_cases hg:Nat.gcd a b=0
  ·have h0:a=0:=Nat.eq_zero_of_gcd_eq_zero_left hg
   rw[h0];simp
  ·have h1:a / Nat.gcd a b=j:=by
    refine Nat.div_eq_of_eq_mul_right (Nat.pos_of_ne_zero hg) hj
   rw[h1]
   calc j*b=j*(Nat.gcd a b*k):=by rw[<- hk]
    _=(Nat.gcd a b*j)*k:=by rw[<- Nat.mul_assoc,Nat.mul_comm j]
    _=a*k:=by rw[<- hj]
 rw[h,Nat.mul_mod_right];rfl
theorem apY {a b:Nat}:(lcd a b).tmod (b:Int)=0:=by
 rw[asg,<- Int.ofNat_tmod,Nat.mul_mod_left];rfl
theorem aaA.anV {W:World} {n n':Bool} {A A' B':Option Addr} {l c l' c' m' d' g':Nat} {z z':Int} {q':Nat} (h:aaA W n A l c z) (h':aci W g' n' A' l' c' B' m' d' z' q') (u v x:Value):aaA (((W.setCell ⟨g',0,none⟩ u).setCell ⟨g',1,none⟩ v).setCell ⟨g',2,none⟩ x) n A l c z:=by
 have j2:((W.setCell ⟨g',0,none⟩ u).setCell ⟨g',1,none⟩ v).cell? ⟨g',2,none⟩=some (.slice B' m' d'):=by
  rw[World.cell?_setCell_other _ _ _ _ (by simp),World.cell?_setCell_other _ _ _ _ (by simp)];exact h'.c2
 exact (h.ret u v h'.c0 h'.c1).store x j2 (aah _ _ _)
theorem aaT.anV {W:World} {n':Bool} {A' B B':Option Addr} {m d l' c' m' d' g':Nat} {q q':Nat} {z':Int} (h:aaT W B m d q) (h':aci W g' n' A' l' c' B' m' d' z' q') (u v x:Value):aaT (((W.setCell ⟨g',0,none⟩ u).setCell ⟨g',1,none⟩ v).setCell ⟨g',2,none⟩ x) B m d q:=by
 have j1:(W.setCell ⟨g',0,none⟩ u).cell? ⟨g',1,none⟩=some (.slice A' l' c'):=by
  rw[World.cell?_setCell_other W _ _ _ (by simp)];exact h'.c1
 have j2:((W.setCell ⟨g',0,none⟩ u).setCell ⟨g',1,none⟩ v).cell? ⟨g',2,none⟩=some (.slice B' m' d'):=by
  rw[World.cell?_setCell_other _ _ _ _ (by simp),World.cell?_setCell_other _ _ _ _ (by simp)];exact h'.c2
 exact ((h.store u h'.c0 (aax _)).store v j1 (aah _ _ _)).store x j2 (aah _ _ _)
def CdA (w:World) (z1:Int) (a:Nat) (z2:Int) (b:Nat) (wx:World):Prop:=∃ n1 A1 l1 c1 B1 m1 d1 n2 A2 l2 c2 B2 m2 d2,aci wx w.heap.size n1 A1 l1 c1 B1 m1 d1 z1 a/\aci wx (w.heap.size+1) n2 A2 l2 c2 B2 m2 d2 z2 b/\aaK wx (w.heap.size+1+1) false none 0 0 0/\aaK wx (w.heap.size+1+1+1) false none 0 0 0/\aaK wx (w.heap.size+1+1+1+1) false none 0 0 0/\Below w.heap.size w wx
set_option maxRecDepth 100000 in
set_option maxHeartbeats 4000000 in
theorem anO (n:Bool) (A:Option Addr) (l c:Nat) (B:Option Addr) (m d q:Nat) (z:Int) (n':Bool) (A':Option Addr) (l' c':Nat) (B':Option Addr) (m' d' q':Nat) (z':Int) (w:World) (hz:aaA w n A l c z) (hq:aaT w B m d q) (hz':aaA w n' A' l' c' z') (hq':aaT w B' m' d' q') (hu:Fit z) (hv:Fit (q:Int)) (h0:0<q) (hu':Fit z') (hv':Fit (q':Int)) (h0':0<q') (hfD:Fit (lcd (q / Nat.gcd z.natAbs q) (q' / Nat.gcd z'.natAbs q'))) :
 Calls Tryz.prog 119 #[.agg #[.bool n,.slice A l c,.slice B m d],.agg #[.bool n',.slice A' l' c',.slice B' m' d']] w fun e w'=>∃ z1 a z2 b,z1=z.tdiv (Nat.gcd z.natAbs q)/\a=q / Nat.gcd z.natAbs q/\z2=z'.tdiv (Nat.gcd z'.natAbs q')/\b=q' / Nat.gcd z'.natAbs q'/\∃ n1 A1 l1 c1 n2 A2 l2 c2 n3 A3 l3 c3,e=.returned (.tuple #[.agg #[.bool n1,.slice A1 l1 c1],.agg #[.bool n2,.slice A2 l2 c2],.agg #[.bool n3,.slice A3 l3 c3]])/\aaA w' n1 A1 l1 c1 (z1*(lcd a b).tdiv (a:Int))/\aaA w' n2 A2 l2 c2 (z2*(lcd a b).tdiv (b:Int))/\aaA w' n3 A3 l3 c3 (lcd a b)/\Below w.heap.size w w':=by
 obtain ⟨z1,hz1⟩:∃ z1,z1=z.tdiv (Nat.gcd z.natAbs q):=⟨_,rfl⟩
 obtain ⟨a,ha⟩:∃ a,a=q / Nat.gcd z.natAbs q:=⟨_,rfl⟩
 obtain ⟨z2,hz2⟩:∃ z2,z2=z'.tdiv (Nat.gcd z'.natAbs q'):=⟨_,rfl⟩
 obtain ⟨b,hb⟩:∃ b,b=q' / Nat.gcd z'.natAbs q':=⟨_,rfl⟩
 have fa:Fit (a:Int):=by unfold Fit;rw[ha,Int.natAbs_natCast];unfold Fit at hv;rw[Int.natAbs_natCast] at hv;exact Nat.lt_of_le_of_lt (Nat.div_le_self _ _) hv
 have fb:Fit (b:Int):=by unfold Fit;rw[hb,Int.natAbs_natCast];unfold Fit at hv';rw[Int.natAbs_natCast] at hv';exact Nat.lt_of_le_of_lt (Nat.div_le_self _ _) hv'
 have pa:0<a:=by rw[ha];exact Nat.div_pos (Nat.gcd_le_right _ h0) (Nat.gcd_pos_of_pos_right _ h0)
 have pb:0<b:=by rw[hb];exact Nat.div_pos (Nat.gcd_le_right _ h0') (Nat.gcd_pos_of_pos_right _ h0')
 have f1:Fit z1:=Nat.lt_of_le_of_lt (by rw[hz1,Int.natAbs_tdiv];exact Nat.div_le_self _ _) hu
 have f2:Fit z2:=Nat.lt_of_le_of_lt (by rw[hz2,Int.natAbs_tdiv];exact Nat.div_le_self _ _) hu'
 refine Calls.mono ?_ (fun e w' h=>⟨z1,a,z2,b,hz1,ha,hz2,hb,h⟩)
 have Z1:=Lh hz1
 have HA:=Lh ha
 have Z2:=Lh hz2
 have HB:=Lh hb
 clear hz1 ha hz2 hb
 have fD:Fit (lcd a b):=by rw[HA.out,HB.out];exact hfD
 have tl:(lcd a b).tmod (a:Int)=0:=arf
 have tr:(lcd a b).tmod (b:Int)=0:=apY
 have hcE:((((a:Int).tdiv ((Nat.gcd (a:Int).natAbs (b:Int).natAbs:Nat):Int))*(b:Int)).natAbs:Nat)=lcd a b:=rfl
 obtain ⟨D,hD⟩:∃ D,D=lcd a b:=⟨_,rfl⟩
 rw[<- hD] at fD tl tr hcE ⊢
 obtain ⟨U,hU⟩:∃ U,U=D.tdiv (a:Int):=⟨_,rfl⟩
 obtain ⟨V,hV⟩:∃ V,V=D.tdiv (b:Int):=⟨_,rfl⟩
 have fU:Fit U:=Nat.lt_of_le_of_lt (by rw[hU,Int.natAbs_tdiv];exact Nat.div_le_self _ _) fD
 have fV:Fit V:=Nat.lt_of_le_of_lt (by rw[hV,Int.natAbs_tdiv];exact Nat.div_le_self _ _) fD
 rw[<- hU,<- hV]
 have HU:=Lh hU
 have HV:=Lh hV
 have HC:=Lh hcE
 have Ta:=Lh tl
 have Tb:=Lh tr
 clear hU hV hcE hD tl tr
 have na0:(a:Int)≠0:=by omega
 have nb0:(b:Int)≠0:=by omega
 have o1:=aak w (aa0 n A l c B m d)
 have o2:=aak (w.alloc (aa0 n A l c B m d)) (aa0 n' A' l' c' B' m' d')
 have o3:=aak ((w.alloc (aa0 n A l c B m d)).alloc (aa0 n' A' l' c' B' m' d')) (aap false none 0 0)
 have o4:=aak (((w.alloc (aa0 n A l c B m d)).alloc (aa0 n' A' l' c' B' m' d')).alloc (aap false none 0 0)) (aap false none 0 0)
 have o5:=aak ((((w.alloc (aa0 n A l c B m d)).alloc (aa0 n' A' l' c' B' m' d')).alloc (aap false none 0 0)).alloc (aap false none 0 0)) (aap false none 0 0)
 have R1:=((((aci.make hz hq).move o2).move o3).move o4).move o5
 have R2:=(((aci.make (hz'.below o1) (hq'.below o1)).move o3).move o4).move o5
 have I4:=((aaK.nil ((w.alloc (aa0 n A l c B m d)).alloc (aa0 n' A' l' c' B' m' d'))).move o4).move o5
 have I5:=(aaK.nil (((w.alloc (aa0 n A l c B m d)).alloc (aa0 n' A' l' c' B' m' d')).alloc (aap false none 0 0))).move o5
 have I6:=aaK.nil ((((w.alloc (aa0 n A l c B m d)).alloc (aa0 n' A' l' c' B' m' d')).alloc (aap false none 0 0)).alloc (aap false none 0 0))
 have b5:Below w.heap.size w (((((w.alloc (aa0 n A l c B m d)).alloc (aa0 n' A' l' c' B' m' d')).alloc (aap false none 0 0)).alloc (aap false none 0 0)).alloc (aap false none 0 0)):=((((o1.alloc (by simp) _).alloc (by simp;omega) _).alloc (by simp;omega) _).alloc (by simp;omega) _)
 simp only[World.size_alloc] at R2 I4 I5 I6
 replace R1:=Lh R1
 replace R2:=Lh R2
 replace I4:=Lh I4
 replace I5:=Lh I5
 replace I6:=Lh I6
 have Hb:=Lh b5
 clear b5 o1 o2 o3 o4 o5 hz hq hz' hq'
 go_enter Tryz.func119,Tryz.ntmps119
 go_wp2_with fail
 go_cut [] (fun wx=>CdA w z1 a z2 b wx)
 case first =>
  obtain ⟨wb,hwb⟩:∃ wb,wb=(((((w.alloc (aa0 n A l c B m d)).alloc (aa0 n' A' l' c' B' m' d')).alloc (aap false none 0 0)).alloc (aap false none 0 0)).alloc (aap false none 0 0)):=⟨_,rfl⟩
  rw[<- hwb] at R1 R2 I4 I5 I6 Hb ⊢
  clear hwb
  have s0:=R2.out.c0
  have s1:=R2.out.c1
  have s2:=R2.out.c2
  have t0:=R1.out.c0
  have t1:=R1.out.c1
  have t2:=R1.out.c2
  refine aaL (S:=fun w'=>w'.cell? ⟨w.heap.size+1,0,none⟩=some (.bool n')/\w'.cell? ⟨w.heap.size+1,1,none⟩=some (.slice A' l' c')/\w'.cell? ⟨w.heap.size+1,2,none⟩=some (.slice B' m' d')) (by kernel_rfl) (by kernel_rfl) (by (try dsimp only);go_keep) (fun hHeld=>?_)
  simp only[List.pop_toArray,List.dropLast]
  (refine tq 2 ?_;simp only[aac,List.set])
  refine rdy 0 (fun K hK=>?_);go_simp
  refine hK.out _ _ ?_ (fun _=>?_)
  ·(try dsimp only);go_keep
  clear hHeld hK K
  rename_i hHeld
  (try (simp only[aac,List.set]))
  refine rdy 1 (fun K hK=>?_);go_simp
  refine (abS _ _ _ _ _ _ _ _ _ _ (R1.out.hz.below Bel.go) (R1.out.hq.below Bel.go) hu hv h0).mono ?_
  rintro e w7 ⟨⟨n7,A7,l7,c7,B7,m7,d7,rfl,h7,k7⟩,hb7⟩
  rw[<- Z1.out] at h7
  rw[<- HA.out] at k7
  obtain ⟨hcx,hfx⟩:=aao hb7
  replace R1:=Lh (R1.out.move (Below.trans Bel.go (hb7.mono (by simp<;>omega))))
  replace R2:=Lh (R2.out.move (Below.trans Bel.go (hb7.mono (by simp<;>omega))))
  replace I4:=Lh (I4.out.move (Below.trans Bel.go (hb7.mono (by simp<;>omega))))
  replace I5:=Lh (I5.out.move (Below.trans Bel.go (hb7.mono (by simp<;>omega))))
  replace I6:=Lh (I6.out.move (Below.trans Bel.go (hb7.mono (by simp<;>omega))))
  replace Hb:=Lh (Hb.out.trans ((Below.trans Bel.go (hb7.mono (by simp<;>omega))).mono Hb.out.size))
  have H7:=Lh h7
  have K7:=Lh k7
  refine hK.out _ _ ?_ (fun _=>?_)
  ·((try dsimp only);repeat' apply And.intro)<;>(rw[hcx _ (by go_simp)];go_simp)
  clear hHeld hK K hcx hfx;rename_i hHeld
  clear h7 k7 hb7
  refine rdy 3 (fun K hK=>?_);go_simp
  refine (abS _ _ _ _ _ _ _ _ _ _ (R2.out.hz.below Bel.go) (R2.out.hq.below Bel.go) hu' hv' h0').mono ?_
  rintro e w8 ⟨⟨n8,A8,l8,c8,B8,m8,d8,rfl,h8,k8⟩,hb8⟩
  rw[<- Z2.out] at h8
  rw[<- HB.out] at k8
  obtain ⟨hcx,hfx⟩:=aao hb8
  replace R1:=Lh (R1.out.move (Below.trans Bel.go (hb8.mono (by simp<;>omega))))
  replace R2:=Lh (R2.out.move (Below.trans Bel.go (hb8.mono (by simp<;>omega))))
  replace I4:=Lh (I4.out.move (Below.trans Bel.go (hb8.mono (by simp<;>omega))))
  replace I5:=Lh (I5.out.move (Below.trans Bel.go (hb8.mono (by simp<;>omega))))
  replace I6:=Lh (I6.out.move (Below.trans Bel.go (hb8.mono (by simp<;>omega))))
  replace Hb:=Lh (Hb.out.trans ((Below.trans Bel.go (hb8.mono (by simp<;>omega))).mono Hb.out.size))
  have H7':=Lh (H7.out.below (Below.trans Bel.go (hb8.mono (by simp<;>omega))))
  have K7':=Lh (K7.out.below (Below.trans Bel.go (hb8.mono (by simp<;>omega))))
  have H8:=Lh h8
  have K8:=Lh k8
  refine hK.out _ _ ?_ (fun _=>?_)
  ·((try dsimp only);repeat' apply And.intro)<;>(rw[hcx _ (by go_simp)];go_simp)
  clear hHeld hK K hcx hfx;rename_i hHeld
  clear h8 k8 hb8 H7 K7
  have p0:=R1.out.c0
  have p1:=R1.out.c1
  have p2:=R1.out.c2
  have p3:=R1.out.f0
  have p4:=R1.out.f1
  have p5:=R1.out.f2
  refine rdy 4 (fun K hK=>?_);go_simp
  refine hK.out _ _ ?_ (fun _=>?_)
  ·(try dsimp only);go_keep
  clear hHeld hK K
  have P1:=R1.out.put H7'.out K7'.out
  have P2:=R2.out.far R1.out (by omega) (.bool n7) (.slice A7 l7 c7) (.slice B7 m7 d7)
  have J4:=I4.out.arV R1.out (by omega) (.bool n7) (.slice A7 l7 c7) (.slice B7 m7 d7)
  have J5:=I5.out.arV R1.out (by omega) (.bool n7) (.slice A7 l7 c7) (.slice B7 m7 d7)
  have J6:=I6.out.arV R1.out (by omega) (.bool n7) (.slice A7 l7 c7) (.slice B7 m7 d7)
  have G8:=H8.out.anV R1.out (.bool n7) (.slice A7 l7 c7) (.slice B7 m7 d7)
  have L8:=K8.out.anV R1.out (.bool n7) (.slice A7 l7 c7) (.slice B7 m7 d7)
  have Hbp:=((Hb.out.setCell (p:=⟨w.heap.size,0,none⟩) (Nat.le_refl _) (.bool n7)).setCell (p:=⟨w.heap.size,1,none⟩) (Nat.le_refl _) (.slice A7 l7 c7)).setCell (p:=⟨w.heap.size,2,none⟩) (Nat.le_refl _) (.slice B7 m7 d7)
  obtain ⟨wp,hwp⟩:∃ wp,wp=((w8.setCell ⟨w.heap.size,0,none⟩ (.bool n7)).setCell ⟨w.heap.size,1,none⟩ (.slice A7 l7 c7)).setCell ⟨w.heap.size,2,none⟩ (.slice B7 m7 d7):=⟨_,rfl⟩
  unfold anV at P1
  (try simp only[aac,List.set])
  rw[<- hwp] at P1 P2 J4 J5 J6 G8 L8 Hbp
  rw[<- hwp]
  clear hwp p0 p1 p2 p3 p4 p5 R1 R2 I4 I5 I6 Hb H7' K7' H8 K8 s0 s1 s2 t0 t1 t2
  have p0:=P2.c0
  have p1:=P2.c1
  have p2:=P2.c2
  have p3:=P2.f0
  have p4:=P2.f1
  have p5:=P2.f2
  refine wpAnyH_done (by kernel_rfl) (aaV rfl ?_) _
  have Q1:=Lh (P1.far P2 (by omega) (.bool n8) (.slice A8 l8 c8) (.slice B8 m8 d8))
  have Q2:=Lh (P2.put G8 L8)
  have Q4:=Lh (J4.arV P2 (by omega) (.bool n8) (.slice A8 l8 c8) (.slice B8 m8 d8))
  have Q5:=Lh (J5.arV P2 (by omega) (.bool n8) (.slice A8 l8 c8) (.slice B8 m8 d8))
  have Q6:=Lh (J6.arV P2 (by omega) (.bool n8) (.slice A8 l8 c8) (.slice B8 m8 d8))
  have Qb:=Lh (((Hbp.setCell (p:=⟨w.heap.size+1,0,none⟩) (by simp) (.bool n8)).setCell (p:=⟨w.heap.size+1,1,none⟩) (by simp) (.slice A8 l8 c8)).setCell (p:=⟨w.heap.size+1,2,none⟩) (by simp) (.slice B8 m8 d8))
  clear P1 P2 J4 J5 J6 G8 L8 Hbp
  go_wp2
  go_meet
  exact ⟨_,_,_,_,_,_,_,_,_,_,_,_,_,_,Q1.out,Q2.out,Q4.out,Q5.out,Q6.out,Qb.out⟩
 case rest =>
  obtain ⟨n1,A1,l1,c1,B1,m1,d1,n2,A2,l2,c2,B2,m2,d2,r1,r2,i4,i5,i6,hb⟩:=hcut
  clear R1 R2 I4 I5 I6 Hb
  have R1:=Lh r1
  have R2:=Lh r2
  have I4:=Lh i4
  have I5:=Lh i5
  have I6:=Lh i6
  have Hb:=Lh hb
  have p0:=r1.c2
  have q0:=r2.c2
  have ltA:=r1.lt
  have ltB:=r2.lt
  have ltI:=i6.lt
  have nn1:wc.heap.size≠w.heap.size:=by omega
  have nn2:wc.heap.size≠w.heap.size+1:=by omega
  have nn3:wc.heap.size+1≠w.heap.size:=by omega
  have nn4:wc.heap.size+1≠w.heap.size+1:=by omega
  clear r1 r2 i4 i5 i6 hb
  go_wp2_with fail
  go_cut [7,8] (fun s7 s8 wx=>Two wc (a:Int) (b:Int) s7 s8 wx)
  case first =>
   go_region_held3 (fun w'=>w'.cell? ⟨w.heap.size,2,none⟩=some (.slice B1 m1 d1)/\w'.cell? ⟨w.heap.size+1,2,none⟩=some (.slice B2 m2 d2)) (go_keep) (first
    | (go_at_call_of 72 (Value.slice B1 m1 d1);go_must (refine (acG _ _ _ _ _ _ ?_ fa.smn).mono ?_;(exact R1.out.hq.at_.below Bel.go);rintro e w8 ⟨n8,A8,l8,c8,rfl,h8,hb8⟩;rw[abA] at h8;have H8:=Lh h8;have Hb8:Hid (Below wc.heap.size wc w8):=Lh (Below.trans Bel.go (hb8.mono (by simp<;>omega)));have zy:=hb8.size;(try simp only[World.size_alloc,World.size_drew] at zy);have v8:w8.heap.size≠w.heap.size:=(by omega);have v9:w8.heap.size≠w.heap.size+1:=(by omega);have v10:w8.heap.size+1≠w.heap.size:=(by omega);have v11:w8.heap.size+1≠w.heap.size+1:=(by omega);obtain ⟨hcx,hfx⟩:=aao hb8;have v0:w8.cell? ⟨w.heap.size,2,none⟩=some (.slice B1 m1 d1):=(hcx _ (by go_simp)).trans (by go_simp);have v1:w8.cell? ⟨w.heap.size+1,2,none⟩=some (.slice B2 m2 d2):=(hcx _ (by go_simp)).trans (by go_simp);(try (have cpa:World.cell? w8 ⟨wc.heap.size,0,none⟩=some (.bool false):=?_;rotate_left;(focus (refine (hcx _ ?_).trans ?_<;>(go_simp;done)));have cpb:World.cell? w8 ⟨wc.heap.size,1,none⟩=some (.slice none 0 0):=?_;rotate_left;(focus (refine (hcx _ ?_).trans ?_<;>(go_simp;done)));have cpc:World.frozen? w8 ⟨wc.heap.size,0,none⟩=false:=?_;rotate_left;(focus (refine (hfx _ ?_).trans ?_<;>(go_simp;done)));have cpd:World.frozen? w8 ⟨wc.heap.size,1,none⟩=false:=?_;rotate_left;(focus (refine (hfx _ ?_).trans ?_<;>(go_simp;done)));have cpe:wc.heap.size<w8.heap.size:=(by omega);have cpn:=Lh (Nbx.mk cpa cpb cpc cpd cpe)));(try (have cqa:World.cell? w8 ⟨wc.heap.size+1,0,none⟩=some (.bool false):=?_;rotate_left;(focus (refine (hcx _ ?_).trans ?_<;>(go_simp;done)));have cqb:World.cell? w8 ⟨wc.heap.size+1,1,none⟩=some (.slice none 0 0):=?_;rotate_left;(focus (refine (hcx _ ?_).trans ?_<;>(go_simp;done)));have cqc:World.frozen? w8 ⟨wc.heap.size+1,0,none⟩=false:=?_;rotate_left;(focus (refine (hfx _ ?_).trans ?_<;>(go_simp;done)));have cqd:World.frozen? w8 ⟨wc.heap.size+1,1,none⟩=false:=?_;rotate_left;(focus (refine (hfx _ ?_).trans ?_<;>(go_simp;done)));have cqe:wc.heap.size+1<w8.heap.size:=(by omega);have cqn:=Lh (Nbx.mk cqa cqb cqc cqd cqe)));clear h8 hcx hfx hb8))
    | (go_at_call_of 72 (Value.slice B2 m2 d2);go_must (refine (acG _ _ _ _ _ _ ?_ fb.smn).mono ?_;(exact (R2.out.move Hb8.out).hq.at_.below Bel.go);rintro e w9 ⟨n9,A9,l9,c9,rfl,h9,hb9⟩;rw[abA] at h9;have H8':=Lh (H8.out.below (Below.trans Bel.go (hb9.mono (by simp<;>omega))));have H9:=Lh h9;have Hb9:Hid (Below wc.heap.size wc w9):=Lh (Hb8.out.trans ((Below.trans Bel.go (hb9.mono (by simp<;>omega))).mono Hb8.out.size));have zz:=hb9.size;(try simp only[World.size_alloc] at zz);have v18:w9.heap.size≠w.heap.size:=(by omega);have v19:w9.heap.size≠w.heap.size+1:=(by omega);have v20:w9.heap.size+1≠w.heap.size:=(by omega);have v21:w9.heap.size+1≠w.heap.size+1:=(by omega);obtain ⟨hcx,hfx⟩:=aao hb9;have u0:w9.cell? ⟨w.heap.size,2,none⟩=some (.slice B1 m1 d1):=(hcx _ (by go_simp)).trans (by go_simp);have u1:w9.cell? ⟨w.heap.size+1,2,none⟩=some (.slice B2 m2 d2):=(hcx _ (by go_simp)).trans (by go_simp);(try (have cra:World.cell? w9 ⟨wc.heap.size,0,none⟩=some (.bool false):=?_;rotate_left;(focus (refine (hcx _ ?_).trans ?_<;>(go_simp;done)));have crb:World.cell? w9 ⟨wc.heap.size,1,none⟩=some (.slice none 0 0):=?_;rotate_left;(focus (refine (hcx _ ?_).trans ?_<;>(go_simp;done)));have crc:World.frozen? w9 ⟨wc.heap.size,0,none⟩=false:=?_;rotate_left;(focus (refine (hfx _ ?_).trans ?_<;>(go_simp;done)));have crd:World.frozen? w9 ⟨wc.heap.size,1,none⟩=false:=?_;rotate_left;(focus (refine (hfx _ ?_).trans ?_<;>(go_simp;done)));have cre:wc.heap.size<w9.heap.size:=(by omega);have crn:=Lh (Nbx.mk cra crb crc crd cre)));(try (have csa:World.cell? w9 ⟨wc.heap.size+1,0,none⟩=some (.bool false):=?_;rotate_left;(focus (refine (hcx _ ?_).trans ?_<;>(go_simp;done)));have csb:World.cell? w9 ⟨wc.heap.size+1,1,none⟩=some (.slice none 0 0):=?_;rotate_left;(focus (refine (hcx _ ?_).trans ?_<;>(go_simp;done)));have csc:World.frozen? w9 ⟨wc.heap.size+1,0,none⟩=false:=?_;rotate_left;(focus (refine (hfx _ ?_).trans ?_<;>(go_simp;done)));have csd:World.frozen? w9 ⟨wc.heap.size+1,1,none⟩=false:=?_;rotate_left;(focus (refine (hfx _ ?_).trans ?_<;>(go_simp;done)));have cse:wc.heap.size+1<w9.heap.size:=(by omega);have csn:=Lh (Nbx.mk csa csb csc csd cse)));(try (have cta:World.cell? w9 ⟨w8.heap.size,0,none⟩=some (.bool false):=?_;rotate_left;(focus (refine (hcx _ ?_).trans ?_<;>(go_simp;done)));have ctb:World.cell? w9 ⟨w8.heap.size,1,none⟩=some (.slice none 0 0):=?_;rotate_left;(focus (refine (hcx _ ?_).trans ?_<;>(go_simp;done)));have ctc:World.frozen? w9 ⟨w8.heap.size,0,none⟩=false:=?_;rotate_left;(focus (refine (hfx _ ?_).trans ?_<;>(go_simp;done)));have ctd:World.frozen? w9 ⟨w8.heap.size,1,none⟩=false:=?_;rotate_left;(focus (refine (hfx _ ?_).trans ?_<;>(go_simp;done)));have cte:w8.heap.size<w9.heap.size:=(by omega);have ctn:=Lh (Nbx.mk cta ctb ctc ctd cte)));(try (have cua:World.cell? w9 ⟨w8.heap.size+1,0,none⟩=some (.bool false):=?_;rotate_left;(focus (refine (hcx _ ?_).trans ?_<;>(go_simp;done)));have cub:World.cell? w9 ⟨w8.heap.size+1,1,none⟩=some (.slice none 0 0):=?_;rotate_left;(focus (refine (hcx _ ?_).trans ?_<;>(go_simp;done)));have cuc:World.frozen? w9 ⟨w8.heap.size+1,0,none⟩=false:=?_;rotate_left;(focus (refine (hfx _ ?_).trans ?_<;>(go_simp;done)));have cud:World.frozen? w9 ⟨w8.heap.size+1,1,none⟩=false:=?_;rotate_left;(focus (refine (hfx _ ?_).trans ?_<;>(go_simp;done)));have cue:w8.heap.size+1<w9.heap.size:=(by omega);have cun:=Lh (Nbx.mk cua cub cuc cud cue)));clear h9 hcx hfx hb9)))
   all_goals go_wp2_with fail
   all_goals go_meet
   all_goals (rename_i hHeld;clear hHeld R1 R2 I4 I5 I6 Hb H8 Hb8)
   all_goals (first | exact atq H8'.out H9.out Hb9.out | exact avo H8'.out H9.out Hb9.out | (refine atr ?_ H8'.out H9.out Hb9.out (by omega);exact Hid.out (by assumption)) | (refine avp ?_ H8'.out H9.out Hb9.out (by omega);exact Hid.out (by assumption)) | (refine avq ?_ ?_ (by omega) H8'.out H9.out Hb9.out (by omega) (by omega)<;>exact Hid.out (by assumption)))
  case rest =>
   obtain ⟨g7,n7,A7,l7,c7,g8,n8,A8,l8,c8,rfl,rfl,aAA,hg7,hg8,h7,h8,hb8⟩:=hcut
   replace R1:=Lh (R1.out.move hb8)
   replace R2:=Lh (R2.out.move hb8)
   replace I4:=Lh (I4.out.move hb8)
   replace I5:=Lh (I5.out.move hb8)
   replace I6:=Lh (I6.out.move hb8)
   replace Hb:=Lh (Hb.out.trans (hb8.mono Hb.out.size))
   have I7:=Lh h7
   have I8:=Lh h8
   clear h7 h8 hb8 p0 q0
   have x0:=I7.out.c0
   have x1:=I7.out.c1
   have y0:=I8.out.c0
   have y1:=I8.out.c1
   go_wp2_with fail
   refine (att _ _ _ _ _ _ _ _ _ _ _ I7.out.hz I8.out.hz na0 nb0 fa fb).mono ?_
   rintro e w9 ⟨n9,A9,l9,c9,rfl,h9,hb9⟩
   rw[HC.out] at h9
   replace R1:=Lh (R1.out.move hb9)
   replace R2:=Lh (R2.out.move hb9)
   replace I4:=Lh (I4.out.move hb9)
   replace I5:=Lh (I5.out.move hb9)
   replace I6:=Lh (I6.out.move hb9)
   replace I7:=Lh (I7.out.move hb9)
   replace I8:=Lh (I8.out.move hb9)
   replace Hb:=Lh (Hb.out.trans (hb9.mono Hb.out.size))
   have v0:=I6.out.c0
   have v1:=I6.out.c1
   have v2:=I6.out.f0
   have v3:=I6.out.f1
   have H9:=Lh h9
   clear h9 hb9 x0 x1 y0 y1
   have x0:=I7.out.c0
   have x1:=I7.out.c1
   have y0:=I8.out.c0
   have y1:=I8.out.c1
   have ng7:w.heap.size+1+1+1+1≠g7:=by omega
   have ng8:w.heap.size+1+1+1+1≠g8:=by omega
   have azH:g7≠w.heap.size+1+1+1+1:=by omega
   have azI:g8≠w.heap.size+1+1+1+1:=by omega
   have S1:=R1.out.atg I6.out (by omega) (.bool n9) (.slice A9 l9 c9)
   have S2:=R2.out.atg I6.out (by omega) (.bool n9) (.slice A9 l9 c9)
   have J4:=I4.out.far I6.out (by omega) (.bool n9) (.slice A9 l9 c9)
   have J5:=I5.out.far I6.out (by omega) (.bool n9) (.slice A9 l9 c9)
   have J7:=I7.out.far I6.out azH (.bool n9) (.slice A9 l9 c9)
   have J8:=I8.out.far I6.out azI (.bool n9) (.slice A9 l9 c9)
   have J6:=I6.out.put H9.out
   have Jb:=(Hb.out.setCell (p:=⟨w.heap.size+1+1+1+1,0,none⟩) (by simp;omega) (.bool n9)).setCell (p:=⟨w.heap.size+1+1+1+1,1,none⟩) (by simp;omega) (.slice A9 l9 c9)
   have HS1:=Lh S1
   have HS2:=Lh S2
   have HJ4:=Lh J4
   have HJ5:=Lh J5
   have HJ6:=Lh J6
   have HJ7:=Lh J7
   have HJ8:=Lh J8
   have HJb:=Lh Jb
   clear S1 S2 J4 J5 J6 J7 J8 Jb R1 R2 I4 I5 I6 I7 I8 Hb H9
   go_wp2_with fail
   refine (aeT _ _ _ _ _ _ _ _ _ _ _ HJ6.out.hz.at_ HJ7.out.hz.at_ fD.sm fa.sm na0 Ta.out).mono ?_
   rintro e w10 ⟨n10,A10,l10,c10,rfl,h10,abN⟩
   rw[<- HU.out] at h10
   have hbn:=aak w10 (aap n10 A10 l10 c10)
   have af8:=abN.trans (hbn.mono abN.size)
   have R1:=Lh (HS1.out.move af8)
   have R2:=Lh (HS2.out.move af8)
   have I4:=Lh (HJ4.out.move af8)
   have I5:=Lh (HJ5.out.move af8)
   have I6:=Lh (HJ6.out.move af8)
   have I8:=Lh (HJ8.out.move af8)
   have I9:=Lh (aaK.make h10)
   have Hb:=Lh (HJb.out.trans (af8.mono HJb.out.size))
   have azJ:w.heap.size+1+1+1+1<w10.heap.size:=(HJ6.out.move abN).lt
   clear HS1 HS2 HJ4 HJ5 HJ6 HJ7 HJ8 HJb h10 abN hbn af8 v0 v1 v2 v3 x0 x1 y0 y1
   have v0:=I6.out.c0
   have v1:=I6.out.c1
   have y0:=I8.out.c0
   have y1:=I8.out.c1
   go_wp2_with fail
   refine (aeT _ _ _ _ _ _ _ _ _ _ _ I6.out.hz.at_ I8.out.hz.at_ fD.sm fb.sm nb0 Tb.out).mono ?_
   rintro e w11 ⟨n11,A11,l11,c11,rfl,h11,abN⟩
   rw[<- HV.out] at h11
   have hbn:=aak w11 (aap n11 A11 l11 c11)
   have af8:=abN.trans (hbn.mono abN.size)
   replace R1:=Lh (R1.out.move af8)
   replace R2:=Lh (R2.out.move af8)
   replace I4:=Lh (I4.out.move af8)
   replace I5:=Lh (I5.out.move af8)
   replace I6:=Lh (I6.out.move af8)
   replace I9:=Lh (I9.out.move af8)
   have I11:=Lh (aaK.make h11)
   replace Hb:=Lh (Hb.out.trans (af8.mono Hb.out.size))
   have aAB:w10.heap.size<w11.heap.size:=by have:=abN.size;simp only[World.size_alloc] at this;omega
   clear h11 abN hbn af8 v0 v1 y0 y1 I8
   obtain ⟨wk,hwk⟩:∃ wk,wk=w11.alloc (aap n11 A11 l11 c11):=⟨_,rfl⟩
   have a0:=R1.out.c0
   have a1:=R1.out.c1
   have b0:=R2.out.c0
   have b1:=R2.out.c1
   have d0:=I6.out.c0
   have d1:=I6.out.c1
   have e0:=I9.out.c0
   have e1:=I9.out.c1
   have h0:=I11.out.c0
   have h1:=I11.out.c1
   go_wp2_with fail
   rw[<- hwk] at R1 R2 I4 I5 I6 I9 I11 Hb a0 a1 b0 b1 d0 d1 e0 e1 h0 h1 ⊢
   have ltw:w11.heap.size<wk.heap.size:=I11.out.lt
   clear hwk
   have y0:w.heap.size+1+1≠w.heap.size:=by omega
   have y1:w.heap.size+1+1≠w.heap.size+1:=by omega
   have y2:w.heap.size+1+1≠w.heap.size+1+1+1+1:=by omega
   have y3:w.heap.size+1+1+1≠w.heap.size:=by omega
   have y4:w.heap.size+1+1+1≠w.heap.size+1:=by omega
   have y5:w.heap.size+1+1+1≠w.heap.size+1+1+1+1:=by omega
   have y6:w.heap.size+1+1+1+1≠w.heap.size:=by omega
   have y7:w.heap.size+1+1+1+1≠w.heap.size+1:=by omega
   have x1:w.heap.size+1+1≠w10.heap.size:=by omega
   have x2:w.heap.size+1+1≠w11.heap.size:=by omega
   have x3:w.heap.size+1+1+1≠w10.heap.size:=by omega
   have x4:w.heap.size+1+1+1≠w11.heap.size:=by omega
   have x5:w.heap.size+1+1+1+1≠w10.heap.size:=by omega
   have x6:w.heap.size+1+1+1+1≠w11.heap.size:=by omega
   refine wp_region_held_drew (S:=fun w'=>w'.cell? ⟨w.heap.size,0,none⟩=some (.bool n1)/\w'.cell? ⟨w.heap.size,1,none⟩=some (.slice A1 l1 c1)/\w'.cell? ⟨w.heap.size+1,0,none⟩=some (.bool n2)/\w'.cell? ⟨w.heap.size+1,1,none⟩=some (.slice A2 l2 c2)/\w'.cell? ⟨w10.heap.size,0,none⟩=some (.bool n10)/\w'.cell? ⟨w10.heap.size,1,none⟩=some (.slice A10 l10 c10)/\w'.cell? ⟨w11.heap.size,0,none⟩=some (.bool n11)/\w'.cell? ⟨w11.heap.size,1,none⟩=some (.slice A11 l11 c11)/\w'.cell? ⟨w.heap.size+1+1+1+1,0,none⟩=some (.bool n9)/\w'.cell? ⟨w.heap.size+1+1+1+1,1,none⟩=some (.slice A9 l9 c9)) (by kernel_rfl) (by (try dsimp only);go_keep) (fun hHeld=>?_)
   (refine tq 0 ?_;simp only[aac,List.set])
   (refine tq 1 ?_;simp only[aac,List.set])
   (refine tq 2 ?_;simp only[aac,List.set])
   (refine tq 4 ?_;simp only[aac,List.set])
   (refine tq 5 ?_;simp only[aac,List.set])
   (refine tq 6 ?_;simp only[aac,List.set])
   (refine tq 8 ?_;simp only[aac,List.set])
   refine rdy 3 (fun K hK=>?_);go_simp
   refine (aa7 _ _ _ _ _ _ _ _ _ _ _ (R1.out.hz.at_.below Bel.go) (I9.out.hz.at_.below Bel.go) f1.sm fU.sm (f1.adq _)).mono ?_
   rintro e w12 ⟨n12,A12,l12,c12,rfl,h12,abI⟩
   obtain ⟨hcx,hfx⟩:=aao abI
   replace R2:=Lh (R2.out.move (Below.trans Bel.go (abI.mono (by simp<;>omega))))
   replace I4:=Lh (I4.out.move (Below.trans Bel.go (abI.mono (by simp<;>omega))))
   replace I5:=Lh (I5.out.move (Below.trans Bel.go (abI.mono (by simp<;>omega))))
   replace I6:=Lh (I6.out.move (Below.trans Bel.go (abI.mono (by simp<;>omega))))
   replace I11:=Lh (I11.out.move (Below.trans Bel.go (abI.mono (by simp<;>omega))))
   replace Hb:=Lh (Hb.out.trans ((Below.trans Bel.go (abI.mono (by simp<;>omega))).mono Hb.out.size))
   have H12:=Lh h12
   refine hK.out _ _ ?_ (fun _=>?_)
   ·((try dsimp only);repeat' apply And.intro)<;>(rw[hcx _ (by go_simp)];go_simp)
   clear hHeld hK K hcx hfx;rename_i hHeld
   clear h12 abI R1 I9
   refine rdy 7 (fun K hK=>?_);go_simp
   refine (aa7 _ _ _ _ _ _ _ _ _ _ _ (R2.out.hz.at_.below Bel.go) (I11.out.hz.at_.below Bel.go) f2.sm fV.sm (f2.adq _)).mono ?_
   rintro e w13 ⟨n13,A13,l13,c13,rfl,h13,abI⟩
   obtain ⟨hcx,hfx⟩:=aao abI
   replace I4:=Lh (I4.out.move (Below.trans Bel.go (abI.mono (by simp<;>omega))))
   replace I5:=Lh (I5.out.move (Below.trans Bel.go (abI.mono (by simp<;>omega))))
   replace I6:=Lh (I6.out.move (Below.trans Bel.go (abI.mono (by simp<;>omega))))
   replace Hb:=Lh (Hb.out.trans ((Below.trans Bel.go (abI.mono (by simp<;>omega))).mono Hb.out.size))
   replace H12:=Lh (H12.out.below (Below.trans Bel.go (abI.mono (by simp<;>omega))))
   have H13:=Lh h13
   refine hK.out _ _ ?_ (fun _=>?_)
   ·((try dsimp only);repeat' apply And.intro)<;>(rw[hcx _ (by go_simp)];go_simp)
   clear hHeld hK K hcx hfx;rename_i hHeld
   clear h13 abI R2 I11 a0 a1 b0 b1 d0 d1 e0 e1 h0 h1
   have p0:=I4.out.c0
   have p1:=I4.out.c1
   have p2:=I4.out.f0
   have p3:=I4.out.f1
   refine rdy 9 (fun K hK=>?_);go_simp
   refine hK.out _ _ ?_ (fun _=>?_)
   ·(try dsimp only);go_keep
   clear hHeld hK K
   rename_i hHeld
   have F4:aaK ((w13.setCell ⟨w.heap.size+1+1,0,none⟩ (.bool n12)).setCell ⟨w.heap.size+1+1,1,none⟩ (.slice A12 l12 c12)) (w.heap.size+1+1) n12 A12 l12 c12 (z1*U):=I4.out.put H12.out
   have F5:=I5.out.far I4.out (by omega) (.bool n12) (.slice A12 l12 c12)
   have F6:=I6.out.far I4.out (by omega) (.bool n12) (.slice A12 l12 c12)
   have G13:=H13.out.ret (.bool n12) (.slice A12 l12 c12) p0 p1
   have Fb:=(Hb.out.setCell (p:=⟨w.heap.size+1+1,0,none⟩) (by simp;omega) (.bool n12)).setCell (p:=⟨w.heap.size+1+1,1,none⟩) (by simp;omega) (.slice A12 l12 c12)
   obtain ⟨wp,hwp⟩:∃ wp,wp=(w13.setCell ⟨w.heap.size+1+1,0,none⟩ (.bool n12)).setCell ⟨w.heap.size+1+1,1,none⟩ (.slice A12 l12 c12):=⟨_,rfl⟩
   (try simp only[aac,List.set])
   rw[<- hwp] at F4 F5 F6 G13 Fb hHeld
   rw[<- hwp]
   clear hwp p0 p1 p2 p3 I4 I5 I6 H12 H13 Hb
   have p0:=F5.c0
   have p1:=F5.c1
   have p2:=F5.f0
   have p3:=F5.f1
   have K4:=Lh F4
   have K5:=Lh F5
   have K6:=Lh F6
   have K13:=Lh G13
   have Kb:=Lh Fb
   clear F4 F5 F6 G13 Fb
   refine rdy 10 (fun K hK=>?_);go_simp
   refine hK.out _ _ ?_ (fun _=>?_)
   ·(try dsimp only);go_keep
   clear hHeld hK K
   rename_i hHeld
   have F5:aaK ((wp.setCell ⟨w.heap.size+1+1+1,0,none⟩ (.bool n13)).setCell ⟨w.heap.size+1+1+1,1,none⟩ (.slice A13 l13 c13)) (w.heap.size+1+1+1) n13 A13 l13 c13 (z2*V):=K5.out.put K13.out
   have F4:=K4.out.far K5.out (by omega) (.bool n13) (.slice A13 l13 c13)
   have F6:=K6.out.far K5.out (by omega) (.bool n13) (.slice A13 l13 c13)
   have Fb:=(Kb.out.setCell (p:=⟨w.heap.size+1+1+1,0,none⟩) (by simp;omega) (.bool n13)).setCell (p:=⟨w.heap.size+1+1+1,1,none⟩) (by simp;omega) (.slice A13 l13 c13)
   obtain ⟨wq,hwq⟩:∃ wq,wq=(wp.setCell ⟨w.heap.size+1+1+1,0,none⟩ (.bool n13)).setCell ⟨w.heap.size+1+1+1,1,none⟩ (.slice A13 l13 c13):=⟨_,rfl⟩
   (try simp only[aac,List.set])
   rw[<- hwq] at F4 F5 F6 Fb hHeld
   rw[<- hwq]
   clear hwq p0 p1 p2 p3 K4 K5 K6 K13 Kb
   have p0:=F6.c0
   have p1:=F6.c1
   have p2:=F6.f0
   have p3:=F6.f1
   have K4:=Lh F4
   have K5:=Lh F5
   have K6:=Lh F6
   have Kb:=Lh Fb
   clear F4 F5 F6 Fb
   refine rdy 11 (fun K hK=>?_);go_simp
   refine hK.out _ _ ?_ (fun _=>?_)
   ·(try dsimp only);go_keep;exact ⟨(K6.out.put K6.out.hz).c0,(K6.out.put K6.out.hz).c1⟩
   clear hHeld hK K
   have F6:aaK ((wq.setCell ⟨w.heap.size+1+1+1+1,0,none⟩ (.bool n9)).setCell ⟨w.heap.size+1+1+1+1,1,none⟩ (.slice A9 l9 c9)) (w.heap.size+1+1+1+1) n9 A9 l9 c9 D:=K6.out.put K6.out.hz
   have F4:=K4.out.far K6.out (by omega) (.bool n9) (.slice A9 l9 c9)
   have F5:=K5.out.far K6.out (by omega) (.bool n9) (.slice A9 l9 c9)
   have Fb:=(Kb.out.setCell (p:=⟨w.heap.size+1+1+1+1,0,none⟩) (by simp;omega) (.bool n9)).setCell (p:=⟨w.heap.size+1+1+1+1,1,none⟩) (by simp;omega) (.slice A9 l9 c9)
   obtain ⟨wr,hwr⟩:∃ wr,wr=(wq.setCell ⟨w.heap.size+1+1+1+1,0,none⟩ (.bool n9)).setCell ⟨w.heap.size+1+1+1+1,1,none⟩ (.slice A9 l9 c9):=⟨_,rfl⟩
   rw[<- hwr] at F4 F5 F6 Fb
   rw[<- hwr]
   clear hwr p0 p1 p2 p3 K4 K5 K6 Kb
   have r0:=F4.c0
   have r1:=F4.c1
   have r2:=F5.c0
   have r3:=F5.c1
   have r4:=F6.c0
   have r5:=F6.c1
   have K4:=Lh F4
   have K5:=Lh F5
   have K6:=Lh F6
   have Kb:=Lh Fb
   clear F4 F5 F6 Fb
   refine wpAnyH_done (by kernel_rfl) ?_ _
   go_wp2
   refine bodyPost_ret (v:=.tuple #[.agg #[.bool n12,.slice A12 l12 c12],.agg #[.bool n13,.slice A13 l13 c13],.agg #[.bool n9,.slice A9 l9 c9]]) (by simp[results,Tryz.results119,go_sem,r0,r1,r2,r3,r4,r5]) rfl ⟨_,_,_,_,_,_,_,_,_,_,_,_,rfl,K4.out.hz,K5.out.hz,K6.out.hz,Kb.out⟩
end Go.Proofs.YtkefcldcfeolbaaGreat
namespace Go.Proofs.YtkefcldcfeolbaaGreat
open Go.RowKit
set_option maxRecDepth 100000 in
set_option maxHeartbeats 1000000 in
theorem anP {I J:aas} (hI:IK I) (hJ:IK J) (A:Option Addr) (la ca:Nat) (f:List Int) (B:Option Addr) (lb cb:Nat) (g:List Int) (w:World) (hf:aar I w A la ca f) (hg:aar J w B lb cb g) (ff:abw f) (fg:abw g) (hma:la<=400000000) (hmb:lb<=400000000) :
 Calls Tryz.prog 29 #[.slice A la ca,.slice B lb cb] w fun e w'=>∃ A' l' c',e=.returned (.slice A' l' c')/\aaB w' A' l' c' (aag (aaf f) (aaf g))/\(l'=0∨∃ r,A'=some ⟨r,0,none⟩/\w.heap.size<=r)/\Below w.heap.size w w':=by
 have hpf:aad f<=400000000:=by have:=aat f;have:=hf.length;omega
 have hpg:aad g<=400000000:=by have:=aat g;have:=hg.length;omega
 have auT:∀ {q:List Int},abw q->abw (aaf q):=fun {q} h k=>by
  rcases Nat.lt_or_ge k (aad q) with h1 | h1
  ·rw[aaf,adi q h1];exact h k
  ·rw[aaF _ (by rw[aae];exact h1)];unfold Fit;exact Nat.pow_pos aaI
 have ff2:=auT ff
 have fg2:=auT fg
 go_enter Tryz.func29,Tryz.ntmps29
 go_wp2_with fail
 refine (abC hI _ _ _ _ _ hf ff.smp (by omega)).mono ?_
 rintro e w1 ⟨l1,rfl,h1,hl1,hb1⟩
 have hg1:=hg.below hJ hb1
 have Hb1:=Lh hb1
 have H1:=Lh h1
 have Hl1:=Lh hl1
 have b1:l1<=400000000:=by omega
 clear hf hg hb1 h1 hl1
 go_wp2_with fail
 refine (abC hJ _ _ _ _ _ hg1 fg.smp (by omega)).mono ?_
 rintro e w2 ⟨l2,rfl,h2,hl2,hb2⟩
 have h12:=H1.out.below hI hb2
 have Hb2:=Lh (Hb1.out.trans (hb2.mono Hb1.out.size))
 have Hl2:=Lh hl2
 have b2:l2<=400000000:=by omega
 have E1:=Lh (aae f)
 have E2:=Lh (aae g)
 clear hb2 hg1 H1 Hb1 hl2
 by_cases h0:l1=0∨l2=0
 ·have hp:aag (aaf f) (aaf g)=[]:=by
   unfold aag
   rw[if_pos]
   rcases h0 with h0 | h0
   ·exact .inl (List.eq_nil_of_length_eq_zero (by rw[E1.out,<- Hl1.out];exact h0))
   ·exact .inr (List.eq_nil_of_length_eq_zero (by rw[E2.out,<- Hl2.out];exact h0))
  have Hp:=Lh hp
  have H0:=Lh h0
  clear hp h0
  go_wp2_with fail
  refine (agG _ _ _ _ _ _ _ H0.out b1 b2).mono ?_
  rintro e w3 ⟨rfl,hb3⟩
  have Hb3:=Lh (Hb2.out.trans (hb3.mono Hb2.out.size))
  clear h12 h2 hb3
  go_wp2
  go_ret
  exact ⟨_,_,_,rfl,by rw[Hp.out];exact aar.nil _ _ _ _,.inl rfl,Hb3.out⟩
 ·have hp:aag (aaf f) (aaf g)=ajY (aaf f) (aaf g):=by
   unfold aag
   rw[if_neg]
   rintro (e | e)
   ·have:=E1.out;rw[e] at this;have:=Hl1.out;simp at *;omega
   ·have:=E2.out;rw[e] at this;have:=Hl2.out;simp at *;omega
  have hlp:=ab8 (aaf f) (aaf g)
  rw[E1.out,E2.out,<- Hl1.out,<- Hl2.out] at hlp
  have Hp:=Lh hp
  have Hlp:=Lh hlp
  have q1:0<l1:=by omega
  have q2:0<l2:=by omega
  clear hp h0 hlp
  go_wp2_with fail
  refine (agF hI hJ _ _ _ _ _ _ _ _ _ h12 h2 ff2 fg2 q1 q2 b1 b2).mono ?_
  rintro e w3 ⟨r,rfl,hr,hle,hb3⟩
  have Hb3:=Lh (Hb2.out.trans (hb3.mono Hb2.out.size))
  have hpo:=hr.poly (cap:=l1+l2-1) (by rw[Hlp.out];exact Nat.le_refl _)
  rw[Hlp.out] at hpo
  have Hpo:=Lh hpo
  have hle2:w.heap.size<=r:=Nat.le_trans Hb2.out.size hle
  clear h12 h2 hb3 hr hle hpo
  go_wp2
  go_ret
  exact ⟨_,_,_,rfl,by rw[Hp.out];exact Hpo.out,.inr ⟨r,rfl,hle2⟩,Hb3.out⟩
set_option maxHeartbeats 1000000 in
theorem anQ {I J:aas} (hI:IK I) (hJ:IK J) (A:Option Addr) (la ca:Nat) (f:List Int) (B:Option Addr) (lb cb:Nat) (g:List Int) (w:World) (hf:aar I w A la ca f) (hg:aar J w B lb cb g) (sf:SmP f) (sg:SmP g) (ss:∀ k,Sm ((f.getD k 0).natAbs+(g.getD k 0).natAbs)) (hma:la<=1000000000) (hmb:lb<=1000000000) :
 Calls Tryz.prog 120 #[.slice A la ca,.slice B lb cb] w fun e w'=>∃ A' l' c',e=.returned (.slice A' l' c')/\aaB w' A' l' c' (aaf (ac4 f g))/\(l'=0∨∃ r,A'=some ⟨r,0,none⟩/\w.heap.size<=r)/\Below w.heap.size w w':=by
 have hlen:(ac4 f g).length=max la lb:=by rw[adY,hf.length,hg.length]
 have Hlen:=Lh hlen
 have Hss:=Lh ss
 clear hlen
 go_enter Tryz.func120,Tryz.ntmps120
 go_wp2_with fail
 refine (akZ hI hJ _ _ _ _ _ _ _ _ _ hf hg sf sg ss hma hmb).mono ?_
 rintro e w1 ⟨r,n,rfl,hn,hrow,hr,hb1⟩
 have hp:=hrow.poly (cap:=n) (by rw[Hlen.out,hn];exact Nat.le_refl _)
 rw[Hlen.out,<- hn] at hp
 have Hb1:=Lh hb1
 have hnb:n<=1000000000:=by omega
 have hsr:SmP (ac4 f g):=fun c hc=>by
  obtain ⟨k,hk⟩:=List.getElem?_of_mem hc
  have e1:(ac4 f g).getD k 0=c:=by rw[List.getD_eq_getElem?_getD,hk];rfl
  rw[abl] at e1
  rw[<- e1]
  exact (Hss.out k).mono (Int.natAbs_add_le _ _)
 have hr2:=hr
 clear hrow hb1 hr hn ss hf hg
 go_wp2_with fail
 refine (abC ikN _ _ _ _ _ hp hsr (by omega)).mono ?_
 rintro e w2 ⟨l2,rfl,h2,-,hb2⟩
 have H2:=Lh h2
 have Hb2:=Lh (Hb1.out.trans (hb2.mono Hb1.out.size))
 clear hp h2 hb2
 go_wp2
 go_ret
 exact ⟨_,_,_,rfl,H2.out,.inr ⟨r,rfl,hr2⟩,Hb2.out⟩
structure adv (g:Nat) (w:World) (A:Option Addr) (l c:Nat) (p:List Int):Prop where
 n:aaB w A l c p
 off:l=0∨∃ b o,A=some ⟨b,o,none⟩/\b≠g
section
variable {g:Nat} {w w':World} {A:Option Addr} {l c:Nat} {p:List Int}
theorem adv.old (h:aaB w A l c p) (hg:w.heap.size<=g):adv g w A l c p:=by
 refine ⟨h,?_⟩
 rcases h.elems with h0 | ⟨b,o,hA,hlt,_⟩
 ·exact .inl h0
 ·exact .inr ⟨b,o,hA,by omega⟩
theorem adv.fresh {B:Nat} (h:aaB w A l c p) (hf:l=0∨∃ r,A=some ⟨r,0,none⟩/\B<=r) (hg:g<B):adv g w A l c p :=
 ⟨h,hf.imp id (fun ⟨r,hA,hr⟩=>⟨r,0,hA,by omega⟩)⟩
theorem adv.below (h:adv g w A l c p) (hb:Below w.heap.size w w'):adv g w' A l c p:=⟨h.n.below ikN hb,h.off⟩
theorem adv.put {n n':Bool} {A1 A2:Option Addr} {l1 c1 l2 c2:Nat} {z:Int} (h:adv g w A l c p) (hr:aaK w g n A1 l1 c1 z):adv g (adp w g n' A2 l2 c2) A l c p:=by
 refine ⟨⟨h.n.length,h.n.cap,?_⟩,h.off⟩
 rcases h.n.elems with h0 | ⟨b,o,hA,hlt,he⟩
 ·exact .inl h0
 ·rcases h.off with h0 | ⟨b',o',hA',hne⟩
  ·exact .inl h0
  ·rw[hA] at hA'
   injection hA' with e
   injection e with e1 e2 e3
   subst e1 e2
   refine .inr ⟨b,o,hA,by simpa [adp,World.setCell] using hlt,fun j hj=>?_⟩
   obtain ⟨neg,Aj,lj,cj,h1,h2,h3⟩:=he j hj
   refine ⟨neg,Aj,lj,cj,?_,?_,h3.ret _ _ hr.c0 hr.c1⟩
   ·unfold adp
    rw[World.cell?_setCell_other _ _ _ _ (by intro e;injection e with e _;exact hne e.symm),World.cell?_setCell_other _ _ _ _ (by intro e;injection e with e _;exact hne e.symm)]
    exact h1
   ·unfold adp
    rw[World.cell?_setCell_other _ _ _ _ (by intro e;injection e with e _;exact hne e.symm),World.cell?_setCell_other _ _ _ _ (by intro e;injection e with e _;exact hne e.symm)]
    exact h2
end
end Go.Proofs.YtkefcldcfeolbaaGreat
namespace Go.Proofs.YtkefcldcfeolbaaGreat
open Go.RowKit
def trs (f:List Int) (P Q D:Int):Nat->List Int×List Int×Int
 | 0=>([f.getD (f.length-1) 0],[1],1)
 | k+1 =>
   let s:=trs f P Q D k
   (aaf (ac4 (aag (aaf s.1) (aaf [P,Q])) (aaf (psc (f.getD (f.length-2-k) 0) (aag (aaf s.2.1) (aaf [D,D]))))),aag (aaf s.2.1) (aaf [D,D]),s.2.2*D)
def awe (f:List Int) (P Q D:Int):Prop:=Fit P/\Fit Q/\Fit D/\∀ k,k<f.length->abw (trs f P Q D k).1/\abw (trs f P Q D k).2.1/\Fit (trs f P Q D k).2.2/\(trs f P Q D k).1.length<=900000/\(trs f P Q D k).2.1.length<=900000
theorem akA {w:World} {n n':Bool} {A A':Option Addr} {l c l' c':Nat} {z z':Int} (h:aaA w n A l c z) (h':aaA w n' A' l' c' z'):aaB (w.alloc (.cells #[.bool n,.slice A l c,.bool n',.slice A' l' c'] 36)) (some ⟨w.heap.size,0,none⟩) 2 2 [z,z']:=by
 have hb:=aak w (.cells #[.bool n,.slice A l c,.bool n',.slice A' l' c'] 36)
 refine ⟨rfl,Nat.le_refl _,.inr ⟨w.heap.size,0,rfl,by simp,fun j hj=>?_⟩⟩
 match j,hj with
 | 0,_=>exact ⟨n,A,l,c,by go_simp,by go_simp,h.below hb⟩
 | 1,_=>exact ⟨n',A',l',c',by go_simp,by go_simp,h'.below hb⟩
def axo (g:Nat) (A:Option Addr) (l:Nat):Prop:=l=0∨∃ b o,A=some ⟨b,o,none⟩/\b≠g
theorem aar.elem {w:World} {b o len cap:Nat} {p:List Int} (h:aaB w (some ⟨b,o,none⟩) len cap p) {j:Nat} (hj:j<len):b<w.heap.size/\∃ neg A l c,w.cell? ⟨b,o+j*2,none⟩=some (.bool neg)/\w.cell? ⟨b,o+j*2+1,none⟩=some (.slice A l c)/\aaA w neg A l c (p.getD j 0):=by
 obtain ⟨b',o',e,hb,hc⟩:=h.get (by omega)
 injection e with e
 injection e with e1 e2 e3
 subst e1 e2
 exact ⟨hb,hc j hj⟩
theorem avU {q g p:List Int} {c:Int} (hq:abw q) (hg:abw g) (hl:q.length+g.length<=1000000) (hc:Fit c) (hp:abw p):SmP (aag q g)/\SmP (psc c p)/\SmP (aaf (psc c p))/\∀ k,Sm (((aag q g).getD k 0).natAbs+((aaf (psc c p)).getD k 0).natAbs):=by
 have h1:Bd (1000000*BB^(FW+FW)) (aag q g):=aii hq hg 1000000 hl
 have h2:Bd (BB^(FW+FW)) (psc c p):=fun k=>by
  rw[aaG]
  exact Nat.le_of_lt (hc.mul (hp k))
 have h3:1000000*BB^(FW+FW)<BB^(FW+FW+1):=ac5 (Nat.le_refl _)
 have h4:BB^(FW+FW)<BB^(FW+FW+1):=by have:=ac5 (n:=1) (k:=FW+FW) (by omega);omega
 have h5:FW+FW+2<=1000000000:=by rw[abZ];omega
 refine ⟨h1.smp h3 (by omega),h2.smp h4 (by omega),h2.aaf.smp h4 (by omega),fun k=>adz (k:=FW+FW+2) ?_ h5⟩
 have a1:=h1 k
 have a2:=h2.aaf k
 have a3:2*BB^(FW+FW+1)<BB^(FW+FW+2):=ac5 (by omega)
 omega
set_option maxRecDepth 100000 in
set_option maxHeartbeats 8000000 in
theorem ajC (Af:Option Addr) (lf cf:Nat) (f:List Int) (n:Bool) (A:Option Addr) (l c:Nat) (B:Option Addr) (m d q:Nat) (z:Int) (n':Bool) (A':Option Addr) (l' c':Nat) (B':Option Addr) (m' d' q':Nat) (z':Int) (w:World) (hf:aaB w Af lf cf f) (tf:aad f=f.length) (f1:1<=f.length) (hfm:lf<=1000000) (apZ:abw f)
 (hz:aaA w n A l c z) (hq:aaT w B m d q) (hz':aaA w n' A' l' c' z') (hq':aaT w B' m' d' q') (hu:Fit z) (hv:Fit (q:Int)) (h0:0<q) (hu':Fit z') (hv':Fit (q':Int)) (h0':0<q') (P Q D:Int) (a b:Nat) (ea:a=q / Nat.gcd z.natAbs q) (eb:b=q' / Nat.gcd z'.natAbs q')
 (eD:D=lcd a b) (eP:P=z.tdiv (Nat.gcd z.natAbs q)*(lcd a b).tdiv (a:Int)) (eQ:Q=z'.tdiv (Nat.gcd z'.natAbs q')*(lcd a b).tdiv (b:Int)) (hok:awe f P Q D) :
 Calls Tryz.prog 109 #[.slice Af lf cf,.agg #[.bool n,.slice A l c,.slice B m d],.agg #[.bool n',.slice A' l' c',.slice B' m' d']] w fun e w'=>∃ A1 l1 c1 n2 A2 l2 c2,e=.returned (.tuple #[.slice A1 l1 c1,.agg #[.bool n2,.slice A2 l2 c2]])/\aaB w' A1 l1 c1 (trs f P Q D (f.length-1)).1/\aaA w' n2 A2 l2 c2 (trs f P Q D (f.length-1)).2.2/\Below w.heap.size w w':=by
 obtain ⟨fP,fQ,fD,hst⟩:=hok
 have hfD:Fit (lcd (q / Nat.gcd z.natAbs q) (q' / Nat.gcd z'.natAbs q')):=by rw[<- ea,<- eb,<- eD];exact fD
 obtain ⟨S,hS⟩:∃ S,S=trs f P Q D:=⟨_,rfl⟩
 have S0:Hid (S 0=([f.getD (f.length-1) 0],[1],1)):=Lh (by rw[hS];rfl)
 have SS:Hid (∀ k,S (k+1)=(aaf (ac4 (aag (aaf (S k).1) (aaf [P,Q])) (aaf (psc (f.getD (f.length-2-k) 0) (aag (aaf (S k).2.1) (aaf [D,D]))))),aag (aaf (S k).2.1) (aaf [D,D]),(S k).2.2*D)):=Lh (fun k=>by rw[hS];rfl)
 have SF:Hid (∀ k,k<f.length->abw (S k).1/\abw (S k).2.1/\Fit (S k).2.2/\(S k).1.length<=900000/\(S k).2.1.length<=900000):=Lh (by rw[hS];exact hst)
 rw[<- hS]
 obtain ⟨V1,hV1⟩:∃ V,V=(S (f.length-1)).1:=⟨_,rfl⟩
 obtain ⟨V2,hV2⟩:∃ V,V=(S (f.length-1)).2.2:=⟨_,rfl⟩
 rw[<- hV1,<- hV2]
 have HV1:=Lh hV1
 have HV2:=Lh hV2
 clear hS hV1 hV2
 have o1:=aak w (aa0 n A l c B m d)
 have o2:=aak (w.alloc (aa0 n A l c B m d)) (aa0 n' A' l' c' B' m' d')
 have o3:=aak ((w.alloc (aa0 n A l c B m d)).alloc (aa0 n' A' l' c' B' m' d')) (aap false none 0 0)
 have b3:Below w.heap.size w (((w.alloc (aa0 n A l c B m d)).alloc (aa0 n' A' l' c' B' m' d')).alloc (aap false none 0 0)):=(o1.alloc (by simp) _).alloc (by simp;omega) _
 have R1:=((aci.make hz hq).move o2).move o3
 have R2:=(aci.make (hz'.below o1) (hq'.below o1)).move o3
 have I7:=aaK.nil ((w.alloc (aa0 n A l c B m d)).alloc (aa0 n' A' l' c' B' m' d'))
 simp only[World.size_alloc] at R2 I7
 have HF:=Lh (hf.below ikN b3)
 replace R1:=Lh R1
 replace R2:=Lh R2
 replace I7:=Lh I7
 have Hb:=Lh b3
 have hlf:=hf.length
 have EA:=Lh ea
 have EB:=Lh eb
 have ED:=Lh eD
 have EP:=Lh eP
 have EQ:=Lh eQ
 clear o1 o2 o3 b3 hz hq hz' hq' hf ea eb eD eP eQ hst
 go_enter Tryz.func109,Tryz.ntmps109
 go_wp2_with fail
 refine (anO _ _ _ _ _ _ _ _ _ _ _ _ _ _ _ _ _ _ _ R1.out.hz R1.out.hq R2.out.hz R2.out.hq hu hv h0 hu' hv' h0' hfD).mono ?_
 rintro e w1 ⟨z1,a1,z2,b1,hz1,ha1,hz2,hb1,n1,A1,l1,c1,n2,A2,l2,c2,n3,A3,l3,c3,rfl,h1,h2,h3,hbw⟩
 rw[<- EA.out] at ha1
 rw[<- EB.out] at hb1
 subst ha1 hb1 hz1 hz2
 rw[<- EP.out] at h1
 rw[<- EQ.out] at h2
 rw[<- ED.out] at h3
 replace HF:=Lh (HF.out.below ikN hbw)
 replace I7:=Lh (I7.out.move hbw)
 replace Hb:=Lh (Hb.out.trans (hbw.mono Hb.out.size))
 have H1:=Lh h1
 have H2:=Lh h2
 have H3:=Lh h3
 clear h1 h2 h3 hbw R1 R2
 go_wp2_with fail
 have k1:=aak w1 (aap n1 A1 l1 c1)
 have k2:=aak (w1.alloc (aap n1 A1 l1 c1)) (aap n2 A2 l2 c2)
 have k3:=aak ((w1.alloc (aap n1 A1 l1 c1)).alloc (aap n2 A2 l2 c2)) (aap n3 A3 l3 c3)
 have kb:Below w1.heap.size w1 (((w1.alloc (aap n1 A1 l1 c1)).alloc (aap n2 A2 l2 c2)).alloc (aap n3 A3 l3 c3)):=(k1.alloc (by simp) _).alloc (by simp;omega) _
 have i8:=((aaK.make H1.out).move k2).move k3
 have i9:=(aaK.make (H2.out.below k1)).move k3
 have i10:=aaK.make ((H3.out.below k1).below k2)
 simp only[World.size_alloc] at i9 i10
 have I8:=Lh i8
 have I9:=Lh i9
 have I10:=Lh i10
 have hsz1:w.heap.size+1+1<w1.heap.size:=I7.out.lt
 replace HF:=Lh (HF.out.below ikN kb)
 replace I7:=Lh (I7.out.move kb)
 replace Hb:=Lh (Hb.out.trans (kb.mono Hb.out.size))
 clear k1 k2 k3 kb i8 i9 i10 H1 H2 H3
 obtain ⟨wk,hwk⟩:∃ wk,wk=((w1.alloc (aap n1 A1 l1 c1)).alloc (aap n2 A2 l2 c2)).alloc (aap n3 A3 l3 c3):=⟨_,rfl⟩
 rw[<- hwk] at I7 I8 I9 I10 HF Hb ⊢
 have aAC:wk.heap.size=w1.heap.size+1+1+1:=by rw[hwk];simp
 clear hwk
 refine (aaO _ _ _ _ _ (HF.out.at_ ikN) apZ.smp (by omega)).mono ?_
 rintro e w2 ⟨rfl,hb2⟩
 obtain ⟨ix,hix⟩:∃ ix:Nat,ix=f.length-1:=⟨_,rfl⟩
 have e0:((aad f:Nat):Int)-1=(ix:Int):=by omega
 rw[e0]
 have hsz2:=hb2.size
 replace HF:=Lh (HF.out.below ikN hb2)
 replace I7:=Lh (I7.out.move hb2)
 replace I8:=Lh (I8.out.move hb2)
 replace I9:=Lh (I9.out.move hb2)
 replace I10:=Lh (I10.out.move hb2)
 replace Hb:=Lh (Hb.out.trans (hb2.mono Hb.out.size))
 clear hb2 e0
 obtain ⟨bf,of,rfl,hbf,hcf⟩:=HF.out.get (by omega)
 have awX:ix<lf:=by omega
 obtain ⟨ne,Ae,le,ce,f0,f1e,ze⟩:=hcf ix awX
 have Hcf:=Lh hcf
 have Ze:=Lh ze
 have p0:=I8.out.c0
 have p1:=I8.out.c1
 have q0:=I9.out.c0
 have q1:=I9.out.c1
 have d0:=I10.out.c0
 have d1:=I10.out.c1
 clear hcf ze
 have nb1:w1.heap.size+1+1<w2.heap.size:=by omega
 have nb2:bf<w2.heap.size+1:=by omega
 have Hix:=Lh hix
 clear hix
 go_wp2_with fail
 have L1:=akA I8.out.hz I9.out.hz
 have j1:=aak w2 (.cells #[.bool n1,.slice A1 l1 c1,.bool n2,.slice A2 l2 c2] 36)
 have hzd:=I10.out.hz.below j1
 have L2:=akA hzd hzd
 have j2:=aak (w2.alloc (.cells #[.bool n1,.slice A1 l1 c1,.bool n2,.slice A2 l2 c2] 36)) (.cells #[.bool n3,.slice A3 l3 c3,.bool n3,.slice A3 l3 c3] 36)
 have L3:=aj2 ((Ze.out.below j1).below j2)
 have j3:=aak ((w2.alloc (.cells #[.bool n1,.slice A1 l1 c1,.bool n2,.slice A2 l2 c2] 36)).alloc (.cells #[.bool n3,.slice A3 l3 c3,.bool n3,.slice A3 l3 c3] 36)) (aap ne Ae le ce)
 have j4:=aak (((w2.alloc (.cells #[.bool n1,.slice A1 l1 c1,.bool n2,.slice A2 l2 c2] 36)).alloc (.cells #[.bool n3,.slice A3 l3 c3,.bool n3,.slice A3 l3 c3] 36)).alloc (aap ne Ae le ce)) (.cells #[.int .i64 1] 2)
 replace L1:=((L1.below ikN j2).below ikN j3).below ikN j4
 replace L2:=(L2.below ikN j3).below ikN j4
 replace L3:=L3.below ikN j4
 have jb:=((j1.alloc (by simp) (.cells #[.bool n3,.slice A3 l3 c3,.bool n3,.slice A3 l3 c3] 36)).alloc (by simp;omega) (aap ne Ae le ce)).alloc (by simp;omega) (.cells #[.int .i64 1] 2)
 simp only[World.size_alloc] at L2 L3
 obtain ⟨wd,hwd⟩:∃ wd,wd=(((w2.alloc (.cells #[.bool n1,.slice A1 l1 c1,.bool n2,.slice A2 l2 c2] 36)).alloc (.cells #[.bool n3,.slice A3 l3 c3,.bool n3,.slice A3 l3 c3] 36)).alloc (aap ne Ae le ce)).alloc (.cells #[.int .i64 1] 2):=⟨_,rfl⟩
 have ayD:afl wd (some ⟨w2.heap.size+1+1+1,0,none⟩) 1 1 [1]:=by
  rw[hwd]
  refine ⟨rfl,Nat.le_refl _,.inr ⟨w2.heap.size+1+1+1,0,rfl,by simp,fun j hj=>?_⟩⟩
  match j,hj with
  | 0,_=>go_simp
 rw[<- hwd] at L1 L2 L3 jb ⊢
 have aAD:wd.heap.size=w2.heap.size+1+1+1+1:=by rw[hwd];simp
 clear hwd j1 j2 j3 j4 hzd
 replace HF:=Lh (HF.out.below ikN jb)
 replace I7:=Lh (I7.out.move jb)
 replace I10:=Lh (I10.out.move jb)
 replace Hb:=Lh (Hb.out.trans (jb.mono Hb.out.size))
 replace L1:=Lh L1
 replace L2:=Lh L2
 replace L3:=Lh L3
 clear I8 I9 Ze jb Hcf p0 p1 q0 q1 d0 d1 nb1 nb2 f0 f1e
 refine (akO _ _ _ _ _ ayD (by intro c hc;simp at hc;subst hc;unfold I64;omega) (by omega)).mono ?_
 rintro e w3 ⟨A4,l4,c4,rfl,h4,hb3⟩
 have e1:aaf [(1:Int)]=[1]:=by decide
 rw[e1] at h4
 have H4:=Lh h4
 have hsz3:=hb3.size
 replace HF:=Lh (HF.out.below ikN hb3)
 replace I7:=Lh (I7.out.move hb3)
 replace I10:=Lh (I10.out.move hb3)
 replace Hb:=Lh (Hb.out.trans (hb3.mono Hb.out.size))
 replace L1:=Lh (L1.out.below ikN hb3)
 replace L2:=Lh (L2.out.below ikN hb3)
 replace L3:=Lh (L3.out.below ikN hb3)
 clear h4 hb3 e1 ayD
 go_wp2_with fail
 refine (adB 1 _ (by unfold I64;omega)).mono ?_
 rintro e w4 ⟨n5,A5,l5,c5,rfl,h5,hb4⟩
 have aud:=hb4.size
 have jx:=aak w4 (aap n5 A5 l5 c5)
 have jj:=hb4.trans (jx.mono hb4.size)
 have F0:=Lh ((adv.old (g:=w4.heap.size) (HF.out.below ikN hb4) (Nat.le_refl _)).below jx)
 have F1:=Lh ((adv.old (g:=w4.heap.size) (L1.out.below ikN hb4) (Nat.le_refl _)).below jx)
 have F2:=Lh ((adv.old (g:=w4.heap.size) (L2.out.below ikN hb4) (Nat.le_refl _)).below jx)
 have F3:=Lh ((adv.old (g:=w4.heap.size) (L3.out.below ikN hb4) (Nat.le_refl _)).below jx)
 have F4:=Lh ((adv.old (g:=w4.heap.size) (H4.out.below ikN hb4) (Nat.le_refl _)).below jx)
 replace I7:=Lh (I7.out.move jj)
 replace I10:=Lh (I10.out.move jj)
 have I16:=Lh (aaK.make h5)
 replace Hb:=Lh (Hb.out.trans (jj.mono Hb.out.size))
 clear HF L1 L2 L3 H4 h5 hb4 jx jj
 have hw0:IntKind.i64.wrap ((ix:Int)-1)=(ix:Int)-1:=IntWalk.i64_in _ (by omega)
 obtain ⟨g16,axp⟩:∃ g16,g16=w4.heap.size:=⟨_,rfl⟩
 obtain ⟨g10,axq⟩:∃ g10,g10=w1.heap.size+1+1:=⟨_,rfl⟩
 have aAE:g10<g16:=by omega
 have azJ:w.heap.size+1+1<g10:=by omega
 rw[<- axp] at F0 F1 F2 F3 F4 I16
 rw[<- axq] at I10
 have fPQ:abw [P,Q]:=fun k=>by
  match k with
  | 0=>exact fP
  | 1=>exact fQ
  | k+2=>unfold Fit;simp;exact Nat.pow_pos aaI
 have fDD:abw [D,D]:=fun k=>by
  match k with
  | 0=>exact fD
  | 1=>exact fD
  | k+2=>unfold Fit;simp;exact Nat.pow_pos aaI
 go_wp2_with fail
 rw[<- axp,<- axq]
 have Hlf:=Lh hlf
 clear axp axq hw0 hlf
 obtain ⟨gP,hgP⟩:∃ gP,gP=w2.heap.size:=⟨_,rfl⟩
 obtain ⟨gD,hgD⟩:∃ gD,gD=w2.heap.size+1:=⟨_,rfl⟩
 obtain ⟨gR,hgR⟩:∃ gR,gR=w2.heap.size+1+1:=⟨_,rfl⟩
 have azK:axo (w.heap.size+1+1) (some ⟨gR,0,none⟩) 1:=.inr ⟨gR,0,rfl,by omega⟩
 rw[<- hgR] at F3 ⊢
 rw[<- hgD] at F2 ⊢
 rw[<- hgP] at F1 ⊢
 clear hgP hgD hgR
 go_loopw [14,15,17] (fun s14 s15 s17 wr=>∃ (k:Nat) (Ar:Option Addr) (lr cr:Nat) (Ap:Option Addr) (lp cp:Nat) (n5:Bool) (A5:Option Addr) (l5 c5:Nat),k<=ix/\s17=.int .i64 ((ix:Int)-1-(k:Int))/\s14=.slice Ar lr cr/\s15=.slice Ap lp cp/\adv g16 wr Ar lr cr (S k).1/\axo (w.heap.size+1+1) Ar lr/\adv g16 wr Ap lp cp (S k).2.1/\aaK wr g16 n5 A5 l5 c5 (S k).2.2/\adv g16 wr (some ⟨bf,of,none⟩) lf cf f/\adv g16 wr (some ⟨gP,0,none⟩) 2 2 [P,Q]/\adv g16 wr (some ⟨gD,0,none⟩) 2 2 [D,D]/\aaK wr (w.heap.size+1+1) false none 0 0 0/\aaK wr g10 n3 A3 l3 c3 D/\Below w.heap.size w wr) (fun _ _ s17 _=>(intOf s17+1).toNat)
 case atStart=>exact ⟨0,_,_,_,_,_,_,_,_,_,_,Nat.zero_le _,by go_num,rfl,rfl,by rw[S0.out,<- Hix.out];exact F3.out,azK,by rw[S0.out];exact F4.out,by rw[S0.out];exact I16.out,F0.out,F1.out,F2.out,I7.out,I10.out,Hb.out⟩
 case round =>
  clear F0 F1 F2 F3 F4 I16 I7 I10 Hb
  obtain ⟨k,Ar,lr,cr,Ap,lp,cp,n5,A5,l5,c5,hk,rfl,rfl,rfl,f3,ayE,f4,i16,f0,f1,f2,i7,i10,hb⟩:=hrel
  by_cases hlt:k<ix
  ·obtain ⟨jx,hjx⟩:∃ jx:Nat,jx=ix-1-k:=⟨_,rfl⟩
   have e0:(ix:Int)-1-(k:Int)=(jx:Int):=by omega
   rw[e0]
   have hjl:jx<lf:=by omega
   have e2:f.length-2-k=jx:=by have:=Hix.out;omega
   obtain ⟨s1,s2,s3,s4,s5⟩:=SF.out k (by have:=Hix.out;omega)
   obtain ⟨t1,t2,t3,t4,t5⟩:=SF.out (k+1) (by have:=Hix.out;omega)
   have hss:=SS.out k
   rw[e2] at hss
   have hlr:=f3.n.length
   have hlp:=f4.n.length
   obtain ⟨pw,hpw⟩:∃ pw,pw=aag (aaf (S k).2.1) (aaf [D,D]):=⟨_,rfl⟩
   obtain ⟨sc,hsc⟩:∃ sc,sc=(S k).2.2*D:=⟨_,rfl⟩
   rw[<- hpw,<- hsc] at hss
   rw[hss] at t1 t2 t3 t4 t5
   dsimp only at t1 t2 t3 t4 t5
   have HSS:=Lh hss
   have Hpw:=Lh hpw
   have Hsc:=Lh hsc
   have Hjx:=Lh hjx
   have F0:=Lh f0
   have F1:=Lh f1
   have F2:=Lh f2
   have F3:=Lh f3
   have F4:=Lh f4
   have I7:=Lh i7
   have I10:=Lh i10
   have I16:=Lh i16
   have Hb:=Lh hb
   clear f0 f1 f2 f3 f4 i7 i10 i16 hb hss hpw hsc hjx e0 e2
   go_wp2_with fail
   refine (anP ikN ikN _ _ _ _ _ _ _ _ _ F4.out.n F2.out.n s2 fDD (by omega) (by omega)).mono ?_
   rintro e w5 ⟨A6,l6,c6,rfl,h6,hfr,hb5⟩
   rw[<- Hpw.out] at h6
   have P6:=Lh (adv.fresh (g:=g16) h6 hfr I16.out.lt)
   replace F0:=Lh (F0.out.below hb5)
   replace F1:=Lh (F1.out.below hb5)
   replace F2:=Lh (F2.out.below hb5)
   replace F3:=Lh (F3.out.below hb5)
   replace I7:=Lh (I7.out.move hb5)
   replace I10:=Lh (I10.out.move hb5)
   replace I16:=Lh (I16.out.move hb5)
   replace Hb:=Lh (Hb.out.trans (hb5.mono Hb.out.size))
   have x0:=I16.out.c0
   have x1:=I16.out.c1
   have y0:=I10.out.c0
   have y1:=I10.out.c1
   have sD:=fD.sm
   have s3s:=s3.sm
   clear h6 hfr hb5 F4
   go_wp2_with fail
   refine (aa7 _ _ _ _ _ _ _ _ _ _ _ I16.out.hz.at_ I10.out.hz.at_ s3s sD (s3.adq _)).mono ?_
   rintro e w6 ⟨n7,A7,l7,c7,rfl,h7,hb6⟩
   rw[<- Hsc.out] at h7
   have i16:=I16.out.move hb6
   have i7:=(I7.out.move hb6).far i16 (by omega) (.bool n7) (.slice A7 l7 c7)
   have i10:=(I10.out.move hb6).far i16 (by omega) (.bool n7) (.slice A7 l7 c7)
   have awf:=i16.put h7
   have f0:=(F0.out.below hb6).put (n':=n7) (A2:=A7) (l2:=l7) (c2:=c7) i16
   have f1:=(F1.out.below hb6).put (n':=n7) (A2:=A7) (l2:=l7) (c2:=c7) i16
   have f2:=(F2.out.below hb6).put (n':=n7) (A2:=A7) (l2:=l7) (c2:=c7) i16
   have f3:=(F3.out.below hb6).put (n':=n7) (A2:=A7) (l2:=l7) (c2:=c7) i16
   have p6:=(P6.out.below hb6).put (n':=n7) (A2:=A7) (l2:=l7) (c2:=c7) i16
   have hb:=((Hb.out.trans (hb6.mono Hb.out.size)).setCell (p:=⟨g16,0,none⟩) (by simp;omega) (.bool n7)).setCell (p:=⟨g16,1,none⟩) (by simp;omega) (.slice A7 l7 c7)
   obtain ⟨wq,hwq⟩:∃ wq,wq=(w6.setCell ⟨g16,0,none⟩ (.bool n7)).setCell ⟨g16,1,none⟩ (.slice A7 l7 c7):=⟨_,rfl⟩
   unfold adp at f0 f1 f2 f3 p6 awf
   rw[<- hwq] at i7 i10 awf f0 f1 f2 f3 p6 hb
   have v0:=i16.c0
   have v1:=i16.c1
   have v2:=i16.f0
   have v3:=i16.f1
   clear x0 x1 y0 y1 h7 hb6 F0 F1 F2 F3 P6 I7 I10 I16 Hb i16
   replace F0:=Lh f0
   replace F1:=Lh f1
   replace F2:=Lh f2
   replace F3:=Lh f3
   replace P6:=Lh p6
   replace I7:=Lh i7
   replace I10:=Lh i10
   replace I16:=Lh awf
   replace Hb:=Lh hb
   clear f0 f1 f2 f3 p6 i7 i10 awf hb
   go_wp2_with fail
   rw[<- hwq]
   clear hwq v0 v1 v2 v3
   have hlR:=(aae (S k).1)
   have azL:=aat (S k).1
   have hl2:(aaf (S k).1).length+(aaf [P,Q]).length<=1000000:=by
    have:=aae [P,Q]
    have:=aat [P,Q]
    simp only[List.length_cons,List.length_nil] at this
    omega
   obtain ⟨a1,a2,a3,a4⟩:=avU s1.trim fPQ.trim hl2 (apZ jx) t2
   obtain ⟨hbx,nf,Af',lf',cf',g0,g1,ze⟩:=F0.out.n.elem hjl
   have ZE:=Lh ze
   have A4:=Lh a4
   have fcs:=(apZ jx).sm
   have fcm:∀ k,ae7 (f.getD jx 0).natAbs (pw.getD k 0).natAbs:=fun k=>(apZ jx).adq _
   have hl6:=P6.out.n.length
   have pws:=t2.smp
   have azM:=I16.out.lt
   obtain ⟨pm,hpm⟩:∃ pm,pm=aag (aaf (S k).1) (aaf [P,Q]):=⟨_,rfl⟩
   rw[<- hpm] at a1 a4 A4 t1 t4 HSS
   have Hpm:=Lh hpm
   have aAF:pm.length<=1000000:=by
    rw[hpm]
    unfold aag
    split
    ·simp
    ·rw[ab8];omega
   clear ze a4 hpm hl2 hlR azL
   go_region_held3 (fun w'=>w'.cell? ⟨bf,of+jx*2,none⟩=some (.bool nf)/\w'.cell? ⟨bf,of+jx*2+1,none⟩=some (.slice Af' lf' cf')) (go_keep) (first
    | (go_at_call 29;go_must (refine (acS ikN ikN _ _ _ _ _ _ _ _ _ ?_ ?_ s1 fPQ (by omega) (by omega)).mono ?_;(exact F3.out.n.below ikN Bel.go);(exact F1.out.n.below ikN Bel.go);rintro e w8 ⟨A8,l8,c8,rfl,h8,hb8⟩;rw[<- Hpm.out] at h8;have H8:=Lh h8;have Hb8:Hid (Below wq.heap.size wq w8):=Lh (Below.trans Bel.go (hb8.mono (by simp<;>omega)));obtain ⟨hcx,hfx⟩:=aao hb8;have v0:w8.cell? ⟨bf,of+jx*2,none⟩=some (.bool nf):=(hcx _ (by go_simp)).trans (by go_simp);have v1:w8.cell? ⟨bf,of+jx*2+1,none⟩=some (.slice Af' lf' cf'):=(hcx _ (by go_simp)).trans (by go_simp);clear h8 hcx hfx hb8))
    | (go_at_call 59;go_must (refine (aes ikN _ _ _ _ _ _ _ _ _ _ ?_ ?_ pws fcs fcm a2 (by omega)).mono ?_;(exact (P6.out.n.below ikN Hb8.out).below ikN Bel.go);(exact (ZE.out.below Hb8.out).below Bel.go);rintro e w9 ⟨A9,l9,c9,rfl,h9,hb9⟩;have H9:=Lh h9;have H8':=Lh (H8.out.below ikN (Below.trans Bel.go (hb9.mono (by simp<;>omega))));have Hb9:Hid (Below wq.heap.size wq w9):=Lh (Hb8.out.trans ((Below.trans Bel.go (hb9.mono (by simp<;>omega))).mono Hb8.out.size));obtain ⟨hcx,hfx⟩:=aao hb9;have u0:w9.cell? ⟨bf,of+jx*2,none⟩=some (.bool nf):=(hcx _ (by go_simp)).trans (by go_simp);have u1:w9.cell? ⟨bf,of+jx*2+1,none⟩=some (.slice Af' lf' cf'):=(hcx _ (by go_simp)).trans (by go_simp);clear h9 hcx hfx hb9))
    | (go_at_call 120;go_must (refine (anQ ikN ikN _ _ _ _ _ _ _ _ _ ?_ ?_ a1 a3 A4.out ?_ ?_).mono ?_;(exact H8'.out.below ikN Bel.go);(exact H9.out.below ikN Bel.go);(have:=H8'.out.length;omega);(have:=H9.out.length;have:=aae (psc (f.getD jx 0) pw);have:=aat (psc (f.getD jx 0) pw);have:=(show (psc (f.getD jx 0) pw).length=pw.length by unfold psc;rw[List.length_map]);omega);rintro e w10 ⟨A10,l10,c10,rfl,h10,hfr,abN⟩;have H10:=Lh h10;have FR:=Lh hfr;have akV:Hid (Below wq.heap.size wq w10):=Lh (Hb9.out.trans ((Below.trans Bel.go (abN.mono (by simp<;>omega))).mono Hb9.out.size));obtain ⟨hcx,hfx⟩:=aao abN;have z0:w10.cell? ⟨bf,of+jx*2,none⟩=some (.bool nf):=(hcx _ (by go_simp)).trans (by go_simp);have z1:w10.cell? ⟨bf,of+jx*2+1,none⟩=some (.slice Af' lf' cf'):=(hcx _ (by go_simp)).trans (by go_simp);clear h10 hfr hcx hfx abN)))
   rename_i hHeld
   have abN:=akV.out
   have K0:=Lh (F0.out.below abN)
   have K1:=Lh (F1.out.below abN)
   have K2:=Lh (F2.out.below abN)
   have K6:=Lh (P6.out.below abN)
   have K7:=Lh (I7.out.move abN)
   have K10:=Lh (I10.out.move abN)
   have K16:=Lh (I16.out.move abN)
   have Kb:=Lh (Hb.out.trans (abN.mono Hb.out.size))
   have K3:=Lh (adv.fresh (g:=g16) H10.out FR.out (Nat.lt_of_lt_of_le I16.out.lt Hb9.out.size))
   have azN:axo (w.heap.size+1+1) A10 l10:=FR.out.imp id (fun ⟨r,e1,e2⟩=>⟨r,0,e1,by have:=Hb9.out.size;omega⟩)
   have hwj:IntKind.i64.wrap ((jx:Int)-1)=(jx:Int)-1:=IntWalk.i64_in _ (by omega)
   clear hHeld z0 z1 u0 u1 v0 v1 g0 g1 F0 F1 F2 F3 P6 I7 I10 I16 Hb H8 H8' H9 H10 FR Hb8 Hb9 akV abN ZE A4
   go_wp2_with fail
   go_roundw
   case rel=>exact ⟨k+1,_,_,_,_,_,_,_,_,_,_,by omega,by have:=Hjx.out;go_num,rfl,rfl,by rw[HSS.out];exact K3.out,azN,by rw[HSS.out];exact K6.out,by rw[HSS.out];exact K16.out,K0.out,K1.out,K2.out,K7.out,K10.out,Kb.out⟩
   case measure=>have:=Hjx.out;simp[intOf]<;>omega
  ·have hki:k=ix:=by omega
   subst hki
   have e0:(k:Int)-1-(k:Int)=-1:=by omega
   rw[e0]
   have x0:=i16.c0
   have x1:=i16.c1
   have y0:=i7.c0
   have y1:=i7.c1
   have y2:=i7.f0
   have y3:=i7.f1
   have k7:=i7.put i16.hz
   have f7:=adv.put (n':=n5) (A2:=A5) (l2:=l5) (c2:=c5) ⟨f3.n,ayE⟩ i7
   have hb7:Below w.heap.size w (adp wr (w.heap.size+1+1) n5 A5 l5 c5):=(hb.setCell (p:=⟨w.heap.size+1+1,0,none⟩) (by simp;omega) _).setCell (p:=⟨w.heap.size+1+1,1,none⟩) (by simp;omega) _
   have F7:=Lh f7
   have K7:=Lh k7
   have B7:=Lh hb7
   clear i16 i7 f3 hb k7 f0 f1 f2 f4 i10 f7 e0 ayE hb7
   go_wp2_with fail
   go_region
   go_wp2
   obtain ⟨WW,hWW⟩:∃ WW,WW=adp wr (w.heap.size+1+1) n5 A5 l5 c5:=⟨_,rfl⟩
   have K7x:=K7.out.move ((Below.refl _ _).drew)
   have F7x:=F7.out.below ((Below.refl _ _).drew)
   have hbx:=B7.out.drew
   change bodyPost _ _ _ _ _ (adp wr (w.heap.size+1+1) n5 A5 l5 c5).drew
   rw[<- hWW] at K7x F7x hbx ⊢
   generalize WW.drew=W2 at K7x F7x hbx ⊢
   have k70:=K7x.c0
   have k71:=K7x.c1
   have eV:k=f.length-1:=Hix.out
   refine bodyPost_ret (v:=.tuple #[.slice Ar lr cr,.agg #[.bool n5,.slice A5 l5 c5]]) (by simp[results,Tryz.results109,go_sem,k70,k71]) rfl ⟨_,_,_,_,_,_,_,rfl,by rw[HV1.out,<- eV];exact F7x.n,by rw[HV2.out,<- eV];exact K7x.hz,hbx⟩
end Go.Proofs.YtkefcldcfeolbaaGreat
namespace Go.Proofs.YtkefcldcfeolbaaGreat
open Go.RowKit
def arh (f:List Int):List Int:=f.map (·.tdiv (aam f:Int))
theorem ari (f:List Int) (k:Nat):(arh f).getD k 0=(f.getD k 0).tdiv (aam f:Int):=by
 unfold arh
 rw[List.getD_eq_getElem?_getD,List.getD_eq_getElem?_getD,List.getElem?_map]
 cases f[k]? with
 | none=>simp
 | some x=>simp
theorem arj {f:List Int} (h:SmP f):SmP (arh f):=fun c hc=>by
 obtain ⟨x,hx,rfl⟩:=List.mem_map.1 hc
 exact (h x hx).mono (by rw[Int.natAbs_tdiv];exact Nat.div_le_self _ _)
set_option maxRecDepth 100000 in
set_option maxHeartbeats 4000000 in
theorem ap0 (A:Option Addr) (len cap:Nat) (f:List Int) (w:World) (h:aaB w A len cap f) (hs:SmP f) (hm:len<=1000000000) (h1:aad f≠0) :
 Calls Tryz.prog 110 #[.slice A len cap] w fun e w'=>∃ A' l' c',e=.returned (.slice A' l' c')/\aaB w' A' l' c' (aaf (arh f))/\Below w.heap.size w w':=by
 have hl:=h.length
 have hc0:(aam f:Int)≠0:=by have:=acf h1;omega
 have scn:SmI (aam f:Int):=by unfold SmI;rw[Int.natAbs_natCast];exact aiY hs
 have hmod:∀ k,(f.getD k 0).tmod (aam f:Int)=0:=fun k=>by
  have h2:=abU f k
  have h3:(aam f:Int)∣f.getD k 0:=by rw[<- Int.natAbs_dvd_natAbs,Int.natAbs_natCast];exact h2
  exact Int.tmod_eq_zero_of_dvd h3
 have hq:=ari f
 have hql:(arh f).length=len:=by unfold arh;rw[List.length_map];exact hl
 have hqs:=arj hs
 obtain ⟨q,hqe⟩:∃ q,q=arh f:=⟨_,rfl⟩
 rw[<- hqe] at hq hql hqs ⊢
 obtain ⟨c,hce⟩:∃ c:Int,c=(aam f:Int):=⟨_,rfl⟩
 rw[<- hce] at hc0 scn hmod hq
 have Hq:=Lh hq
 have azO:=Lh hmod
 have Hql:=Lh hql
 have HCE:=Lh hce
 have sf:∀ k,SmI (f.getD k 0):=fun k=>hs.getD k
 clear hqe hq hmod hql hce h1 hl
 go_enter Tryz.func110,Tryz.ntmps110
 go_wp2_with fail
 refine (afp ikN _ _ _ _ _ h hs hm).mono ?_
 rintro e w1 ⟨n1,A1,l1,c1,rfl,hz1,hb1⟩
 rw[<- HCE.out] at hz1
 have j1:=aak w1 (aap n1 A1 l1 c1)
 have HX:=Lh (aaK.make hz1)
 have HF:=Lh ((h.below ikN hb1).below ikN j1)
 have Hb:=Lh (hb1.trans (j1.mono hb1.size))
 clear h hz1 hb1 j1
 obtain ⟨wa,hwa⟩:∃ wa,wa=w1.alloc (aap n1 A1 l1 c1):=⟨_,rfl⟩
 have hsa:wa.heap.size=w1.heap.size+1:=by rw[hwa];simp
 go_wp2_with (at_make;refine aaW _ rfl (.tmp 10) (.tmp 10) rfl len rfl rfl (by omega) ?_)
 rw[<- hwa] at HX HF Hb ⊢
 clear hwa
 intro w2 hz hb2 hsz
 rw[<- ac2 q len] at hz
 have Hz:=Lh hz
 have Hb2:=Lh hb2
 obtain ⟨gr,hgr⟩:∃ gr,gr=w1.heap.size+1:=⟨_,rfl⟩
 rw[<- hgr] at Hz Hb2 ⊢
 have Hgr:=Lh (hgr.trans hsa.symm)
 have lgr:w1.heap.size<gr:=by omega
 clear hz hb2 hsz hsa hgr
 go_wp2
 go_loopw [14] (fun s14 wr=>∃ k:Nat,k<=len/\s14=.int .i64 (k:Int)/\ab6 wr gr (upto q k len)/\Below gr wa wr) (fun s14 _=>len-(intOf s14).toNat)
 case atStart=>exact ⟨0,Nat.zero_le _,rfl,Hz.out,Hb2.out⟩
 case round =>
  clear Hz Hb2
  obtain ⟨k,hk,rfl,hrow,hbw⟩:=hrel
  by_cases hlt:k<len
  ·obtain ⟨b1,o1,rfl,hb1,hc1⟩:=HF.out.get (by omega)
   obtain ⟨nf,Af,lf,cf,f0,f1,zf⟩:=hc1 k hlt
   have hbg:b1<gr:=by rw[Hgr.out];exact hb1
   have e0:=(hbw.cell (p:=⟨b1,o1+k*2,none⟩) hbg).trans f0
   have e1:=(hbw.cell (p:=⟨b1,o1+k*2+1,none⟩) hbg).trans f1
   have axr:Below wa.heap.size wa wr:=by rw[<- Hgr.out];exact hbw
   have zf2:=zf.below axr
   have x2:=HX.out.move axr
   have x0:=x2.c0
   have x1:=x2.c1
   have hul:(upto q k len).length=len:=upto_length _ _ _
   have hgs:=hrow.lt
   obtain ⟨n0,A0,l0,c0,d0,d1,_⟩:=hrow.elems k (by rw[hul];exact hlt)
   have fr0:=hrow.frozen (k*2)
   have fr1:=hrow.frozen (k*2+1)
   have Zf:=Lh zf2
   have X2:=Lh x2
   have ab2:=Lh hrow
   have Hbw:=Lh hbw
   have hd:=azO.out k
   have sk:=sf k
   have HE:=Lh (Hq.out k)
   have lt1:w1.heap.size<wr.heap.size:=by omega
   have lt2:gr<wr.heap.size:=hgs
   have hkn:(k:Int)<(len:Int):=by omega
   clear hc1 f0 f1 zf hb1 axr zf2 x2 hrow hbw
   go_wp2_with fail
   refine (aeT _ _ _ _ _ _ _ _ _ _ _ (Zf.out.at_.below Bel.go) (X2.out.hz.at_.below Bel.go) sk scn hc0 hd).mono ?_
   rintro e w3 ⟨n3,A3,l3,c3,rfl,h3,hb3⟩
   have hba:Below wr.heap.size wr w3:=Below.trans Bel.go (hb3.mono (by simp<;>omega))
   have hrw:=ab2.out.below hba
   have Hb3:=Lh (Hbw.out.trans (hba.mono (by omega)))
   have hst:=ady q (k:=k) (n:=len) hlt
   rw[HE.out] at hst
   have hr2:=hrw.acn (i:=k) (by rw[hul];exact hlt) h3
   rw[hst] at hr2
   have Hr2:=Lh hr2
   obtain ⟨n5,A5,l5,c5,p0,p1,_⟩:=hrw.elems k (by rw[hul];exact hlt)
   have p2:=hrw.frozen (k*2)
   have p3:=hrw.frozen (k*2+1)
   clear e0 e1 x0 x1 d0 d1 fr0 fr1 h3 hb3 hba hrw hst hr2 hul Zf X2 ab2 Hbw HE
   go_wp2_with fail
   go_roundw
   case rel=>exact ⟨k+1,by omega,by go_num,Hr2.out,(Hb3.out.setCell (p:=⟨gr,k*2,none⟩) (Nat.le_refl _) _).setCell (p:=⟨gr,k*2+1,none⟩) (Nat.le_refl _) _⟩
   case measure=>simp[intOf];omega
  ·have hk2:len=k:=by omega
   subst hk2
   have hkn:¬ (len:Int)<(len:Int):=by omega
   have hup:upto q len len=q:=by have:=ac3 q;rw[Hql.out] at this;exact this
   rw[hup] at hrow
   have hp:=hrow.poly (cap:=len) (by rw[Hql.out];exact Nat.le_refl _)
   rw[Hql.out] at hp
   have hb4:Below w.heap.size w wr:=Hb.out.trans (hbw.mono (by rw[Hgr.out];exact Hb.out.size))
   have Hb4:=Lh hb4
   clear hup hrow hbw hb4
   go_wp2_with fail
   refine (abd ikN _ _ _ _ _ hp hqs (by omega)).mono ?_
   rintro e w5 ⟨g5,rfl,hr5,hg5,hb5⟩
   have hp5:=hr5.poly (cap:=aad q) (by rw[aae];exact Nat.le_refl _)
   rw[aae] at hp5
   have Hp5:=Lh hp5
   have Hb5:=Lh (Hb4.out.trans (hb5.mono Hb4.out.size))
   clear hp hr5 hb5 hp5
   go_wp2
   go_ret
   exact ⟨_,_,_,rfl,Hp5.out,Hb5.out⟩
def cdD (q q':Nat) (z z':Int):Int:=lcd (q / Nat.gcd z.natAbs q) (q' / Nat.gcd z'.natAbs q')
def cdP (q q':Nat) (z z':Int):Int:=z.tdiv (Nat.gcd z.natAbs q)*(cdD q q' z z').tdiv ((q / Nat.gcd z.natAbs q:Nat):Int)
def cdQ (q q':Nat) (z z':Int):Int:=z'.tdiv (Nat.gcd z'.natAbs q')*(cdD q q' z z').tdiv ((q' / Nat.gcd z'.natAbs q':Nat):Int)
def ayG (f:List Int) (P Q D:Int):List Int:=aaf (arh (trs f P Q D (f.length-1)).1)
def abv (f:List Int) (q q':Nat) (z z':Int):List Int:=if aad f=0∨¬ (z*(q':Int)<z'*(q:Int)) then [] else ayG (aaf f) (cdP q q' z z') (cdQ q q' z z') (cdD q q' z z')
def ark (f:List Int) (q q':Nat) (z z':Int):Prop:=1<=aad f->z*(q':Int)<z'*(q:Int)->awe (aaf f) (cdP q q' z z') (cdQ q q' z z') (cdD q q' z z')/\aad (trs (aaf f) (cdP q q' z z') (cdQ q q' z z') (cdD q q' z z') ((aaf f).length-1)).1≠0/\1<=(aaf f).length
set_option maxRecDepth 100000 in
set_option maxHeartbeats 4000000 in
theorem anR {I:aas} (hI:IK I) (Af:Option Addr) (lf cf:Nat) (f:List Int) (n:Bool) (A:Option Addr) (l c:Nat) (B:Option Addr) (m d q:Nat) (z:Int) (n':Bool) (A':Option Addr) (l' c':Nat) (B':Option Addr) (m' d' q':Nat) (z':Int) (w:World) (hf:aar I w Af lf cf f) (hfm:lf<=900000) (apZ:abw f)
 (hz:aaA w n A l c z) (hq:aaT w B m d q) (hz':aaA w n' A' l' c' z') (hq':aaT w B' m' d' q') (hu:Fit z) (hv:Fit (q:Int)) (h0:0<q) (hu':Fit z') (hv':Fit (q':Int)) (h0':0<q') (hok:ark f q q' z z') :
 Calls Tryz.prog 96 #[.slice Af lf cf,.agg #[.bool n,.slice A l c,.slice B m d],.agg #[.bool n',.slice A' l' c',.slice B' m' d']] w fun e w'=>∃ A1 l1 c1,e=.returned (.slice A1 l1 c1)/\aaB w' A1 l1 c1 (abv f q q' z z')/\Below w.heap.size w w':=by
 have o1:=aak w (aa0 n A l c B m d)
 have o2:=aak (w.alloc (aa0 n A l c B m d)) (aa0 n' A' l' c' B' m' d')
 have b2:Below w.heap.size w ((w.alloc (aa0 n A l c B m d)).alloc (aa0 n' A' l' c' B' m' d')):=o1.alloc (by simp) _
 have R1:=(aci.make hz hq).move o2
 have R2:=aci.make (hz'.below o1) (hq'.below o1)
 simp only[World.size_alloc] at R2
 have hf2:=hf.below hI b2
 replace R1:=Lh R1
 replace R2:=Lh R2
 have Hb:=Lh b2
 have hlf:=hf.length
 have aAG:=aat f
 obtain ⟨V,hV⟩:∃ V,V=abv f q q' z z':=⟨_,rfl⟩
 rw[<- hV]
 have HV:=Lh hV
 have Hok:=Lh hok
 clear o1 o2 b2 hz hq hz' hq' hf hV hok
 go_enter Tryz.func96,Tryz.ntmps96
 go_wp2_with fail
 refine (abd hI _ _ _ _ _ hf2 apZ.smp (by omega)).mono ?_
 rintro e w1 ⟨g1,rfl,hr1,hg1,hb1⟩
 have hp1:=hr1.poly (cap:=aad f) (by rw[aae];exact Nat.le_refl _)
 rw[aae] at hp1
 have HP:=Lh hp1
 replace R1:=Lh (R1.out.move hb1)
 replace R2:=Lh (R2.out.move hb1)
 replace Hb:=Lh (Hb.out.trans (hb1.mono Hb.out.size))
 obtain ⟨L,hL⟩:∃ L,L=aad f:=⟨_,rfl⟩
 rw[<- hL] at HP ⊢
 have HL:=Lh hL
 clear hf2 hr1 hb1 hp1
 by_cases h1:L=0
 ·have hb0:((L:Int) == 0)=true:=by rw[h1];rfl
  have hV0:V=[]:=by rw[HV.out];unfold abv;rw[if_pos (.inl (by rw[<- HL.out];exact h1))]
  have HV0:=Lh hV0
  clear h1 hV0 hL
  go_wp2_with fail
  go_ret
  exact ⟨_,_,_,rfl,by rw[HV0.out];exact aar.nil _ _ _ _,Hb.out⟩
 ·have hb0:((L:Int) == 0)=false:=by rw[beq_eq_false_iff_ne];omega
  have x0:=R1.out.c0
  have x1:=R1.out.c1
  have x2:=R1.out.c2
  have y0:=R2.out.c0
  have y1:=R2.out.c1
  have y2:=R2.out.c2
  have H1:=Lh (show 1<=aad f by omega)
  clear h1 hL
  go_wp2_with fail
  refine (ag6 _ _ _ _ _ _ _ _ _ _ _ _ _ _ _ _ _ _ _ R1.out.hz.at_ R1.out.hq.at_ R2.out.hz.at_ R2.out.hq.at_ (by omega) (by omega) hu hv hu' hv').mono ?_
  rintro e w2 ⟨rfl,hb2⟩
  replace R1:=Lh (R1.out.move hb2)
  replace R2:=Lh (R2.out.move hb2)
  replace HP:=Lh (HP.out.below ikN hb2)
  replace Hb:=Lh (Hb.out.trans (hb2.mono Hb.out.size))
  clear hb2 x0 x1 x2 y0 y1 y2
  by_cases hlt:z*(q':Int)<z'*(q:Int)
  ·have hcm:¬ (0<=afd (z*(q':Int)) (z'*(q:Int))):=by unfold afd;rw[if_pos hlt];omega
   have x0:=R1.out.c0
   have x1:=R1.out.c1
   have x2:=R1.out.c2
   have y0:=R2.out.c0
   have y1:=R2.out.c1
   have y2:=R2.out.c2
   obtain ⟨tok,tne,tl⟩:=Hok.out H1.out hlt
   have hVe:V=ayG (aaf f) (cdP q q' z z') (cdQ q q' z z') (cdD q q' z z'):=by
    rw[HV.out];unfold abv
    rw[if_neg]
    rintro (h | h)
    ·have:=H1.out;omega
    ·exact h hlt
   have HVe:=Lh hVe
   have tfp:=apZ.trim
   have tpl:aad (aaf f)=(aaf f).length:=by rw[abK,aae]
   obtain ⟨p,hp⟩:∃ p,p=aaf f:=⟨_,rfl⟩
   rw[<- hp] at HP tok tne tl HVe tfp tpl
   obtain ⟨C,hC⟩:∃ C,C=afd (z*(q':Int)) (z'*(q:Int)):=⟨_,rfl⟩
   rw[<- hC] at hcm ⊢
   obtain ⟨T1,hT1⟩:∃ T,T=(trs p (cdP q q' z z') (cdQ q q' z z') (cdD q q' z z') (p.length-1)).1:=⟨_,rfl⟩
   have hT:=tok.2.2.2 (p.length-1) (by omega)
   rw[<- hT1] at tne hT
   have hVt:V=aaf (arh T1):=by rw[HVe.out,hT1];rfl
   have HVt:=Lh hVt
   have HT1:=Lh hT1
   have sT:=hT.1.smp
   have lT:=hT.2.2.2.1
   have Tok:=Lh tok
   have Htl:=Lh tl
   have HLe:=Lh (show L<=1000000 by have:=HL.out;omega)
   clear hVe hVt hC hT hT1 tok tl hp hlt
   go_wp2_with fail
   refine (ajC _ _ _ _ _ _ _ _ _ _ _ _ _ _ _ _ _ _ _ _ _ _ _ HP.out tpl Htl.out HLe.out tfp R1.out.hz R1.out.hq R2.out.hz R2.out.hq hu hv h0 hu' hv' h0' _ _ _ _ _ rfl rfl rfl rfl rfl Tok.out).mono ?_
   rintro e w3 ⟨A3,l3,c3,n4,A4,l4,c4,rfl,h3,h4,hb3⟩
   replace h3:aaB w3 A3 l3 c3 T1:=by rw[HT1.out];exact h3
   have jb:=aak w3 (aap n4 A4 l4 c4)
   have hl3:=h3.length
   have H3:=Lh (h3.below ikN jb)
   replace Hb:=Lh ((Hb.out.trans (hb3.mono Hb.out.size)).trans (jb.mono (Hb.out.trans (hb3.mono Hb.out.size)).size))
   clear h3 h4 hb3 jb x0 x1 x2 y0 y1 y2 R1 R2 HP
   go_wp2_with fail
   refine (ap0 _ _ _ _ _ H3.out sT (by omega) tne).mono ?_
   rintro e w5 ⟨A5,l5,c5,rfl,h5,hb5⟩
   have H5:=Lh h5
   have Hb5:=Lh (Hb.out.trans (hb5.mono Hb.out.size))
   clear h5 hb5 H3 Hb
   go_wp2
   go_ret
   exact ⟨_,_,_,rfl,by rw[HVt.out];exact H5.out,Hb5.out⟩
  ·have hcm:0<=afd (z*(q':Int)) (z'*(q:Int)):=by unfold afd;rw[if_neg hlt];split<;>omega
   have hV0:V=[]:=by rw[HV.out];unfold abv;rw[if_pos (.inr hlt)]
   have HV0:=Lh hV0
   obtain ⟨C,hC⟩:∃ C,C=afd (z*(q':Int)) (z'*(q:Int)):=⟨_,rfl⟩
   rw[<- hC] at hcm ⊢
   clear hV0 hC hlt
   go_wp2_with fail
   go_ret
   exact ⟨_,_,_,rfl,by rw[HV0.out];exact aar.nil _ _ _ _,Hb.out⟩
set_option maxRecDepth 100000 in
set_option maxHeartbeats 4000000 in
theorem arl {I:aas} (hI:IK I) (Af:Option Addr) (lf cf:Nat) (f:List Int) (n:Bool) (A:Option Addr) (l c:Nat) (B:Option Addr) (m d q:Nat) (z:Int) (n':Bool) (A':Option Addr) (l' c':Nat) (B':Option Addr) (m' d' q':Nat) (z':Int) (w:World) (hf:aar I w Af lf cf f) (hfm:lf<=900000) (apZ:abw f)
 (hz:aaA w n A l c z) (hq:aaT w B m d q) (hz':aaA w n' A' l' c' z') (hq':aaT w B' m' d' q') (hu:Fit z) (hv:Fit (q:Int)) (h0:0<q) (hu':Fit z') (hv':Fit (q':Int)) (h0':0<q') (hok:ark f q q' z z') (hs:SmP (abv f q q' z z')) (hl:(abv f q q' z z').length<=1000000) :
 Calls Tryz.prog 66 #[.slice Af lf cf,.agg #[.bool n,.slice A l c,.slice B m d],.agg #[.bool n',.slice A' l' c',.slice B' m' d']] w fun e w'=>e=.returned (.int .i64 ((vst (abv f q q' z z') (abv f q q' z z').length).1:Nat))/\Below w.heap.size w w':=by
 have o1:=aak w (aa0 n A l c B m d)
 have o2:=aak (w.alloc (aa0 n A l c B m d)) (aa0 n' A' l' c' B' m' d')
 have b2:Below w.heap.size w ((w.alloc (aa0 n A l c B m d)).alloc (aa0 n' A' l' c' B' m' d')):=o1.alloc (by simp) _
 have R1:=(aci.make hz hq).move o2
 have R2:=aci.make (hz'.below o1) (hq'.below o1)
 simp only[World.size_alloc] at R2
 have hf2:=hf.below hI b2
 replace R1:=Lh R1
 replace R2:=Lh R2
 have Hb:=Lh b2
 obtain ⟨V,hV⟩:∃ V,V=abv f q q' z z':=⟨_,rfl⟩
 rw[<- hV] at hs hl ⊢
 have HV:=Lh hV
 have Hok:=Lh hok
 clear o1 o2 b2 hz hq hz' hq' hf hV hok
 go_enter Tryz.func66,Tryz.ntmps66
 go_wp2_with fail
 refine (anR hI _ _ _ _ _ _ _ _ _ _ _ _ _ _ _ _ _ _ _ _ _ _ _ hf2 hfm apZ R1.out.hz R1.out.hq R2.out.hz R2.out.hq hu hv h0 hu' hv' h0' Hok.out).mono ?_
 rintro e w1 ⟨A1,l1,c1,rfl,h1,hb1⟩
 rw[<- HV.out] at h1
 have hl1:=h1.length
 have H1:=Lh h1
 replace Hb:=Lh (Hb.out.trans (hb1.mono Hb.out.size))
 clear h1 hb1 hf2 R1 R2
 go_wp2_with fail
 refine (aqi _ _ _ _ _ (H1.out.at_ ikN) hs (by omega)).mono ?_
 rintro e w2 ⟨rfl,hb2⟩
 rw[<- hl1]
 have Hb2:=Lh (Hb.out.trans (hb2.mono Hb.out.size))
 obtain ⟨X,hX⟩:∃ X,X=(vst V V.length).1:=⟨_,rfl⟩
 rw[<- hX]
 have HX:=Lh hX
 clear hb2 H1 Hb hX
 go_wp2
 go_ret
 exact ⟨by show Ending.returned (.int .i64 (X:Int))=_;rw[HX.out],Hb2.out⟩
theorem arn {I:aas} (hI:IK I) (Af:Option Addr) (lf cf:Nat) (f:List Int) (n:Bool) (A:Option Addr) (l c:Nat) (B:Option Addr) (m d q:Nat) (z:Int) (n':Bool) (A':Option Addr) (l' c':Nat) (B':Option Addr) (m' d' q':Nat) (z':Int) (w:World) (hf:aar I w Af lf cf f) (hfm:lf<=900000) (apZ:abw f)
 (hz:aaA w n A l c z) (hq:aaT w B m d q) (hz':aaA w n' A' l' c' z') (hq':aaT w B' m' d' q') (hu:U64 z.natAbs) (hv:q<BB) (h0:0<q) (hu':U64 z'.natAbs) (hv':q'<BB) (h0':0<q') (hok:ark f q q' z z') (hs:SmP (abv f q q' z z')) (hl:(abv f q q' z z').length<=1000000) :
 Calls Tryz.prog 66 #[.slice Af lf cf,.agg #[.bool n,.slice A l c,.slice B m d],.agg #[.bool n',.slice A' l' c',.slice B' m' d']] w fun e w'=>e=.returned (.int .i64 ((vst (abv f q q' z z') (abv f q q' z z').length).1:Nat))/\Below w.heap.size w w' :=
 arl hI Af lf cf f n A l c B m d q z n' A' l' c' B' m' d' q' z' w hf hfm apZ hz hq hz' hq' (aeF hu) (aeE hv) h0 (aeF hu') (aeE hv') h0' hok hs hl
end Go.Proofs.YtkefcldcfeolbaaGreat
namespace Go.Proofs.YtkefcldcfeolbaaGreat
open Go.RowKit
structure ap1 (f:List Int) (z:Int) (q:Nat):Prop where
 u:U64 z.natAbs
 v:q<BB
 p:0<q
 ok:avk f (z.tdiv (Nat.gcd z.natAbs q)) ((q / Nat.gcd z.natAbs q:Nat):Int)
 fz:Fit (z.tdiv (Nat.gcd z.natAbs q))
 fq:Fit ((q / Nat.gcd z.natAbs q:Nat):Int)
def at6 (f:List Int) (z:Int) (q:Nat):Int:=sg (ano f (z.tdiv (Nat.gcd z.natAbs q)) ((q / Nat.gcd z.natAbs q:Nat):Int))
set_option maxRecDepth 100000 in
set_option maxHeartbeats 4000000 in
theorem afw (gs:Nat) (Ap:Option Addr) (lp cp:Nat) (F:Value) (f:List Int) (n:Bool) (A:Option Addr) (l c:Nat) (B:Option Addr) (m d q:Nat) (z:Int) (w:World)
 (hs:Blk w gs 68 #[.slice Ap lp cp,F]) (hp:aaB w Ap lp cp f) (ff:abw f) (hl:lp<=900000) (hz:aaA w n A l c z) (hq:aaT w B m d q) (ha:ap1 f z q) :
 Calls Tryz.prog 33 #[.pointer (some ⟨gs,0,none⟩),.agg #[.bool n,.slice A l c,.slice B m d]] w fun e w'=>e=.returned (.bool (decide (at6 f z q=0)))/\Below w.heap.size w w':=by
 have o1:=aak w (aa0 n A l c B m d)
 have r1:=aci.make hz hq
 have h1:=hs.below o1 hs.lt
 have hp1:=hp.below ikN o1
 have hlt:=hs.lt
 have x0:=(h1.cell 0).trans rfl
 have R1:=Lh r1
 have HP:=Lh hp1
 have Hb:=Lh o1
 have HA:=Lh ha
 have e1:=r1.c0
 have e2:=r1.c1
 have e3:=r1.c2
 obtain ⟨X,hX⟩:∃ X,X=at6 f z q:=⟨_,rfl⟩
 rw[<- hX]
 have HX:=Lh hX
 clear o1 r1 hs hp hz hq h1 hp1 ha hX
 go_enter Tryz.func33,Tryz.ntmps33
 go_wp2_with fail
 go_region_held3 (fun w'=>w'.cell? ⟨gs,0,none⟩=some (.slice Ap lp cp)/\w'.cell? ⟨w.heap.size,0,none⟩=some (.bool n)/\w'.cell? ⟨w.heap.size,1,none⟩=some (.slice A l c)/\w'.cell? ⟨w.heap.size,2,none⟩=some (.slice B m d)) (go_keep) (first
  | (go_at_call 24;go_must (refine (abz ikN _ _ _ _ _ _ _ _ _ _ _ _ _ _ ?_ ff (by omega) ?_ ?_ (aeF HA.out.u) (aeE HA.out.v) HA.out.p HA.out.ok HA.out.fz HA.out.fq).mono ?_;(exact HP.out.below ikN Bel.go);(exact R1.out.hz.below Bel.go);(exact R1.out.hq.below Bel.go);rintro e w8 ⟨rfl,hb8⟩;rw[show sg (ano f (z.tdiv (Nat.gcd z.natAbs q)) ((q / Nat.gcd z.natAbs q:Nat):Int))=X from HX.out.symm];have Hb8:=Lh (Hb.out.trans ((Below.trans Bel.go (hb8.mono (by simp<;>omega))).mono Hb.out.size));obtain ⟨hcx,hfx⟩:=aao hb8;have v0:w8.cell? ⟨gs,0,none⟩=some (.slice Ap lp cp):=(hcx _ (by go_simp)).trans (by go_simp);have v1:w8.cell? ⟨w.heap.size,0,none⟩=some (.bool n):=(hcx _ (by go_simp)).trans (by go_simp);have v2:w8.cell? ⟨w.heap.size,1,none⟩=some (.slice A l c):=(hcx _ (by go_simp)).trans (by go_simp);have v3:w8.cell? ⟨w.heap.size,2,none⟩=some (.slice B m d):=(hcx _ (by go_simp)).trans (by go_simp);clear hcx hfx hb8)))
 go_wp2
 go_ret
 exact ⟨rfl,Hb8.out⟩
def at7 (f:List Int) (z:Int) (q:Nat) (z':Int) (q':Nat):Nat:=(vst (abv f q q' z z') (abv f q q' z z').length).1
structure ap2 (f:List Int) (z:Int) (q:Nat) (z':Int) (q':Nat):Prop where
 u:U64 z.natAbs
 v:q<BB
 p:0<q
 u':U64 z'.natAbs
 v':q'<BB
 p':0<q'
 ok:ark f q q' z z'
 sm:SmP (abv f q q' z z')
 ln:(abv f q q' z z').length<=1000000
def mdz (z:Int) (q:Nat) (z':Int) (q':Nat):Int:=(z*(q':Int)+z'*(q:Int)).tdiv (Nat.gcd (z*(q':Int)+z'*(q:Int)).natAbs (q*q'*2))
def mdq (z:Int) (q:Nat) (z':Int) (q':Nat):Nat:=q*q'*2 / Nat.gcd (z*(q':Int)+z'*(q:Int)).natAbs (q*q'*2)
inductive DSp (f:List Int):Int->Nat->Int->Nat->Nat->Prop
 | none {z z':Int} {q q':Nat}:ap2 f z q z' q'->at7 f z q z' q'=0->DSp f z q z' q' 0
 | one {z z':Int} {q q':Nat}:ap2 f z q z' q'->at7 f z q z' q'=1->DSp f z q z' q' 1
 | node {z z':Int} {q q' k1 k2:Nat}:ap2 f z q z' q'->2<=at7 f z q z' q'->ap1 f (mdz z q z' q') (mdq z q z' q')->at6 f (mdz z q z' q') (mdq z q z' q')≠0 ->
    DSp f z q (mdz z q z' q') (mdq z q z' q') k1->DSp f (mdz z q z' q') (mdq z q z' q') z' q' k2->DSp f z q z' q' (k1+k2)
theorem avV (n:Bool) (A:Option Addr) (l c:Nat) (B:Option Addr) (m d:Nat) (n':Bool) (A':Option Addr) (l' c':Nat) (B':Option Addr) (m' d':Nat):∀ v∈[Value.bool n,.slice A l c,.slice B m d,.bool n',.slice A' l' c',.slice B' m' d'],Nd v:=by
 intro v hv
 simp only[List.mem_cons,List.not_mem_nil,or_false] at hv
 rcases hv with rfl | rfl | rfl | rfl | rfl | rfl
 ·exact ad8 _
 ·exact abr _ _ _
 ·exact abr _ _ _
 ·exact ad8 _
 ·exact abr _ _ _
 ·exact abr _ _ _
def af7 (f:List Int) (gs:Nat) (Ap:Option Addr) (lp cp:Nat) (z:Int) (q:Nat) (z':Int) (q':Nat) (k:Nat):Prop :=
 ∀ (F:Value) (N:Nat) (n:Bool) (A:Option Addr) (l c:Nat) (B:Option Addr) (m d:Nat) (n':Bool) (A':Option Addr) (l' c':Nat) (B':Option Addr) (m' d':Nat) (w:World),N+k<=1000000->Blk w gs 68 #[.slice Ap lp cp,F]->Fnd gs w F N->agv gs (fbk gs F) w Ap lp cp f ->
   aaA w n A l c z->aaT w B m d q->aaA w n' A' l' c' z'->aaT w B' m' d' q' ->
   Calls Tryz.prog 32 #[.pointer (some ⟨gs,0,none⟩),.agg #[.bool n,.slice A l c,.slice B m d],.agg #[.bool n',.slice A' l' c',.slice B' m' d'],.bool false,.bool false] w
    fun e w'=>(∃ v,e=.returned v)/\∃ F',Blk w' gs 68 #[.slice Ap lp cp,F']/\Fnd gs w' F' (N+k)/\FrS gs (fbk gs F) w w'/\(fbk gs F'=fbk gs F∨w.heap.size<=fbk gs F')
set_option maxRecDepth 100000 in
set_option maxHeartbeats 8000000 in
theorem agz (f:List Int) (ff:abw f) (gs:Nat) (Ap:Option Addr) (lp cp:Nat) (hl:lp<=900000) {z z':Int} {q q' k:Nat} (hf:ap2 f z q z' q')
 (hcase:(at7 f z q z' q'=0/\k=0)∨(at7 f z q z' q'=1/\k=1)∨(2<=at7 f z q z' q'/\∃ k1 k2,k=k1+k2/\ap1 f (mdz z q z' q') (mdq z q z' q')/\at6 f (mdz z q z' q') (mdq z q z' q')≠0 /\
   af7 f gs Ap lp cp z q (mdz z q z' q') (mdq z q z' q') k1/\af7 f gs Ap lp cp (mdz z q z' q') (mdq z q z' q') z' q' k2)):af7 f gs Ap lp cp z q z' q' k:=by
 intro F N n A l c B m d n' A' l' c' B' m' d' w hN hB hF hp hz hq hz' hq'
 obtain ⟨V,hV0⟩:∃ V,V=at7 f z q z' q':=⟨_,rfl⟩
 rw[<- hV0] at hcase
 have hV:Hid ((vst (abv f q q' z z') (abv f q q' z z').length).1=V):=Lh hV0.symm
 have ahS:=Lh hcase
 clear hV0 hcase
 have o1:=aak w (aa0 n A l c B m d)
 have o2:=aak (w.alloc (aa0 n A l c B m d)) (aa0 n' A' l' c' B' m' d')
 have b2:Below w.heap.size w ((w.alloc (aa0 n A l c B m d)).alloc (aa0 n' A' l' c' B' m' d')):=o1.alloc (by simp) _
 have R1:=(aci.make hz hq).move o2
 have R2:=aci.make (hz'.below o1) (hq'.below o1)
 simp only[World.size_alloc] at R2
 have hp2:=hp.below b2
 have hB2:=hB.below b2 hB.lt
 have hF2:=hF.below b2
 have hgl:=hB.lt
 have hfb:fbk gs F<w.heap.size:=by
  rcases hF with ⟨_,e⟩ | ⟨g,cap,e,ho,_⟩
  ·rw[e];exact hgl
  ·rw[e];exact ho.lt
 have HF:=Lh hf
 have x0:=(hB2.cell 0).trans rfl
 have a0:=R1.c0
 have a1:=R1.c1
 have a2:=R1.c2
 have d0:=R2.c0
 have d1:=R2.c1
 have d2:=R2.c2
 replace R1:=Lh R1
 replace R2:=Lh R2
 replace HP:=Lh hp2
 replace HB:=Lh hB2
 replace HFn:=Lh hF2
 have Hb:=Lh b2
 obtain ⟨wb,hwb⟩:∃ wb,wb=(w.alloc (aa0 n A l c B m d)).alloc (aa0 n' A' l' c' B' m' d'):=⟨_,rfl⟩
 clear o1 o2 b2 hz hq hz' hq' hp hB hF hp2 hB2 hF2 hf
 go_enter Tryz.func32,Tryz.ntmps32
 go_wp2_with fail
 rw[<- hwb] at R1 R2 HP HB HFn Hb a0 a1 a2 d0 d1 d2 x0 ⊢
 clear hwb
 go_region_held3 (fun w'=>w'.cell? ⟨gs,0,none⟩=some (.slice Ap lp cp)/\w'.cell? ⟨w.heap.size,0,none⟩=some (.bool n)/\w'.cell? ⟨w.heap.size,1,none⟩=some (.slice A l c)/\w'.cell? ⟨w.heap.size,2,none⟩=some (.slice B m d)/\w'.cell? ⟨w.heap.size+1,0,none⟩=some (.bool n')/\w'.cell? ⟨w.heap.size+1,1,none⟩=some (.slice A' l' c')/\w'.cell? ⟨w.heap.size+1,2,none⟩=some (.slice B' m' d')) (go_keep) (first
  | (go_at_call 66;go_must (refine (arn ikN _ _ _ _ _ _ _ _ _ _ _ _ _ _ _ _ _ _ _ _ _ _ _ ?_ (by omega) ff ?_ ?_ ?_ ?_ HF.out.u HF.out.v HF.out.p HF.out.u' HF.out.v' HF.out.p' HF.out.ok HF.out.sm HF.out.ln).mono ?_;(exact HP.out.n.below ikN Bel.go);(exact R1.out.hz.below Bel.go);(exact R1.out.hq.below Bel.go);(exact R2.out.hz.below Bel.go);(exact R2.out.hq.below Bel.go);rintro e w8 ⟨rfl,hb8⟩;rw[show (vst (abv f q q' z z') (abv f q q' z z').length).1=V from hV.out];have Hb8:Hid (Below wb.heap.size wb w8):=Lh (Below.trans Bel.go (hb8.mono (by simp<;>omega)));obtain ⟨hcx,hfx⟩:=aao hb8;have v0:w8.cell? ⟨gs,0,none⟩=some (.slice Ap lp cp):=(hcx _ (by go_simp)).trans (by go_simp);have v1:w8.cell? ⟨w.heap.size,0,none⟩=some (.bool n):=(hcx _ (by go_simp)).trans (by go_simp);have v2:w8.cell? ⟨w.heap.size,1,none⟩=some (.slice A l c):=(hcx _ (by go_simp)).trans (by go_simp);have v3:w8.cell? ⟨w.heap.size,2,none⟩=some (.slice B m d):=(hcx _ (by go_simp)).trans (by go_simp);have v4:w8.cell? ⟨w.heap.size+1,0,none⟩=some (.bool n'):=(hcx _ (by go_simp)).trans (by go_simp);have v5:w8.cell? ⟨w.heap.size+1,1,none⟩=some (.slice A' l' c'):=(hcx _ (by go_simp)).trans (by go_simp);have v6:w8.cell? ⟨w.heap.size+1,2,none⟩=some (.slice B' m' d'):=(hcx _ (by go_simp)).trans (by go_simp);clear hcx hfx hb8)))
 rename_i hHeld
 clear hHeld v0 v1 v2 v3 v4 v5 v6 a0 a1 a2 d0 d1 d2 x0
 have hb8:=Hb8.out
 replace R1:=Lh (R1.out.move hb8)
 replace R2:=Lh (R2.out.move hb8)
 replace HP:=Lh (HP.out.below hb8)
 replace HB:=Lh (HB.out.below hb8 HB.out.lt)
 replace HFn:=Lh (HFn.out.below hb8)
 replace Hb:=Lh (Hb.out.trans (hb8.mono Hb.out.size))
 clear Hb8 hb8
 rcases ahS.out with ⟨hv,hk⟩ | ⟨hv,hk⟩ | ⟨hv,k1,k2,hk,hat,hsg,ih1,ih2⟩
 ·subst hk
  subst hv
  clear ahS
  go_wp2_with fail
  exact bodyPost_ret (results_none (by rfl) _ _ _) rfl ⟨⟨_,rfl⟩,F,HB.out,HFn.out,FrS.of_below Hb.out,.inl rfl⟩
 ·subst hk
  subst hv
  clear ahS
  have x1:=(HB.out.cell 1).trans rfl
  have a0:=R1.out.c0
  have a1:=R1.out.c1
  have a2:=R1.out.c2
  have d0:=R2.out.c0
  have d1:=R2.out.c1
  have d2:=R2.out.c2
  have aAH:=HB.out.lt
  have hl1:=R1.out.lt
  have nq1:gs≠w.heap.size:=by omega
  have nq2:gs≠w.heap.size+1:=by omega
  have hl2:=R2.out.lt
  have hbs:=Hb.out.size
  have fu:=HF.out.u
  have fv:=HF.out.v
  have fp:=HF.out.p
  have fu':=HF.out.u'
  have fv':=HF.out.v'
  have fp':=HF.out.p'
  clear HP
  go_wp2_with fail
  refine abM (S:=fun w'=>w'.cell? ⟨w.heap.size,0,none⟩=some (.bool n)/\w'.cell? ⟨w.heap.size,1,none⟩=some (.slice A l c)/\w'.cell? ⟨w.heap.size,2,none⟩=some (.slice B m d)/\w'.cell? ⟨w.heap.size+1,0,none⟩=some (.bool n')/\w'.cell? ⟨w.heap.size+1,1,none⟩=some (.slice A' l' c')/\w'.cell? ⟨w.heap.size+1,2,none⟩=some (.slice B' m' d')/\w'.cell? ⟨gs,1,none⟩=some (F)) (by kernel_rfl) (by kernel_rfl) (by (try dsimp only);go_keep) (fun hHeld=>?_)
  simp only[List.pop_toArray,List.dropLast]
  (refine tq 0 ?_;simp only[aac,List.set])
  (refine tq 1 ?_;simp only[aac,List.set])
  (refine tq 2 ?_;simp only[aac,List.set])
  (refine tq 3 ?_;simp only[aac,List.set])
  (refine tq 4 ?_;simp only[aac,List.set])
  (refine tq 5 ?_;simp only[aac,List.set])
  (refine tq 7 ?_;simp only[aac,List.set])
  refine rdy 6 (fun K hK=>?_);go_simp
  refine (abS _ _ _ _ _ _ _ _ _ _ (R1.out.hz.below Bel.go) (R1.out.hq.below Bel.go) (aeF fu) (aeE fv) fp).mono ?_
  rintro e w7 ⟨⟨n7,A7,l7,c7,B7,m7,d7,rfl,h7,k7⟩,hb7⟩
  obtain ⟨hcx,hfx⟩:=aao hb7
  replace R2:=Lh (R2.out.move (Below.trans Bel.go (hb7.mono (by simp<;>omega))))
  have hbz:Below w8.heap.size w8 w7:=(Below.trans Bel.go (hb7.mono (by simp<;>omega)))
  replace HB:=Lh (HB.out.below hbz HB.out.lt)
  replace HFn:=Lh (HFn.out.below hbz)
  replace Hb:=Lh (Hb.out.trans (hbz.mono Hb.out.size))
  refine hK.out _ _ ?_ (fun _=>?_)
  ·((try dsimp only);repeat' apply And.intro)<;>(rw[hcx _ (by go_simp)];go_simp)
  clear hHeld hK K hcx hfx;rename_i hHeld
  have hs7:=hbz.size
  clear h7 k7 hb7 hbz R1
  refine rdy 8 (fun K hK=>?_);go_simp
  refine (abS _ _ _ _ _ _ _ _ _ _ (R2.out.hz.below Bel.go) (R2.out.hq.below Bel.go) (aeF fu') (aeE fv') fp').mono ?_
  rintro e w9 ⟨⟨n9,A9,l9,c9,B9,m9,d9,rfl,h9,k9⟩,hb9⟩
  obtain ⟨hcx,hfx⟩:=aao hb9
  have hbz:Below w7.heap.size w7 w9:=(Below.trans Bel.go (hb9.mono (by simp<;>omega)))
  replace HB:=Lh (HB.out.below hbz HB.out.lt)
  replace HFn:=Lh (HFn.out.below hbz)
  replace Hb:=Lh (Hb.out.trans (hbz.mono Hb.out.size))
  refine hK.out _ _ ?_ (fun _=>?_)
  ·((try dsimp only);repeat' apply And.intro)<;>(rw[hcx _ (by go_simp)];go_simp)
  clear hHeld hK K hcx hfx;rename_i hHeld
  have hs9:=hbz.size
  clear h9 k9 hb9 hbz R2
  (refine tq 9 ?_;simp only[aac,List.set])
  refine rdy 10 (fun K hK=>?_);go_simp
  refine hK.out _ _ ?_ (fun _=>?_)
  ·(try dsimp only);go_keep
  clear hHeld hK K
  rename_i hHeld
  (try (simp only[aac,List.set]))
  refine rdy 11 (fun K hK=>?_)
  rw[if_pos (by rfl)]
  have nd6:=avV n7 A7 l7 c7 B7 m7 d7 n9 A9 l9 c9 B9 m9 d9
  refine agU (.tmp 36) (.tmp 42) rfl gs F N rfl (HFn.out.below Bel.go) (by have:=HB.out.lt;simp;omega) w9.heap.size [.bool n7,.slice A7 l7 c7,.slice B7 m7 d7,.bool n9,.slice A9 l9 c9,.slice B9 m9 d9] rfl rfl (aeK _ _ _) nd6 (by omega) 43 rfl ?_
  intro F' w10 hgr
  obtain ⟨g2,cap2,eF2⟩:=hgr.slice
  subst eF2
  have jb:=aak w9 (.cells #[.bool n7,.slice A7 l7 c7,.slice B7 m7 d7,.bool n9,.slice A9 l9 c9,.slice B9 m9 d9] 40)
  have hbk:=HB.out.below jb HB.out.lt
  have FIN:=Lh (hgr.fin hbk (Hb.out.trans (jb.mono Hb.out.size)))
  have z7:w10.cell? ⟨gs,1,none⟩=some F:=((hgr.blk hbk).cell 1).trans rfl
  have z8:w10.frozen? ⟨gs,1,none⟩=false:=(hgr.blk hbk).frozen 1
  refine hK.out _ _ ?_ (fun _=>?_)
  ·refine ⟨?_,?_,?_,?_,?_,?_,z7⟩<;>(refine (hgr.cell (by simp;omega) (by omega) _).trans ?_;go_simp)
  clear hHeld hK K hgr hbk jb
  rename_i hHeld
  simp only[aac,List.set]
  (refine tq 12 ?_;simp only[aac,List.set])
  (refine tq 13 ?_;simp only[aac,List.set])
  refine wpAnyH_done (by kernel_rfl) (aaV rfl ?_) _
  clear hHeld HB HFn Hb x1 a0 a1 a2 d0 d1 d2
  go_wp2_with fail
  exact bodyPost_ret (results_none (by rfl) _ _ _) rfl ⟨⟨_,rfl⟩,_,FIN.out⟩
 ·subst hk
  clear ahS
  have hv0:((V:Int) == 0)=false:=by rw[beq_eq_false_iff_ne];omega
  have hv1:((V:Int) == 1)=false:=by rw[beq_eq_false_iff_ne];omega
  have a0:=R1.out.c0
  have a1:=R1.out.c1
  have a2:=R1.out.c2
  have d0:=R2.out.c0
  have d1:=R2.out.c1
  have d2:=R2.out.c2
  have fz:=aeF HF.out.u
  have fq:=aeE HF.out.v
  have fz':=aeF HF.out.u'
  have fq':=aeE HF.out.v'
  have fp:=HF.out.p
  have fp':=HF.out.p'
  have Hat:=Lh hat
  have Ih1:=Lh ih1
  have Ih2:=Lh ih2
  have hdc:decide (at6 f (mdz z q z' q') (mdq z q z' q')=0)=false:=decide_eq_false hsg
  have Hdc:=Lh hdc
  clear hat ih1 ih2 hsg hdc
  go_wp2_with fail
  refine (alu _ _ _ _ _ _ _ _ _ _ _ _ _ _ _ _ _ _ _ R1.out.hz R1.out.hq R2.out.hz R2.out.hq fz fq fp fz' fq' fp').mono ?_
  rintro e w9 ⟨⟨n9,A9,l9,c9,B9,m9,d9,rfl,h9,k9⟩,hb9⟩
  replace h9:aaA w9 n9 A9 l9 c9 (mdz z q z' q'):=h9
  replace k9:aaT w9 B9 m9 d9 (mdq z q z' q'):=k9
  have jb:=aak w9 (aa0 n9 A9 l9 c9 B9 m9 d9)
  have hbj:=hb9.trans (jb.mono hb9.size)
  have r11:=aci.make h9 k9
  have azP:w.heap.size+1<w9.heap.size:=Nat.lt_of_lt_of_le R2.out.lt hb9.size
  replace R1:=Lh (R1.out.move hbj)
  replace R2:=Lh (R2.out.move hbj)
  replace HP:=Lh (HP.out.below hbj)
  replace HB:=Lh (HB.out.below hbj HB.out.lt)
  replace HFn:=Lh (HFn.out.below hbj)
  replace Hb:=Lh (Hb.out.trans (hbj.mono Hb.out.size))
  obtain ⟨g11,e11⟩:∃ g,g=w9.heap.size:=⟨_,rfl⟩
  rw[<- e11] at r11
  have R11:=Lh r11
  clear h9 k9 hb9 jb hbj r11 a0 a1 a2 d0 d1 d2
  go_wp2_with fail
  rw[<- e11]
  refine (afw _ _ _ _ _ _ _ _ _ _ _ _ _ _ _ _ HB.out HP.out.n ff (by omega) R11.out.hz R11.out.hq Hat.out).mono ?_
  rintro e w10 ⟨rfl,abN⟩
  rw[Hdc.out]
  replace R1:=Lh (R1.out.move abN)
  replace R2:=Lh (R2.out.move abN)
  replace R11:=Lh (R11.out.move abN)
  replace HP:=Lh (HP.out.below abN)
  replace HB:=Lh (HB.out.below abN HB.out.lt)
  replace HFn:=Lh (HFn.out.below abN)
  replace Hb:=Lh (Hb.out.trans (abN.mono Hb.out.size))
  rw[<- e11] at azP
  clear abN e11
  have a0:=R1.out.c0
  have a1:=R1.out.c1
  have a2:=R1.out.c2
  have d0:=R11.out.c0
  have d1:=R11.out.c1
  have d2:=R11.out.c2
  go_wp2_with fail
  refine (Ih1.out F N _ _ _ _ _ _ _ _ _ _ _ _ _ _ w10 (by omega) HB.out HFn.out HP.out R1.out.hz R1.out.hq R11.out.hz R11.out.hq).mono ?_
  rintro e w12 ⟨⟨v12,rfl⟩,F',hB',hF',hfr,atG⟩
  obtain ⟨nd1,nd2⟩:=apy HB.out HFn.out
  have R2':=Lh (R2.out.frs hfr nd1 nd2 (by omega) (by omega))
  have auq:=Lh (R11.out.frs hfr nd1 nd2 (by omega) (by omega))
  have HP':=Lh (HP.out.next hfr nd1 nd2 atG)
  have HB':=Lh hB'
  have ayH:=Lh hF'
  have Hfr:=Lh (FrS.trans (g1:=fbk gs F) (FrS.of_below Hb.out) hfr (.inl rfl))
  have axt:=Lh (show fbk gs F'=fbk gs F∨w.heap.size<=fbk gs F' from atG.imp id (fun h=>Nat.le_trans Hb.out.size h))
  clear hB' hF' hfr atG nd1 nd2 a0 a1 a2 d0 d1 d2 R1 R2 R11 HP HB HFn Hb
  have a0:=R2'.out.c0
  have a1:=R2'.out.c1
  have a2:=R2'.out.c2
  have d0:=auq.out.c0
  have d1:=auq.out.c1
  have d2:=auq.out.c2
  go_wp2_with fail
  refine (Ih2.out F' (N+k1) _ _ _ _ _ _ _ _ _ _ _ _ _ _ w12 (by omega) HB'.out ayH.out HP'.out auq.out.hz auq.out.hq R2'.out.hz R2'.out.hq).mono ?_
  rintro e w13 ⟨⟨v13,rfl⟩,F2,hB2,hF2,hfr2,ayI⟩
  have azB:=Hfr.out.size
  have FIN:Hid (∃ F',Blk w13 gs 68 #[.slice Ap lp cp,F']/\Fnd gs w13 F' (N+(k1+k2))/\FrS gs (fbk gs F) w w13/\(fbk gs F'=fbk gs F∨w.heap.size<=fbk gs F')):=Lh ⟨F2,hB2,by rw[<- Nat.add_assoc];exact hF2,Hfr.out.trans hfr2 axt.out,by
   rcases ayI with h | h
   ·rw[h];exact axt.out
   ·exact .inr (by omega)⟩
  clear hB2 hF2 hfr2 ayI a0 a1 a2 d0 d1 d2 R2' auq HP' HB' ayH Hfr axt
  go_wp2_with fail
  exact bodyPost_end (results_none (by rfl) _ _ _) rfl ⟨⟨_,rfl⟩,FIN.out⟩
theorem ap3 (f:List Int) (ff:abw f) (gs:Nat) (Ap:Option Addr) (lp cp:Nat) (hl:lp<=900000) {z z':Int} {q q' k:Nat} (hd:DSp f z q z' q' k):af7 f gs Ap lp cp z q z' q' k:=by
 induction hd with
 | none hf hv=>exact agz f ff gs Ap lp cp hl hf (.inl ⟨hv,rfl⟩)
 | one hf hv=>exact agz f ff gs Ap lp cp hl hf (.inr (.inl ⟨hv,rfl⟩))
 | node hf hv hm hs h1 h2 ih1 ih2=>exact agz f ff gs Ap lp cp hl hf (.inr (.inr ⟨hv,_,_,rfl,hm,hs,ih1,ih2⟩))
end Go.Proofs.YtkefcldcfeolbaaGreat
namespace Go.Proofs.YtkefcldcfeolbaaGreat
open Go.RowKit
theorem adP {n:Nat} (h:n<=1000):U64 n:=by
 unfold U64
 have:=aaI
 have e:1001<=BB:=by rw[aan];omega
 have h3:BB*1<=BB*BB:=Nat.mul_le_mul_left _ (by omega)
 omega
theorem ae6 {n:Nat} (h:n<=1000):n<BB:=by rw[aan];omega
theorem alC {z z':Int} (h:∀ k,k<3->(∀ c∈(trs w2 z z' 1 k).1,c.natAbs<=100)/\(∀ c∈(trs w2 z z' 1 k).2.1,c.natAbs<=100)/\(trs w2 z z' 1 k).2.2.natAbs<=100/\(trs w2 z z' 1 k).1.length<=10/\(trs w2 z z' 1 k).2.1.length<=10) (hz:z.natAbs<=100) (hz':z'.natAbs<=100):awe w2 z z' 1 :=
 ⟨abq hz,abq hz',abq (by decide),fun k hk=>by
   obtain ⟨a,b,c,d,e⟩:=h k hk
   exact ⟨aaU a,aaU b,abq c,by omega,by omega⟩⟩
theorem aua:aaf w2=w2:=by decide
theorem ap4 {z z':Int} (eP:cdP 1 1 z z'=z) (eQ:cdQ 1 1 z z'=z') (eD:cdD 1 1 z z'=1) (ht:awe w2 z z' 1) (hn:aad (trs w2 z z' 1 2).1≠0) (hz:z.natAbs<=100) (hz':z'.natAbs<=100) {p:List Int} (hp:abv w2 1 1 z z'=p) (hs:∀ c∈p,c.natAbs<=100) (hl:p.length<=10):ap2 w2 z 1 z' 1:=by
 refine ⟨adP (by omega),ae6 (by omega),by omega,adP (by omega),ae6 (by omega),by omega,fun _ _=>?_,by rw[hp];exact (aaU hs).smp,by rw[hp];omega⟩
 rw[aua,eP,eQ,eD]
 exact ⟨ht,hn,by decide⟩
theorem avW:DSp w2 (-3) 1 3 1 2:=by
 have e0:mdz (-3) 1 3 1=0:=by decide
 have e1:mdq (-3) 1 3 1=1:=by decide
 refine DSp.node (k1:=1) (k2:=1) (ap4 (by decide) (by decide) (by decide) (alC (by decide) (by decide) (by decide)) (by decide) (by decide) (by decide) (p:=[7,-22,7]) (by decide) (by decide) (by decide)) (by decide) ?_ ?_ ?_ ?_
 ·rw[e0,e1]
  refine ⟨adP (by decide),ae6 (by omega),by omega,?_,abq (by decide),abq (by decide)⟩
  have h:∀ t,t<=aad w2->(scs (aaf w2) ((0:Int).tdiv (Nat.gcd (0:Int).natAbs 1)) ((1 / Nat.gcd (0:Int).natAbs 1:Nat):Int) (aad w2) t).1.natAbs<=100/\(scs (aaf w2) ((0:Int).tdiv (Nat.gcd (0:Int).natAbs 1)) ((1 / Nat.gcd (0:Int).natAbs 1:Nat):Int) (aad w2) t).2.natAbs<=100:=by decide
  exact fun t ht=>⟨abq (h t ht).1,abq (h t ht).2⟩
 ·rw[e0,e1];decide
 ·rw[e0,e1]
  exact DSp.one (ap4 (by decide) (by decide) (by decide) (alC (by decide) (by decide) (by decide)) (by decide) (by decide) (by decide) (p:=[7,-4,-2]) (by decide) (by decide) (by decide)) (by decide)
 ·rw[e0,e1]
  exact DSp.one (ap4 (by decide) (by decide) (by decide) (alC (by decide) (by decide) (by decide)) (by decide) (by decide) (by decide) (p:=[-2,-4,7]) (by decide) (by decide) (by decide)) (by decide)
theorem avX:cau w2=3:=by decide
theorem aro:asx w2:=akR (by decide) (by decide) (by decide)
structure alD (W:World) (gs:Nat) (A:Option Addr) (l c:Nat) (g5 g6:Nat) (n5:Bool) (A5:Option Addr) (l5 c5:Nat) (B5:Option Addr) (m5 d5:Nat) (z5:Int) (q5:Nat) (n6:Bool) (A6:Option Addr) (l6 c6:Nat) (B6:Option Addr) (m6 d6:Nat) (z6:Int) (q6 k:Nat) (w':World):Prop where
 r5:aci w' g5 n5 A5 l5 c5 B5 m5 d5 z5 q5
 r6:aci w' g6 n6 A6 l6 c6 B6 m6 d6 z6 q6
 fr:FrS gs gs W w'
 f:∃ F',Blk w' gs 68 #[.slice A l c,F']/\Fnd gs w' F' k
theorem arp {W W1 w':World} {gs l c g5 g6 k:Nat} {A:Option Addr} {n5 n6:Bool} {A5 B5 A6 B6:Option Addr} {l5 c5 m5 d5 l6 c6 m6 d6 q5 q6:Nat} {z5 z6:Int} {F':Value} (hb:Below W.heap.size W W1) (hB:Blk W gs 68 #[.slice A l c,.slice none 0 0]) (hfr:FrS gs (fbk gs (.slice none 0 0)) W1 w') (hB':Blk w' gs 68 #[.slice A l c,F']) (hF:Fnd gs w' F' (0+k))
 (r5:aci W g5 n5 A5 l5 c5 B5 m5 d5 z5 q5) (r6:aci W g6 n6 A6 l6 c6 B6 m6 d6 z6 q6) (h5:g5≠gs) (h6:g6≠gs):alD W gs A l c g5 g6 n5 A5 l5 c5 B5 m5 d5 z5 q5 n6 A6 l6 c6 B6 m6 d6 z6 q6 k w':=by
 have hB1:=hB.below hb hB.lt
 obtain ⟨nd1,nd2⟩:=apy hB1 (.inl ⟨rfl,rfl⟩:Fnd gs W1 (.slice none 0 0) 0)
 exact ⟨(r5.move hb).frs hfr nd1 nd2 h5 h5,(r6.move hb).frs hfr nd1 nd2 h6 h6,FrS.trans (FrS.of_below hb) hfr (.inl rfl),F',hB',by rw[Nat.zero_add] at hF;exact hF⟩
theorem alD.two {W w':World} {gs l c g5 g6:Nat} {A:Option Addr} {n5 n6:Bool} {A5 B5 A6 B6:Option Addr} {l5 c5 m5 d5 l6 c6 m6 d6 q5 q6:Nat} {z5 z6:Int} (h:alD W gs A l c g5 g6 n5 A5 l5 c5 B5 m5 d5 z5 q5 n6 A6 l6 c6 B6 m6 d6 z6 q6 2 w'):∃ g cap,w'.cell? ⟨gs,1,none⟩=some (.slice (some ⟨g,0,none⟩) 2 cap):=by
 obtain ⟨F',hB,hF⟩:=h.f
 rcases hF with ⟨h0,_⟩ | ⟨g,cap,e,_⟩
 ·omega
 ·exact ⟨g,cap,(hB.cell 1).trans (by rw[e];rfl)⟩
set_option maxRecDepth 100000 in
set_option maxHeartbeats 4000000 in
theorem arq (A:Option Addr) (la ca:Nat) (w:World) (hf:aaB w A la ca w2) :
 Calls Tryz.prog 13 #[.slice A la ca] w fun e w'=>∃ A' c',e=.returned (.slice A' 2 c')/\Below w.heap.size w w':=by
 go_enter Tryz.func13,Tryz.ntmps13
 go_wp2_with fail
 refine (atb _ _ _ _ hf).mono ?_
 rintro e w1 ⟨A1,l1,c1,rfl,h1,hb1⟩
 have hl1:l1=3:=h1.length.symm
 subst hl1
 have H1:=Lh h1
 have Hb:=Lh hb1
 have s2:abw w2:=aaU (by decide)
 have hpl:aad w2=3:=by decide
 clear hf h1 hb1
 go_wp2_with fail
 refine (aaO _ _ _ _ _ (H1.out.at_ ikN) s2.smp (by omega)).mono ?_
 rintro e w2' ⟨rfl,hb2⟩
 rw[hpl]
 replace H1:=Lh (H1.out.below ikN hb2)
 replace Hb:=Lh (Hb.out.trans (hb2.mono Hb.out.size))
 have jb:=aak w2' (.cells #[.slice A1 3 c1,.slice none 0 0] 68)
 have hbk:Blk (w2'.alloc (.cells #[.slice A1 3 c1,.slice none 0 0] 68)) w2'.heap.size 68 #[.slice A1 3 c1,.slice none 0 0]:=Blk.new _ _ _
 have hpg:agv w2'.heap.size w2'.heap.size (w2'.alloc (.cells #[.slice A1 3 c1,.slice none 0 0] 68)) A1 3 c1 w2:=by
  refine ⟨H1.out.below ikN jb,?_⟩
  rcases H1.out.elems with h0 | ⟨b,o,hA,hlt,_⟩
  ·exact .inl h0
  ·exact .inr ⟨b,o,hA,by omega,by omega⟩
 have HB:=Lh hbk
 have HP:=Lh hpg
 have hgw:=Hb.out.size
 replace H1:=Lh (H1.out.below ikN jb)
 replace Hb:=Lh (Hb.out.trans (jb.mono Hb.out.size))
 obtain ⟨wa,hwa⟩:∃ wa,wa=w2'.alloc (.cells #[.slice A1 3 c1,.slice none 0 0] 68):=⟨_,rfl⟩
 obtain ⟨gs,hgs⟩:∃ gs,gs=w2'.heap.size:=⟨_,rfl⟩
 rw[<- hwa,<- hgs] at HB HP
 rw[<- hwa] at H1 Hb
 rw[<- hgs] at hgw
 clear hb2 jb hbk hpg
 go_wp2_with fail
 rw[<- hwa,<- hgs]
 clear hwa hgs
 refine (amY ikN _ _ _ _ _ H1.out s2.smp (by omega) (fun _=>aro)).mono ?_
 rintro e w3 ⟨n3,A3,l3,c3,rfl,h3,hb3⟩
 rw[avX] at h3
 replace HB:=Lh (HB.out.below hb3 HB.out.lt)
 replace HP:=Lh (HP.out.below hb3)
 replace Hb:=Lh (Hb.out.trans (hb3.mono Hb.out.size))
 have H3:=Lh h3
 have f3:Fit (3:Int):=abq (by decide)
 clear h3 hb3 H1
 go_wp2_with fail
 refine (akl _ _ _ _ _ _ H3.out.at_ f3.sm).mono ?_
 rintro e w4 ⟨⟨n5,A5,l5,c5,B5,m5,d5,rfl,h5,k5⟩,hb4⟩
 have jb:=aak w4 (aa0 n5 A5 l5 c5 B5 m5 d5)
 have hbj:=hb4.trans (jb.mono hb4.size)
 have r5:=aci.make h5 k5
 have awd:gs<w4.heap.size:=Nat.lt_of_lt_of_le HB.out.lt hb4.size
 replace HB:=Lh (HB.out.below hbj HB.out.lt)
 replace HP:=Lh (HP.out.below hbj)
 replace Hb:=Lh (Hb.out.trans (hbj.mono Hb.out.size))
 obtain ⟨g5,e5⟩:∃ g,g=w4.heap.size:=⟨_,rfl⟩
 have hg5:gs<g5:=by rw[e5];exact awd
 rw[<- e5] at r5
 have R5:=Lh r5
 clear h5 k5 hb4 jb hbj r5 H3
 go_wp2_with fail
 rw[<- e5]
 clear e5
 refine (aiu _ _ _ _ _ _ _ _ _ _ R5.out.hz R5.out.hq (aeF (adP (by decide))) (aeE (ae6 (by omega))) (by omega)).mono ?_
 rintro e w6 ⟨⟨n6,A6,l6,c6,B6,m6,d6,rfl,h6,k6⟩,hb6⟩
 replace h6:aaA w6 n6 A6 l6 c6 (-3):=h6
 replace k6:aaT w6 B6 m6 d6 1:=k6
 have jb:=aak w6 (aa0 n6 A6 l6 c6 B6 m6 d6)
 have hbj:=hb6.trans (jb.mono hb6.size)
 have r6:=aci.make h6 k6
 have azQ:g5<w6.heap.size:=Nat.lt_of_lt_of_le R5.out.lt hb6.size
 replace HB:=Lh (HB.out.below hbj HB.out.lt)
 replace HP:=Lh (HP.out.below hbj)
 replace Hb:=Lh (Hb.out.trans (hbj.mono Hb.out.size))
 replace R5:=Lh (R5.out.move hbj)
 obtain ⟨g6,e6⟩:∃ g,g=w6.heap.size:=⟨_,rfl⟩
 rw[<- e6] at r6 azQ
 have R6:=Lh r6
 obtain ⟨wk,hwk⟩:∃ wk,wk=w6.alloc (aa0 n6 A6 l6 c6 B6 m6 d6):=⟨_,rfl⟩
 clear h6 k6 hb6 jb hbj r6
 go_wp2_with fail
 rw[<- hwk] at R5 R6 HB HP Hb ⊢
 rw[<- e6]
 clear hwk e6
 have x0:=R5.out.c0
 have x1:=R5.out.c1
 have x2:=R5.out.c2
 have y0:=R6.out.c0
 have y1:=R6.out.c1
 have y2:=R6.out.c2
 have axg:g5≠gs:=by omega
 have azR:g6≠gs:=by omega
 have at1:ap1 w2 (-3) 1:=by
  refine ⟨adP (by decide),ae6 (by omega),by omega,?_,abq (by decide),abq (by decide)⟩
  have h:∀ t,t<=aad w2->(scs (aaf w2) ((-3:Int).tdiv (Nat.gcd (-3:Int).natAbs 1)) ((1 / Nat.gcd (-3:Int).natAbs 1:Nat):Int) (aad w2) t).1.natAbs<=100/\(scs (aaf w2) ((-3:Int).tdiv (Nat.gcd (-3:Int).natAbs 1)) ((1 / Nat.gcd (-3:Int).natAbs 1:Nat):Int) (aad w2) t).2.natAbs<=100:=by decide
  exact fun t ht=>⟨abq (h t ht).1,abq (h t ht).2⟩
 have at2:ap1 w2 3 1:=by
  refine ⟨adP (by decide),ae6 (by omega),by omega,?_,abq (by decide),abq (by decide)⟩
  have h:∀ t,t<=aad w2->(scs (aaf w2) ((3:Int).tdiv (Nat.gcd (3:Int).natAbs 1)) ((1 / Nat.gcd (3:Int).natAbs 1:Nat):Int) (aad w2) t).1.natAbs<=100/\(scs (aaf w2) ((3:Int).tdiv (Nat.gcd (3:Int).natAbs 1)) ((1 / Nat.gcd (3:Int).natAbs 1:Nat):Int) (aad w2) t).2.natAbs<=100:=by decide
  exact fun t ht=>⟨abq (h t ht).1,abq (h t ht).2⟩
 have sp1:decide (at6 w2 (-3) 1=0)=false:=by decide
 have sp2:decide (at6 w2 3 1=0)=false:=by decide
 have At1:=Lh at1
 have At2:=Lh at2
 have Sp1:=Lh sp1
 have Sp2:=Lh sp2
 have SPL:=Lh (ap3 w2 s2 gs A1 3 c1 (by omega) avW)
 clear at1 at2 sp1 sp2
 go_region_held3 (fun w'=>w'.cell? ⟨g5,0,none⟩=some (.bool n5)/\w'.cell? ⟨g5,1,none⟩=some (.slice A5 l5 c5)/\w'.cell? ⟨g5,2,none⟩=some (.slice B5 m5 d5)/\w'.cell? ⟨g6,0,none⟩=some (.bool n6)/\w'.cell? ⟨g6,1,none⟩=some (.slice A6 l6 c6)/\w'.cell? ⟨g6,2,none⟩=some (.slice B6 m6 d6)) (go_keep) (first
  | (go_at_call 33;(have _hx:=G7);go_must (refine (afw gs A1 3 c1 (.slice none 0 0) w2 _ _ _ _ _ _ _ _ _ _ ?_ ?_ s2 (by omega) ?_ ?_ At2.out).mono ?_;(exact ((HB.out.below G7.out HB.out.lt).below Bel.go (HB.out.below G7.out HB.out.lt).lt));(exact ((HP.out.below G7.out).below Bel.go).n);(exact (R5.out.move G7.out).hz.below Bel.go);(exact (R5.out.move G7.out).hq.below Bel.go);rintro e w9 ⟨rfl,hb9⟩;rw[Sp2.out];have G9:Hid (Below wk.heap.size wk w9):=Lh (G7.out.trans ((Below.trans Bel.go (hb9.mono (by simp<;>omega))).mono G7.out.size));obtain ⟨hcx,hfx⟩:=aao hb9;have j0:World.cell? w9 ⟨g5,0,none⟩=some (.bool n5):=(hcx _ (by go_simp)).trans (by go_simp);have j1:World.cell? w9 ⟨g5,1,none⟩=some (.slice A5 l5 c5):=(hcx _ (by go_simp)).trans (by go_simp);have j2:World.cell? w9 ⟨g5,2,none⟩=some (.slice B5 m5 d5):=(hcx _ (by go_simp)).trans (by go_simp);have j3:World.cell? w9 ⟨g6,0,none⟩=some (.bool n6):=(hcx _ (by go_simp)).trans (by go_simp);have j4:World.cell? w9 ⟨g6,1,none⟩=some (.slice A6 l6 c6):=(hcx _ (by go_simp)).trans (by go_simp);have j5:World.cell? w9 ⟨g6,2,none⟩=some (.slice B6 m6 d6):=(hcx _ (by go_simp)).trans (by go_simp);clear hcx hfx hb9))
  | (go_at_call 33;go_must (refine (afw gs A1 3 c1 (.slice none 0 0) w2 _ _ _ _ _ _ _ _ _ _ ?_ ?_ s2 (by omega) ?_ ?_ At1.out).mono ?_;(exact HB.out.below Bel.go HB.out.lt);(exact (HP.out.below Bel.go).n);(exact R6.out.hz.below Bel.go);(exact R6.out.hq.below Bel.go);rintro e w7 ⟨rfl,hb7⟩;rw[Sp1.out];have G7:Hid (Below wk.heap.size wk w7):=Lh (Below.trans Bel.go (hb7.mono (by simp<;>omega)));obtain ⟨hcx,hfx⟩:=aao hb7;have i0:World.cell? w7 ⟨g5,0,none⟩=some (.bool n5):=(hcx _ (by go_simp)).trans (by go_simp);have i1:World.cell? w7 ⟨g5,1,none⟩=some (.slice A5 l5 c5):=(hcx _ (by go_simp)).trans (by go_simp);have i2:World.cell? w7 ⟨g5,2,none⟩=some (.slice B5 m5 d5):=(hcx _ (by go_simp)).trans (by go_simp);have i3:World.cell? w7 ⟨g6,0,none⟩=some (.bool n6):=(hcx _ (by go_simp)).trans (by go_simp);have i4:World.cell? w7 ⟨g6,1,none⟩=some (.slice A6 l6 c6):=(hcx _ (by go_simp)).trans (by go_simp);have i5:World.cell? w7 ⟨g6,2,none⟩=some (.slice B6 m6 d6):=(hcx _ (by go_simp)).trans (by go_simp);clear hcx hfx hb7))
  | (go_at_call 32;go_must (refine (SPL.out (.slice none 0 0) 0 _ _ _ _ _ _ _ _ _ _ _ _ _ _ _ (by omega) ?_ ?_ ?_ ?_ ?_ ?_ ?_).mono ?_;(exact ((HB.out.below G9.out HB.out.lt).below Bel.go (HB.out.below G9.out HB.out.lt).lt));(exact Or.inl ⟨rfl,rfl⟩);(exact ((HP.out.below G9.out).below Bel.go));(exact (R6.out.move G9.out).hz.below Bel.go);(exact (R6.out.move G9.out).hq.below Bel.go);(exact (R5.out.move G9.out).hz.below Bel.go);(exact (R5.out.move G9.out).hq.below Bel.go);rintro e w12 ⟨⟨v12,rfl⟩,F',hB',hF',hfr,-⟩;have hst:=arp (Below.trans G9.out Bel.go) HB.out hfr hB' hF' R5.out R6.out axg azR;have ST:=Lh hst;have k0:=hst.r5.c0;have k1:=hst.r5.c1;have k2:=hst.r5.c2;have k3:=hst.r6.c0;have k4:=hst.r6.c1;have k5:=hst.r6.c2;clear hst hB' hF' hfr)))
 rename_i hHeld
 obtain ⟨g,cap,hc⟩:=ST.out.two
 have hbf:Below w.heap.size w w12:=ST.out.fr.mono Hb.out hgw hgw Hb.out.size
 have Hbf:=Lh hbf
 clear hHeld hbf ST k0 k1 k2 k3 k4 k5 j0 j1 j2 j3 j4 j5 i0 i1 i2 i3 i4 i5 x0 x1 x2 y0 y1 y2 G7 G9 R5 R6 HB HP Hb
 go_wp2_with fail
 go_ret
 exact ⟨_,_,rfl,Hbf.out⟩
end Go.Proofs.YtkefcldcfeolbaaGreat
namespace Go.Proofs.YtkefcldcfeolbaaGreat
open Go Go.RowKit
theorem avY (w:World):afl (w.alloc (.cells #[.int .i64 (-2),.int .i64 0,.int .i64 1] 2)) (some ⟨w.heap.size,0,none⟩) 3 3 w2:=by
 refine ⟨rfl,by omega,.inr ⟨w.heap.size,0,rfl,by simp,fun j hj=>?_⟩⟩
 match j,hj with
 | 0,_=>simp[w2]
 | 1,_=>simp[w2]
 | 2,_=>simp[w2]
theorem ars:aaf w2=w2:=by decide
end Go.Proofs.YtkefcldcfeolbaaGreat
namespace Go.Proofs.YtkefcldcfeolbaaGreat
open Go Go.RowKit
theorem aub:nall w2=2:=by decide +kernel
set_option maxHeartbeats 1000000 in
theorem aeb (w:World) :
 Calls Tryz.prog 4 #[] w fun e w'=>e=.returned (.bool true)/\Below w.heap.size w w':=by
 have jb:=aak w (.cells #[.int .i64 (-2),.int .i64 0,.int .i64 1] 2)
 have hat:=avY w
 have Hb:=Lh jb
 clear jb
 go_enter Tryz.func4,Tryz.ntmps4
 go_wp2_with fail
 refine (akO _ _ _ _ _ hat (by intro c hc;simp[w2] at hc;rcases hc with rfl | rfl | rfl<;>(unfold I64;omega)) (by omega)).mono ?_
 rintro e w1 ⟨A1,l1,c1,rfl,h1,hb1⟩
 rw[show aaf w2=w2 from ars] at h1
 have hl1:l1<=3:=by have:=h1.length;have e:w2.length=3:=rfl;omega
 replace Hb:=Lh (Hb.out.trans (hb1.mono Hb.out.size))
 have h9:=avF
 have HP:=Lh h1
 clear hb1 hat h1
 go_wp2_with fail
 refine (avv ikN _ _ _ w2 _ HP.out h9.pq (by omega)).mono ?_
 rintro e w3 ⟨rfl,hb3⟩
 rw[aub]
 replace HP:=Lh (HP.out.below ikN hb3)
 replace Hb:=Lh (Hb.out.trans (hb3.mono Hb.out.size))
 clear hb3
 go_wp2_with fail
 refine (akz ikN _ _ _ w2 _ HP.out h9.cp.fit.smp (fun _=>h9.pq.q) (fun h=>SqF.of9 h9.pq h) (by omega)).mono ?_
 rintro e w4 ⟨⟨A2,l2,c2,rfl,h2⟩,hb4⟩
 obtain rfl:l2=2:=by rw[<- h2.length];exact apO
 replace HP:=Lh (HP.out.below ikN hb4)
 replace Hb:=Lh (Hb.out.trans (hb4.mono Hb.out.size))
 clear hb4 h2
 go_wp2_with fail
 refine (arq _ _ _ _ HP.out).mono ?_
 rintro e w5 ⟨A3,c3,rfl,hb5⟩
 replace Hb:=Lh (Hb.out.trans (hb5.mono Hb.out.size))
 clear hb5 HP
 go_wp2
 go_ret
 exact ⟨rfl,Hb.out⟩
set_option maxRecDepth 100000 in
set_option maxHeartbeats 8000000 in
theorem ajD (A:Option Addr) (la ca:Nat) (F:List Int) (B:Option Addr) (lb cb:Nat) (G:List Int) (w:World) (hf:aar ajE w A la ca F) (hg:aar ajE w B lb cb G) :
 Calls Tryz.prog 3 #[.slice A la ca,.slice B lb cb] w fun e w'=>e=.returned (.bool true)/\Below w.heap.size w w':=by
 go_enter Tryz.func3,Tryz.ntmps3
 go_wp2_with fail
 refine (aeb _).mono ?_
 rintro e w1 ⟨rfl,hb1⟩
 have Hb:=Lh hb1
 replace hf:=auH.below hf hb1
 replace hg:=auH.below hg hb1
 have Hg:=Lh hg
 clear hb1 hg
 go_wp2_with fail
 refine (alO 6 1 _ _ _ _ _ hf (by omega) (by omega)).mono ?_
 rintro e w2' ⟨⟨b1,rfl,hb1⟩,rfl⟩
 clear hf
 cases b1 with
 | false =>
   clear hb1 Hg
   go_wp2_with fail;refine (aeb _).mono ?_;rintro e wz ⟨rfl,hbz⟩;replace Hb:=Lh (Hb.out.trans (hbz.mono Hb.out.size));clear hbz;go_wp2;go_ret;exact ⟨rfl,Hb.out⟩
 | true =>
 have hq:=hb1 rfl
 have S6F:=avG (by have h2:=hq.at_.length;have h3:=hq.le;omega) hq.lt
 have HF:=Lh hq.at_
 clear hb1 hq
 go_wp2_with fail
 refine (alO 6 1 _ _ _ _ _ Hg.out (by omega) (by omega)).mono ?_
 rintro e aAI ⟨⟨b1,rfl,hb1⟩,rfl⟩
 clear Hg
 cases b1 with
 | false =>
   clear hb1 HF
   go_wp2_with fail;refine (aeb _).mono ?_;rintro e wz ⟨rfl,hbz⟩;replace Hb:=Lh (Hb.out.trans (hbz.mono Hb.out.size));clear hbz;go_wp2;go_ret;exact ⟨rfl,Hb.out⟩
 | true =>
 have hq:=hb1 rfl
 have S6G:=avG (by have h2:=hq.at_.length;have h3:=hq.le;omega) hq.lt
 have HG:=Lh hq.at_
 clear hb1 hq
 have F9:=S6F.p9
 have G6:=S6G.g6
 have lF:=S6F.len
 have lG:=S6G.len
 have hla:la<=6:=by have:=HF.out.length;omega
 have hlb:lb<=6:=by have:=HG.out.length;omega
 have f12:aad F+aad G<=12:=by have:=S6F.pl;have:=S6G.pl;omega
 go_wp2_with fail
 refine (aaO _ _ _ _ _ HF.out F9.cp.fit.smp (by omega)).mono ?_
 rintro e w3 ⟨rfl,hb3⟩
 replace HF:=Lh (HF.out.below ae8 hb3)
 replace HG:=Lh (HG.out.below ae8 hb3)
 replace Hb:=Lh (Hb.out.trans (hb3.mono Hb.out.size))
 obtain ⟨D,hD⟩:∃ D,D=((aad F:Nat):Int)-1:=⟨_,rfl⟩
 rw[<- hD]
 by_cases h0:aad F=0
 ·have b1:decide (D<0)=true:=decide_eq_true (by omega)
  clear hD hb3 h0 HF HG
  go_wp2_with fail;refine (aeb _).mono ?_;rintro e wz ⟨rfl,hbz⟩;replace Hb:=Lh (Hb.out.trans (hbz.mono Hb.out.size));clear hbz;go_wp2;go_ret;exact ⟨rfl,Hb.out⟩
 have b1:decide (D<0)=false:=decide_eq_false (by omega)
 clear hD hb3
 go_wp2_with fail
 refine (akz ae8 _ _ _ F _ HF.out F9.cp.fit.smp (fun _=>F9.pq.q) (fun h=>SqF.of9 F9.pq h) (by omega)).mono ?_
 rintro e w4 ⟨⟨AM,lm,cm,rfl,h4⟩,hb4⟩
 replace HF:=Lh (HF.out.below ae8 hb4)
 replace HG:=Lh (HG.out.below ae8 hb4)
 replace Hb:=Lh (Hb.out.trans (hb4.mono Hb.out.size))
 have HM:=Lh h4
 have hlm:lm<=9:=by rw[<- h4.length];exact anK F9.pq
 obtain ⟨xs,rf⟩:=axh F9.pq h0
 have RX:=Lh rf
 obtain ⟨rs,hrs⟩:∃ rs,rs=acQ F:=⟨_,rfl⟩
 rw[<- hrs] at HM RX
 have hxl:xs.length=lm:=by rw[<- RX.out.len,HM.out.length]
 have HAS:=Lh (fun (k:Nat) (hk:k<xs.length)=>anL rf hk)
 rw[<- hrs] at HAS
 have jb:=aak w4 (.cells #[.int .i64 0,.int .i64 0,.int .i64 0] 29)
 have kb:Blk (w4.alloc (.cells #[.int .i64 0,.int .i64 0,.int .i64 0] 29)) w4.heap.size 29 #[.int .i64 0,.int .i64 0,.int .i64 0]:=Blk.new _ _ _
 have JB:=Lh jb
 have KB:=Lh kb
 clear hb4 h4 rf hrs jb kb b1
 go_wp2_with fail
 go_loopw [7] (fun s7 wr=>∃ k:Nat,k<=lm/\s7=.int .i64 (k:Int)/\Below w4.heap.size w4 wr/\Blk wr w4.heap.size 29 #[.int .i64 (csg G (-1) (xs.take k):Nat),.int .i64 (csg G 0 (xs.take k):Nat),.int .i64 (csg G 1 (xs.take k):Nat)]) (fun s7 _=>lm-(intOf s7).toNat)
 case atStart=>exact ⟨0,Nat.zero_le _,rfl,JB.out,KB.out⟩
 case round =>
  obtain ⟨k,hk,rfl,hbw,hkb⟩:=hrel
  clear JB KB
  have HMr:=Lh (HM.out.below hbw)
  have HFr:=Lh (HF.out.below ae8 hbw)
  have HGr:=Lh (HG.out.below ae8 hbw)
  have Hbw:=Lh hbw
  have KB:=Lh hkb
  by_cases hlt:k<lm
  ·have Hkl:=Lh hlt
   obtain ⟨b,o,rfl,hb0,hv⟩:∃ b o,AM=some ⟨b,o,none⟩/\b<wr.heap.size/\apE wr b o rs:=by
    rcases HMr.out.elems with ⟨h0,_⟩ | h
    ·omega
    ·exact h
   have hkl:k<rs.length:=by rw[HMr.out.length];exact hlt
   have hkx:k<xs.length:=by omega
   obtain ⟨n,A1,l1,c1,B1,m1,d1,n',A2,l2,c2,B2,m2,d2,e0,e1,e2,e3,e4,e5,z1,z2,z3,z4⟩:=hv.azD hkl
   obtain ⟨i0,hi0,awg⟩:=HAS.out k hkx
   have T1:=ajy (g:=G) hkx (-1)
   have T2:=ajy (g:=G) hkx 0
   have T3:=ajy (g:=G) hkx 1
   have q1:=Nat.le_trans (apT (g:=G) (-1) (xs.take k)) (List.length_take_le k xs)
   have q2:=Nat.le_trans (apT (g:=G) 0 (xs.take k)) (List.length_take_le k xs)
   have q3:=Nat.le_trans (apT (g:=G) 1 (xs.take k)) (List.length_take_le k xs)
   obtain ⟨N1,hN1⟩:∃ N,N=csg G (-1) (xs.take k):=⟨_,rfl⟩
   obtain ⟨N2,hN2⟩:∃ N,N=csg G 0 (xs.take k):=⟨_,rfl⟩
   obtain ⟨N3,hN3⟩:∃ N,N=csg G 1 (xs.take k):=⟨_,rfl⟩
   rw[<- hN1] at T1 q1 KB
   rw[<- hN2] at T2 q2 KB
   rw[<- hN3] at T3 q3 KB
   obtain ⟨r,hr⟩:∃ r,r=rs.getD k r00:=⟨_,rfl⟩
   obtain ⟨x,hx⟩:∃ x,x=xs.getD k default:=⟨_,rfl⟩
   rw[<- hr] at z1 z2 z3 z4 awg
   rw[<- hx] at awg T1 T2 T3
   have AS:=Lh awg
   have HT1:=Lh T1
   have HT2:=Lh T2
   have HT3:=Lh T3
   have ka:(k:Int)<(lm:Int):=by omega
   have w1:IntKind.i64.wrap ((k:Int)+1)=(k:Int)+1:=IntWalk.i64_in _ (by omega)
   have v1:IntKind.i64.wrap ((N1:Int)+1)=(N1:Int)+1:=IntWalk.i64_in _ (by omega)
   have v2:IntKind.i64.wrap ((N2:Int)+1)=(N2:Int)+1:=IntWalk.i64_in _ (by omega)
   have v3:IntKind.i64.wrap ((N3:Int)+1)=(N3:Int)+1:=IntWalk.i64_in _ (by omega)
   have Z1:=Lh z1;have Z2:=Lh z2;have Z3:=Lh z3;have Z4:=Lh z4
   have hgw:w4.heap.size<wr.heap.size:=KB.out.lt
   clear z1 z2 z3 z4 hv hr hx hk hlt hbw hkl hkx hkb awg T1 T2 T3 hN1 hN2 hN3 q1 q2 q3
   go_wp2_with fail
   refine (apX ae8 ae8 (x:=x) (r:=r) HFr.out S6F h0 HGr.out G6 Z1.out Z2.out Z3.out Z4.out hi0 AS.out).mono ?_
   rintro e w7 ⟨rfl,hb7⟩
   have hk7:=KB.out.below hb7 KB.out.lt
   have K7:=Lh hk7
   have q1:=(hk7.cell 0).trans rfl
   have q2:=(hk7.cell 1).trans rfl
   have q3:=(hk7.cell 2).trans rfl
   have t1:=hk7.frozen 0
   have t2:=hk7.frozen 1
   have t3:=hk7.frozen 2
   have Hbx:=Lh (Hbw.out.trans (hb7.mono Hbw.out.size))
   clear hb7 hk7 e0 e1 e2 e3 e4 e5 Z1 Z2 Z3 Z4 KB AS
   rcases aff G x with es | es | es
   ·rw[es] at HT1 HT2 HT3 ⊢
    have E1:=HT1.out;have E2:=HT2.out;have E3:=HT3.out
    simp at E1 E2 E3
    have HE:=Lh (And.intro E1 (And.intro E2 E3))
    clear es E1 E2 E3 HT1 HT2 HT3
    go_wp2_with fail
    go_roundw
    (case rel=>exact ⟨k+1,Hkl.out,by go_num,Hbx.out.setCell (p:=⟨w4.heap.size,2,none⟩) (Nat.le_refl _) _,by rw[HE.out.1,HE.out.2.1,HE.out.2.2];exact K7.out.acn 2 _⟩)
    (case measure=>have:=Hkl.out;simp[intOf];omega)
   ·rw[es] at HT1 HT2 HT3 ⊢
    have E1:=HT1.out;have E2:=HT2.out;have E3:=HT3.out
    simp at E1 E2 E3
    have HE:=Lh (And.intro E1 (And.intro E2 E3))
    clear es E1 E2 E3 HT1 HT2 HT3
    go_wp2_with fail
    go_roundw
    (case rel=>exact ⟨k+1,Hkl.out,by go_num,Hbx.out.setCell (p:=⟨w4.heap.size,0,none⟩) (Nat.le_refl _) _,by rw[HE.out.1,HE.out.2.1,HE.out.2.2];exact K7.out.acn 0 _⟩)
    (case measure=>have:=Hkl.out;simp[intOf];omega)
   ·rw[es] at HT1 HT2 HT3 ⊢
    have E1:=HT1.out;have E2:=HT2.out;have E3:=HT3.out
    simp at E1 E2 E3
    have HE:=Lh (And.intro E1 (And.intro E2 E3))
    clear es E1 E2 E3 HT1 HT2 HT3
    go_wp2_with fail
    go_roundw
    (case rel=>exact ⟨k+1,Hkl.out,by go_num,Hbx.out.setCell (p:=⟨w4.heap.size,1,none⟩) (Nat.le_refl _) _,by rw[HE.out.1,HE.out.2.1,HE.out.2.2];exact K7.out.acn 1 _⟩)
    (case measure=>have:=Hkl.out;simp[intOf];omega)
  ·have t1:¬ (k:Int)<(lm:Int):=by omega
   have hkl:k=lm:=by omega
   have et:xs.take k=xs:=List.take_of_length_le (by omega)
   rw[et] at KB
   have lst:=RX.out.lst
   clear hlt hkl et hkb hbw
   go_wp2_with fail
   refine (apv ae8 ae8 _ _ _ F _ _ _ G _ HFr.out HGr.out F9 f12 G6 (by omega)).mono ?_
   rintro e w8 ⟨⟨a,b,c,rfl,hv,a10,b10,c10⟩,hb8⟩
   obtain ⟨ea,eb,ec⟩:=atQ F9 f12 G6 h0 lst hv
   have hva:=hv.a0
   have hvc:=hv.c0
   have hvd:=hv.d
   rw[<- ea,<- eb,<- ec] at KB
   have hk8:=KB.out.below hb8 KB.out.lt
   have q1:=(hk8.cell 0).trans rfl
   have q2:=(hk8.cell 1).trans rfl
   have q3:=(hk8.cell 2).trans rfl
   have HF8:=Lh (HFr.out.below ae8 hb8)
   have HG8:=Lh (HGr.out.below ae8 hb8)
   have Hbx:=Lh (Hbw.out.trans (hb8.mono Hbw.out.size))
   have w3:IntKind.i64.wrap (c-a)=nq F G:=by rw[<- hvd];exact IntWalk.i64_in _ (by omega)
   obtain ⟨S,hS⟩:∃ S,S=nq F G:=⟨_,rfl⟩
   rw[<- hS] at w3
   have HS:=Lh hS
   clear hb8 hk8 ea eb ec hv hva hvc hvd KB lst HM HMr HAS RX hS
   go_wp2_with fail
   refine (amC ae8 ae8 _ _ _ F _ _ _ G _ HF8.out HG8.out F9 f12 G6 (by omega)).mono ?_
   rintro e w9 ⟨rfl,hb9⟩
   rw[<- HS.out]
   replace Hbx:=Lh (Hbx.out.trans (hb9.mono Hbx.out.size))
   clear hb9 q1 q2 q3
   go_wp2
   go_ret
   exact ⟨rfl,Hb.out.trans (Hbx.out.mono Hb.out.size)⟩
end Go.Proofs.YtkefcldcfeolbaaGreat
namespace Go.Proofs.YtkefcldcfeolbaaGreat
open Go.ChangeShapes Go.WideShapes Go.ChangeAt Go.RowKit
set_option maxRecDepth 100000 in
theorem agW (os:Os) (started:os.Started) (H:Type) (enc:TypeId×Value->H) :
 ReturnsInHanded {} Tryz.checked os 3 .any (Rows.topCountsSpec.pre6 enc Tryz.prog Tryz.f3 Rows.topCountsRow.domain false) (Rows.topCountsSpec.post enc Tryz.prog Tryz.f3 false true false false):=by
 refine returnsInHanded_of_change (C:=Tryz.checked) Tryz.own started (by kernel_rfl) Tryz.func3
  (ChangeSpec.witness6 (enc:=enc) (C:=Tryz.checked) false ⟨#[],#[.slice none 0 0,.slice none 0 0],[]⟩ 8 (by kernel_rfl) (by kernel_rfl) (by kernel_rfl) (by kernel_rfl)) ?_
 intro W base args ds gs before hval0 hW hcnd _
 exact ajV _ Tryz.f3 Tryz.params3 rfl enc _ rfl (fun _ _=>rfl) (fun A la ca p B lb cb q w h h2=>ajD A la ca p B lb cb q w h h2) W args ds gs before hval0 hW
theorem topCounts_holds:Rows.TopCountsSaid :=
 OpenClaim.holds_of_wide 3 Tryz.f3 rfl rfl rfl rfl rfl rfl rfl ⟨rfl,rfl,rfl,rfl,rfl⟩ rfl rfl rfl rfl rfl (by kernel_rfl) Tryz.func3 (by kernel_rfl)
  (of_decide_eq_true (by kernel_rfl)) (by unfold Func.isWrapper;first | (rw[if_pos (by decide +kernel)];kernel_rfl) | (rw[if_neg (by decide +kernel)];exact ⟨rfl,rfl⟩))
  (fun os started H enc _=>agW os started H enc)
#print axioms topCounts_holds
end Go.Proofs.YtkefcldcfeolbaaGreat
