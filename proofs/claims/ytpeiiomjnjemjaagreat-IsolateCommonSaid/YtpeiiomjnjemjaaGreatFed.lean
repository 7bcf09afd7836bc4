/- The iterator of unidiv.remainders feeds a range; unidiv.remainders itself, unidiv.positive. -/
import Derived.Test.YtpeiiomjnjemjaaGreatRng
import Derived.Test.YtpeiiomjnjemjaaGreatPsB
import Derived.Test.YtpeiiomjnjemjaaGreatPow
import Derived.Sort.LoopGhostIn
import Derived.Shelf.Abstract
import Derived.Shelf.RegionOpen
import Derived.WalkKit
import Derived.OwnWalkIn
import Derived.TacticsInMore
import Derived.LoopNIn
import Derived.LoopIn
namespace Go.Proofs.YtpeiiomjnjemjaaGreat
open Go.RowKit
section
variable {g:Nat} {W W':World} {A0:Option Addr} {l0 c0:Nat}
theorem PolyP.keep {A:Option Addr} {len cap:Nat} {p:List Int} (hp:PolyN W A len cap p) (h:Keep g W W') (hg:Blk W g 26 #[.slice A0 l0 c0]):PolyN W' A len cap p:=by
 refine ⟨hp.length,hp.cap,?_⟩
 rcases hp.elems with e | ⟨b,off,hA,hlt,hc⟩
 ·exact .inl e
 ·refine .inr ⟨b,off,hA,Nat.lt_of_lt_of_le hlt h.size,fun j hj=>?_⟩
  obtain ⟨neg,Aj,lj,cj,h1,h2,h3⟩:=hc j hj
  have nb:∀ A l c,Value.bool neg≠.slice A l c:=fun _ _ _ x=>by cases x
  exact ⟨neg,Aj,lj,cj,(h.cell hg h1 nb).trans h1,(h.cell hg h1 nb).trans h2,h3.keep h hg⟩
theorem IBox.keep {g':Nat} {n:Bool} {A:Option Addr} {l c:Nat} {z:Int} (hb:IBox W g' n A l c z) (h:Keep g W W') (hg:Blk W g 26 #[.slice A0 l0 c0]):IBox W' g' n A l c z:=by
 have nb:∀ A l c,Value.bool n≠.slice A l c:=fun _ _ _ x=>by cases x
 have e:=h.at_ hg hb.c0 nb
 have ef:∀ i,W'.frozen? ⟨g',i,none⟩=W.frozen? ⟨g',i,none⟩:=fun i=>by simp[World.frozen?,e]
 exact ⟨(h.cell hg hb.c0 nb).trans hb.c0,(h.cell hg hb.c0 nb).trans hb.c1,(ef 0).trans hb.f0,(ef 1).trans hb.f1,Nat.lt_of_lt_of_le hb.lt h.size,hb.hz.keep h hg⟩
end
structure El where
 A:Option Addr
 l:Nat
 c:Nat
 p:List Int
abbrev El.val (x:El):Value:=.slice x.A x.l x.c
def El.ok (x:El) (W:World):Prop:=PolyN W x.A x.l x.c x.p
structure RS where
 a:List Int
 b:List Int
 s:Int
 dv:Int
def RS.rest (t:RS):List Int:=(ptrim (psr t.a t.b)).map (·.tdiv t.dv)
def RS.d (t:RS):Nat:=t.a.length-t.b.length
def RS.lead (t:RS):Int:=-(plead t.b)
def RS.s' (t:RS):Int:=if 0<t.d then (t.lead^t.d).tdiv (t.s^(t.d-1)) else t.s
def RS.next (t:RS):RS:=⟨t.b,t.rest,t.s',t.lead*t.s'^(t.b.length-t.rest.length)⟩
def rsq:Nat->RS->List (List Int)
 | 0,_=>[]
 | k+1,t=>if psr t.a t.b=[] then [] else t.rest :: rsq k t.next
structure RS.fits (t:RS):Prop where
 b:FitP t.b
 b1:1<=plen t.b
 a:Dl 1000000000 t.a
 la:t.a.length<=1000000
 lb:t.b.length<=t.a.length
structure RS.goes (t:RS):Prop where
 r:SmP (psr t.a t.b)
 rl:(psr t.a t.b).length<=1000000
 dv:t.dv≠0
 dvf:SmI t.dv
 s:t.s≠0
 sf:Fit t.s
 p1:Fit (t.lead^t.d)
 p2:Fit (t.s^(t.d-1))
 s':t.s'≠0
 sf':Fit t.s'
 p3:Fit (t.s'^(t.b.length-t.rest.length))
 lr:t.rest.length<=t.b.length
def rOK:Nat->RS->Prop
 | 0,_=>False
 | k+1,t=>t.fits/\(psr t.a t.b≠[]->t.goes/\rOK k t.next)
theorem PRow.keep {W W':World} {g gx:Nat} {A0:Option Addr} {l0 c0:Nat} {zs:List Int} (h:PRow W gx zs) (hk:Keep g W W') (hg:Blk W g 26 #[.slice A0 l0 c0]):PRow W' gx zs:=by
 obtain ⟨cs,hb,hs⟩:=h.blk
 have hne:¬ SlO (.cells cs 38 (0,0)):=by
  rintro ⟨h1,h2⟩
  have hz:0<zs.length:=by omega
  obtain ⟨n1,A1,l1,c1,f0,_,_⟩:=h.elems 0 hz
  obtain ⟨A2,l2,c2,h3⟩:=h2 0 h1
  have:=Blk.cell hb 0
  rw[Nat.zero_mul] at f0
  rw[f0,h3] at this
  cases this
 refine ⟨⟨cs,hk.same gx _ hne hb rfl,hs⟩,fun j hj=>?_⟩
 obtain ⟨n1,A1,l1,c1,f0,f1,f2⟩:=h.elems j hj
 have nb:∀ A l c,Value.bool n1≠.slice A l c:=fun _ _ _ x=>by cases x
 exact ⟨n1,A1,l1,c1,(hk.cell hg f0 nb).trans f0,(hk.cell hg f0 nb).trans f1,f2.keep hk hg⟩
theorem PRow.put {w:World} {g g':Nat} {zs:List Int} {n n':Bool} {A A':Option Addr} {l c l' c':Nat} {z:Int} (h:PRow w g zs) (hr:IBox w g' n A l c z) (hg:g≠g'):PRow (put2 w g' n' A' l' c') g zs:=by
 obtain ⟨cs,hk,hs⟩:=h.blk
 have e0:=hr.c0
 have e1:=hr.c1
 refine ⟨⟨cs,(hk.far (p:=⟨g',0,none⟩) hg _).far (p:=⟨g',1,none⟩) hg _,hs⟩,fun j hj=>?_⟩
 obtain ⟨n1,A1,l1,c1,f0,f1,f2⟩:=h.elems j hj
 refine ⟨n1,A1,l1,c1,?_,?_,f2.ret _ _ e0 e1⟩
 ·rw[World.cell?_setCell_other _ _ _ _ (by intro e;injection e with e _;exact hg e.symm),World.cell?_setCell_other _ _ _ _ (by intro e;injection e with e _;exact hg e.symm)];exact f0
 ·rw[World.cell?_setCell_other _ _ _ _ (by intro e;injection e with e _;exact hg e.symm),World.cell?_setCell_other _ _ _ _ (by intro e;injection e with e _;exact hg e.symm)];exact f1
theorem fit_unit {z:Int} (h:z.natAbs<=1):Fit z:=by
 have h1:1<BB:=by rw[BB_eq];decide
 exact Nat.lt_of_le_of_lt h (Nat.one_lt_pow (by rw[FW_eq];decide) h1)
def Elt (gs gd:Nat) (W:World) (x:El):Prop:=∃ g,x=⟨some ⟨g,0,none⟩,x.p.length,x.p.length,x.p⟩/\PRow W g x.p/\g≠gs/\g≠gd
section
variable {gs gd gb:Nat} {W W':World} {x:El}
theorem Elt.ok (h:Elt gs gd W x):x.ok W:=by
 obtain ⟨g,e,hr,_,_⟩:=h
 rw[e]
 exact hr.poly (Nat.le_refl _)
theorem Elt.move (h:Elt gs gd W x) (hb:Below W.heap.size W W'):Elt gs gd W' x:=by
 obtain ⟨g,e,hr,h1,h2⟩:=h
 exact ⟨g,e,hr.below hb,h1,h2⟩
theorem Elt.keep (h:Elt gs gd W x) (hk:Keep gb W W') (hbx:∃ A l c,Blk W gb 26 #[.slice A l c]):Elt gs gd W' x:=by
 obtain ⟨g,e,hr,h1,h2⟩:=h
 obtain ⟨A,l,c,hx⟩:=hbx
 exact ⟨g,e,hr.keep hk hx,h1,h2⟩
theorem Elt.row {g l:Nat} {p:List Int} (hr:PRow W g p) (hl:p.length=l) (h1:g≠gs) (h2:g≠gd):Elt gs gd W ⟨some ⟨g,0,none⟩,l,l,p⟩:=⟨g,by rw[hl],hr,h1,h2⟩
end
structure RSt (J:List El->World->Prop) (B gb gs gd:Nat) (pre:List El) (ga gg:Nat) (a b:List Int) (s dv:Int) (W:World):Prop where
 j:J pre W
 a:PRow W ga a
 b:PRow W gg b
 s:∃ n A l c,IBox W gs n A l c s
 dv:∃ n A l c,IBox W gd n A l c dv
 sz:B<=W.heap.size
 box:∃ A l c,Blk W gb 26 #[.slice A l c]
 els:∀ x∈pre,Elt gs gd W x
 gbl:gb<B
 n1:ga≠gs
 n2:ga≠gd
 n3:gg≠gs
 n4:gg≠gd
 n5:gs≠gd
 n6:B<=gs
 n7:B<=gd
section
variable {J:List El->World->Prop} {B gb gs gd:Nat} {pre:List El} {ga gg:Nat} {a b:List Int} {s dv:Int} {W W':World}
theorem RSt.move (h:RSt J B gb gs gd pre ga gg a b s dv W) (hJ:∀ s A C,Near B A C->J s A->J s C) (hb:Below W.heap.size W W'):RSt J B gb gs gd pre ga gg a b s dv W':=by
 obtain ⟨n,A,l,c,hs⟩:=h.s
 obtain ⟨n',A',l',c',hd⟩:=h.dv
 obtain ⟨A2,l2,c2,hx⟩:=h.box
 exact ⟨hJ _ _ _ (Near.of hb h.sz) h.j,h.a.below hb,h.b.below hb,⟨_,_,_,_,hs.move hb⟩,⟨_,_,_,_,hd.move hb⟩,Nat.le_trans h.sz hb.size,⟨_,_,_,hx.below hb hx.lt⟩,fun x hx=>(h.els x hx).move hb,h.gbl,h.n1,h.n2,h.n3,h.n4,h.n5,h.n6,h.n7⟩
theorem RSt.keep (h:RSt J B gb gs gd pre ga gg a b s dv W) {x:El} (hx:Elt gs gd W x) (hj:J (pre ++ [x]) W') (hk:Keep gb W W'):RSt J B gb gs gd (pre ++ [x]) ga gg a b s dv W':=by
 obtain ⟨n,A,l,c,hs⟩:=h.s
 obtain ⟨n',A',l',c',hd⟩:=h.dv
 obtain ⟨A2,l2,c2,hx2⟩:=h.box
 exact ⟨hj,h.a.keep hk hx2,h.b.keep hk hx2,⟨_,_,_,_,hs.keep hk hx2⟩,⟨_,_,_,_,hd.keep hk hx2⟩,Nat.le_trans h.sz hk.size,hk.box h.box,fun y hy=>((List.mem_append.1 hy).elim (fun q=>(h.els y q).keep hk h.box) fun q=>by rw[List.mem_singleton.1 q];exact hx.keep hk h.box),h.gbl,h.n1,h.n2,h.n3,h.n4,h.n5,h.n6,h.n7⟩
theorem RSt.keepOk (h:RSt J B gb gs gd pre ga gg a b s dv W) {x:El} (hx:Elt gs gd W x) (hk:Keep gb W W'):∀ y∈pre ++ [x],y.ok W' :=
 fun y hy=>((List.mem_append.1 hy).elim (fun q=>((h.els y q).keep hk h.box).ok) fun q=>by rw[List.mem_singleton.1 q];exact (hx.keep hk h.box).ok)
theorem put2_below {n:Bool} {A:Option Addr} {l c g:Nat} (hg:B<=g):Below B W (put2 W g n A l c):=((Below.refl _ _).setCell hg _).setCell hg _
theorem put2_near {n n':Bool} {A A':Option Addr} {l c l' c' g:Nat} {z:Int} (hx:IBox W g n' A' l' c' z) (hg:B<=g):Near B W (put2 W g n A l c):=by
 refine ⟨put2_below hg,fun k o hs hk=>?_⟩
 have hne:k≠g:=by
  intro e
  subst e
  cases o with
  | cells cs t fr =>
    have e:W.cell? ⟨k,0,none⟩=cs[0]?:=cell_of_row W k 0 cs t fr hk
    obtain ⟨A2,l2,c2,h3⟩:=hs.2 0 hs.1
    rw[hx.c0,h3] at e
    cases e
  | _=>exact hs
 exact ((Below.heap_setCell _ ⟨g,1,none⟩ _ k hne).trans (Below.heap_setCell W ⟨g,0,none⟩ _ k hne)).trans hk
theorem RSt.puts (h:RSt J B gb gs gd pre ga gg a b s dv W) (hJ:∀ s A C,Near B A C->J s A->J s C) {n:Bool} {A:Option Addr} {l c:Nat} {z:Int} (hz:IntN W n A l c z):RSt J B gb gs gd pre ga gg a b z dv (put2 W gs n A l c):=by
 obtain ⟨n,A,l,c,hs⟩:=h.s
 obtain ⟨n',A',l',c',hd⟩:=h.dv
 obtain ⟨A2,l2,c2,hx⟩:=h.box
 exact ⟨hJ _ _ _ (put2_near hs h.n6) h.j,h.a.put hs h.n1,h.b.put hs h.n3,⟨_,_,_,_,hs.put hz⟩,⟨_,_,_,_,hd.far hs (Ne.symm h.n5) _ _⟩,by simpa [World.setCell] using h.sz,⟨_,_,_,hx.below (put2_below h.n6) h.gbl⟩,fun x hx=>(by obtain ⟨g,e,hr,h1,h2⟩:=h.els x hx;exact ⟨g,e,hr.put hs h1,h1,h2⟩),h.gbl,h.n1,h.n2,h.n3,h.n4,h.n5,h.n6,h.n7⟩
theorem RSt.putd (h:RSt J B gb gs gd pre ga gg a b s dv W) (hJ:∀ s A C,Near B A C->J s A->J s C) {n:Bool} {A:Option Addr} {l c:Nat} {z:Int} (hz:IntN W n A l c z):RSt J B gb gs gd pre ga gg a b s z (put2 W gd n A l c):=by
 obtain ⟨n,A,l,c,hs⟩:=h.s
 obtain ⟨n',A',l',c',hd⟩:=h.dv
 obtain ⟨A2,l2,c2,hx⟩:=h.box
 exact ⟨hJ _ _ _ (put2_near hd h.n7) h.j,h.a.put hd h.n2,h.b.put hd h.n4,⟨_,_,_,_,hs.far hd h.n5 _ _⟩,⟨_,_,_,_,hd.put hz⟩,by simpa [World.setCell] using h.sz,⟨_,_,_,hx.below (put2_below h.n7) h.gbl⟩,fun x hx=>(by obtain ⟨g,e,hr,h1,h2⟩:=h.els x hx;exact ⟨g,e,hr.put hd h2,h1,h2⟩),h.gbl,h.n1,h.n2,h.n3,h.n4,h.n5,h.n6,h.n7⟩
theorem RSt.step (h:RSt J B gb gs gd pre ga gg a b s dv W) {gc:Nat} {r:List Int} (hr:PRow W gc r) (m3:gc≠gs) (m4:gc≠gd):RSt J B gb gs gd pre gg gc b r s dv W :=
 ⟨h.j,h.b,hr,h.s,h.dv,h.sz,h.box,h.els,h.gbl,h.n3,h.n4,m3,m4,h.n5,h.n6,h.n7⟩
end
end Go.Proofs.YtpeiiomjnjemjaaGreat
namespace Go.Proofs.YtpeiiomjnjemjaaGreat
open Go.RowKit
attribute [local go_sem] Oper.semAt_some
set_option maxRecDepth 100000 in
set_option maxHeartbeats 8000000 in
theorem remainders1_any (k:Nat) (l:Nat) (gf gg gb:Nat) (F:El) (G:El) (w:World) (J Jx:List El->World->Prop)
  (hF:PolyAt w F.A F.l F.c F.p) (hG:PolyAt w G.A G.l G.c G.p) (cF:w.cell? ⟨gf,0,none⟩=some F.val) (cG:w.cell? ⟨gg,0,none⟩=some G.val) (sF:FitP F.p) (sG:FitP G.p) (lF:F.l<=1000000) (lG:G.l<=1000000)
  (hbx:∃ A l c,Blk w gb 26 #[.slice A l c])
  (hJ:∀ s A B,Near w.heap.size A B->J s A->J s B) (hJx:∀ s A B,Near w.heap.size A B->Jx s A->Jx s B)
  (hY:∀ m pre x W1,J pre W1->x.ok W1->x.p∈ptrim F.p :: ptrim G.p :: rsq k ⟨ptrim F.p,ptrim G.p,-1,(-1)^(plen F.p-plen G.p+1)⟩->pre.length<(ptrim F.p :: ptrim G.p :: rsq k ⟨ptrim F.p,ptrim G.p,-1,(-1)^(plen F.p-plen G.p+1)⟩).length->w.heap.size<=W1.heap.size->YieldAt Fence.wide m Tryz.prog l #[x.val] W1 fun e W' =>
    (e=.returned (.bool true)/\J (pre ++ [x]) W'/\Keep gb W1 W')∨(e=.returned (.bool false)/\Jx (pre ++ [x]) W'/\Keep gb W1 W'))
  (h0:J [] w) (hok:rOK k ⟨ptrim F.p,ptrim G.p,-1,(-1)^(plen F.p-plen G.p+1)⟩) :
  Calls Tryz.prog 89 #[.func (.yield l) #[] #[],.pointer (some ⟨gf,0,none⟩),.pointer (some ⟨gg,0,none⟩)] w fun e W'=>(∃ v,e=.returned v) /\
   ((∃ xs:List El,xs.map El.p=ptrim F.p :: ptrim G.p :: rsq k ⟨ptrim F.p,ptrim G.p,-1,(-1)^(plen F.p-plen G.p+1)⟩/\J xs W'/\∀ x∈xs,x.ok W') ∨
    (∃ pre:List El,pre≠[]/\pre.map El.p <+: ptrim F.p :: ptrim G.p :: rsq k ⟨ptrim F.p,ptrim G.p,-1,(-1)^(plen F.p-plen G.p+1)⟩/\Jx pre W'/\∀ x∈pre,x.ok W')):=by
 obtain ⟨S,hS⟩:∃ S,S=ptrim F.p :: ptrim G.p :: rsq k ⟨ptrim F.p,ptrim G.p,-1,(-1)^(plen F.p-plen G.p+1)⟩:=⟨_,rfl⟩
 rw[<- hS] at hY ⊢
 have HS:=Lh hS
 clear hS
 have HF:=Lh hF
 have HG:=Lh hG
 have hb0:Below w.heap.size w w:=Below.refl _ _
 have Hb0:=Lh hb0
 have mF:SmP F.p:=sF.smp
 have mG:SmP G.p:=sG.smp
 have Hok:=Lh hok
 have H0:=Lh h0
 have HY:=Lh hY
 have HJ:=Lh hJ
 have HJx:=Lh hJx
 have Hbx:=Lh hbx
 clear hF hG hok h0 hY hJ hJx hbx
 go_enter Tryz.func89,Tryz.ntmps89
 go_wp2_with fail
 go_region_held3 (fun w'=>w'.cell? ⟨gf,0,none⟩=some (.slice F.A F.l F.c)/\w'.cell? ⟨gg,0,none⟩=some (.slice G.A G.l G.c)) (go_keep) (first
  | (go_at_call_of 48 (Value.slice F.A F.l F.c);go_must (refine (pnormal_any ikAt _ _ _ _ _ ?_ mF (by omega)).mono ?_;(exact HF.out.below ikAt Bel.go);rintro e w1 ⟨ga,rfl,hra,hga,hb1⟩;obtain ⟨hcx,hfx⟩:=bcellS hb1;have cF1:w1.cell? ⟨gf,0,none⟩=some (.slice F.A F.l F.c):=(hcx _ (by go_simp)).trans (by go_simp);have cG1:w1.cell? ⟨gg,0,none⟩=some (.slice G.A G.l G.c):=(hcx _ (by go_simp)).trans (by go_simp);clear hcx hfx;have HG1:=Lh (HG.out.below ikAt (Below.trans Bel.go (hb1.mono (by simp<;>omega))));have Hb1:=Lh (Hb0.out.trans ((Below.trans Bel.go (hb1.mono (by simp<;>omega))).mono Hb0.out.size))))
  | (go_at_call_of 48 (Value.slice G.A G.l G.c);go_must (refine (pnormal_any ikAt _ _ _ _ _ ?_ mG (by omega)).mono ?_;(exact HG1.out.below ikAt Bel.go);rintro e w2 ⟨gb',rfl,hrb,hgb',hb2⟩;obtain ⟨hcx,hfx⟩:=bcellS hb2;have cF2:w2.cell? ⟨gf,0,none⟩=some (.slice F.A F.l F.c):=(hcx _ (by go_simp)).trans (by go_simp);have cG2:w2.cell? ⟨gg,0,none⟩=some (.slice G.A G.l G.c):=(hcx _ (by go_simp)).trans (by go_simp);clear hcx hfx;have hra2:=hra.below (Below.trans Bel.go (hb2.mono (by simp<;>omega)));have Hb2:=Lh (Hb1.out.trans ((Below.trans Bel.go (hb2.mono (by simp<;>omega))).mono Hb1.out.size)))))
 have hpa:=hra2.poly (cap:=plen F.p) (by rw[ptrim_length];exact Nat.le_refl _)
 rw[ptrim_length] at hpa
 have hlb:=hrb.lt
 obtain ⟨Bx,lx,cx,hbw⟩:=Hbx.out
 have hbx2:=hbw.below Hb2.out hbw.lt
 have hgbl:=hbw.lt
 have Hj:=Lh (HJ.out _ _ _ (Near.of Hb2.out (Nat.le_refl _)) H0.out)
 have hs2:=Hb2.out.size
 have hkne:k≠0:=by intro e;have:=Hok.out;rw[e] at this;exact this
 have hfit:(⟨ptrim F.p,ptrim G.p,-1,(-1)^(plen F.p-plen G.p+1)⟩:RS).fits:=by
  have:=Hok.out
  obtain ⟨k',rfl⟩:∃ k',k=k'+1:=⟨k-1,by omega⟩
  exact this.1
 have hlb1:=hfit.lb
 have hla1:=hfit.la
 simp only[ptrim_length] at hlb1 hla1
 obtain ⟨yf,yt,yas,ybd,hy,hR⟩:=HY.out 8 [] ⟨some ⟨ga,0,none⟩,plen F.p,plen F.p,ptrim F.p⟩ w2 Hj.out hpa (by rw[HS.out];simp) (by rw[HS.out];simp) hs2
 simp only[El.val] at hy
 have Hra:=Lh hra2
 have Hrb:=Lh hrb
 have Hbx2:=Lh hbx2
 have gal:=hra2.lt
 have gbl':=hrb.lt
 rename_i hKK hHH
 refine hKK _ _ ?_
 refine (wpIn_wide (n:=9)).1 ?_
 clear hra hra2 hrb hpa hga hgb' hb1 hb2 cF1 cG1 cF2 cG2 HG1 Hb1 HF HG hb0 H0 hHH hKK hbx2 hbw hlb hfit Hb0 Hb2 Hbx hkne
 gi_wp2
 refine hR.mono ?_
 rintro e w3 (⟨rfl,hj3,hk3⟩ | ⟨rfl,hjx3,hk3⟩)
 ·have hra3:=Hra.out.keep hk3 Hbx2.out
  have hrb3:=Hrb.out.keep hk3 Hbx2.out
  obtain ⟨A3,l3,c3,hbx3⟩:=hk3.box ⟨_,_,_,Hbx2.out⟩
  have hs23:=hk3.size
  have hs3:w.heap.size<=w3.heap.size:=Nat.le_trans hs2 hs23
  have hpb3:=hrb3.poly (cap:=plen G.p) (by rw[ptrim_length];exact Nat.le_refl _)
  rw[ptrim_length] at hpb3
  have Hra3:=Lh hra3
  have Hrb3:=Lh hrb3
  have Hbx3:=Lh hbx3
  obtain ⟨yf,yt,yas,ybd,hy,hR⟩:=HY.out 8 _ ⟨some ⟨gb',0,none⟩,plen G.p,plen G.p,ptrim G.p⟩ w3 hj3 hpb3 (by rw[HS.out];simp) (by rw[HS.out];simp) hs3
  simp only[El.val] at hy
  clear hj3 hk3 hra3 hrb3 hpb3 hbx3 Hra Hrb Hbx2 Hj
  gi_wp2
  refine hR.mono ?_
  rintro e w4 (⟨rfl,hj4,hk4⟩ | ⟨rfl,hjx4,hk4⟩)
  ·have hra4:=Hra3.out.keep hk4 Hbx3.out
   have hrb4:=Hrb3.out.keep hk4 Hbx3.out
   have hbx4:=hk4.box ⟨_,_,_,Hbx3.out⟩
   have hs34:=hk4.size
   have ga4:ga<w4.heap.size:=by omega
   have gb4:gb'<w4.heap.size:=by omega
   have hs4:w.heap.size<=w4.heap.size:=by omega
   obtain ⟨d,hd⟩:∃ d,plen F.p=plen G.p+d:=⟨plen F.p-plen G.p,by omega⟩
   obtain ⟨la,hla⟩:∃ x,x=plen F.p:=⟨_,rfl⟩
   obtain ⟨lb,hlb⟩:∃ x,x=plen G.p:=⟨_,rfl⟩
   rw[show plen F.p-plen G.p=d by omega] at Hok HS
   obtain ⟨pre,hpre⟩:∃ pre,pre=(([] ++ [⟨some ⟨ga,0,none⟩,plen F.p,plen F.p,ptrim F.p⟩]) ++ [⟨some ⟨gb',0,none⟩,plen G.p,plen G.p,ptrim G.p⟩]:List El):=⟨_,rfl⟩
   have hpm:pre.map El.p=[ptrim F.p,ptrim G.p]:=by rw[hpre];rfl
   rw[<- hpre] at hj4
   have Hpm:=Lh hpm
   have Hpre:=Lh hpre
   rw[<- hla,<- hlb] at hd hlb1
   rw[<- hla] at hla1
   have hdi:(la:Int)-(lb:Int)=(d:Int):=by omega
   have Hd:=Lh hd
   have Hra4:=Lh hra4
   have Hrb4:=Lh hrb4
   have Hbx4:=Lh hbx4
   have Hj4:=Lh hj4
   have Hla:=Lh hla
   have Hlb:=Lh hlb
   rw[<- hla,<- hlb]
   clear hra4 hrb4 hbx4 hj4 hk4 hs3 Hra3 Hrb3 Hbx3 hd hla hlb hy hR hpre hpm gal gbl' hs2 hs23 hs34
   gi_wp2_with fail
   refine ⟨trivial,(callsIn_wide.2 (iof_any (-1) _ (by unfold I64;omega))).mono ?_⟩
   rintro e w5 ⟨n5,A5,l5,c5,rfl,h5,hb5⟩
   have hs45:=hb5.size
   have hbx5:Below w4.heap.size w4 (w5.alloc (ibox n5 A5 l5 c5)):=hb5.trans ((Below.refl _ _).alloc hs45 _)
   have HI5:=Lh (IBox.make h5)
   have Hb5:=Lh hbx5
   obtain ⟨gs,hgs⟩:∃ b,b=w5.heap.size:=⟨_,rfl⟩
   have hc0:=HI5.out.c0
   have hc1:=HI5.out.c1
   have hgsi:w4.heap.size<=gs:=by omega
   have hm1:Fit ((-1:Int)^(d+1)):=by
    have:((-1:Int)^(d+1)).natAbs=1:=by rw[Int.natAbs_pow];simp
    exact fit_unit (by omega)
   have hm2:Fit (-1:Int):=fit_unit (by decide)
   clear h5 hb5 hbx5
   gi_wp2_with fail
   rw[show (d:Int)+1=((d+1:Nat):Int) by omega]
   refine ⟨trivial,(callsIn_wide.2 (power_any _ _ _ _ _ (d+1) _ HI5.out.hz (by decide) hm1 (by omega) hm2)).mono ?_⟩
   rintro e w6 ⟨n6,A6,l6,c6,rfl,h6,hb6⟩
   have hs56:=hb6.size
   simp only[World.size_alloc] at hs56
   obtain ⟨gd,hgd⟩:∃ b,b=w6.heap.size:=⟨_,rfl⟩
   have hba:Below w6.heap.size w6 (w6.alloc (ibox n6 A6 l6 c6)):=(Below.refl _ _).alloc (Nat.le_refl _) _
   have hb56:=hb6.trans (hba.mono (by simp only[World.size_alloc];omega))
   have hb46:=Hb5.out.trans (hb56.mono (by simp only[World.size_alloc];omega))
   have hels:∀ x∈pre,Elt gs gd (w6.alloc (ibox n6 A6 l6 c6)) x:=by
    have h1:=Elt.row (l:=plen F.p) (Hra4.out.below hb46) (ptrim_length _) (show ga≠gs by omega) (show ga≠gd by omega)
    have h2:=Elt.row (l:=plen G.p) (Hrb4.out.below hb46) (ptrim_length _) (show gb'≠gs by omega) (show gb'≠gd by omega)
    rw[Hpre.out]
    intro x hx
    simp only[List.nil_append,List.cons_append,List.mem_cons,List.not_mem_nil,or_false] at hx
    rcases hx with rfl | rfl
    ·exact h1
    ·exact h2
   have hst:RSt J w.heap.size gb gs gd pre ga gb' (ptrim F.p) (ptrim G.p) (-1) ((-1)^(d+1)) (w6.alloc (ibox n6 A6 l6 c6)) :=
    ⟨HJ.out _ _ _ (Near.of hb46 hs4) Hj4.out,Hra4.out.below hb46,Hrb4.out.below hb46,⟨n5,A5,l5,c5,by rw[hgs];exact HI5.out.move hb56⟩,⟨_,_,_,_,by rw[hgd];exact IBox.make h6⟩,
      by simp only[World.size_alloc];omega,by obtain ⟨A,l,c,hx⟩:=Hbx4.out;exact ⟨A,l,c,hx.below hb46 hx.lt⟩,hels,hgbl,by omega,by omega,by omega,by omega,by omega,by omega,by omega⟩
   have Hst:=Lh hst
   have Hgd:=Lh hgd
   have Hgs:=Lh hgs
   clear Hpre hels h6 hb6 hba hb56 hb46 HI5 Hb5 Hj4 Hra4 Hrb4 Hbx4 hc0 hc1 hgs hgd hs56 hst
   gi_wp2
   rw[<- Hgs.out,<- Hgd.out]
   gi_loopg [4,5,6] k (fun kk u4 u5 u6 wr=>∃ (pre:List El) (ga gg:Nat) (a b:List Int) (s dv:Int) (la lb d:Nat),u4=.slice (some ⟨ga,0,none⟩) la la/\u5=.slice (some ⟨gg,0,none⟩) lb lb/\u6=.int .i64 (d:Int) /\
    la=a.length/\lb=b.length/\la=lb+d/\la<=1000000/\RSt J w.heap.size gb gs gd pre ga gg a b s dv wr/\S=pre.map El.p ++ rsq kk ⟨a,b,s,dv⟩/\rOK kk ⟨a,b,s,dv⟩)
   case atStart =>
    exact ⟨pre,ga,gb',_,_,_,_,la,lb,d,rfl,rfl,rfl,by rw[Hla.out,ptrim_length],by rw[Hlb.out,ptrim_length],Hd.out,hla1,Hst.out,by rw[Hpm.out];exact HS.out,Hok.out⟩
   case round =>
    clear Hst Hok HS Hd Hla Hlb Hpm hla1 hlb1 hdi hm1 hm2 ga4 gb4 hs4 hs45 hgsi hgbl
    obtain ⟨pre,ga,gg,a,b,s,dv,la,lb,d,rfl,rfl,rfl,hla,hlb,hlab,hlm,hst,hS,hok⟩:=hrel
    obtain ⟨kk,rfl⟩:∃ kk,gk=kk+1:=by
     rcases gk with _ | kk
     ·exact hok.elim
     ·exact ⟨kk,rfl⟩
    have hfit:=hok.1
    have Hgo:=Lh hok.2
    have fa:=hfit.a
    have fb:=hfit.b
    have b1:=hfit.b1
    dsimp only at fa fb b1
    have pa:=hst.a.poly (cap:=la) (by omega)
    rw[<- hla] at pa
    have pb:=hst.b.poly (cap:=lb) (by omega)
    rw[<- hlb] at pb
    have Hpa:=Lh pa
    have Hpb:=Lh pb
    have Hst:=Lh hst
    have Hla:=Lh hla
    have Hlb:=Lh hlb
    have hlbm:lb<=1000000:=by omega
    have Hlab:=Lh hlab
    have HS:=Lh hS
    clear hst hS hok hfit pa pb hla hlb hlab hR hy
    gi_wp2_with fail
    refine ⟨trivial,(callsIn_wide.2 (pseudo_any ikN ikN _ _ _ _ _ _ _ _ 1000000000 _ Hpa.out Hpb.out fa fb b1 (by omega) (by omega) (Nat.le_refl _))).mono ?_⟩
    rintro e w7 ⟨A1,l1,c1,A2,l2,c2,rfl,h1,h2,hb1⟩
    have Hst7:=Lh (Hst.out.move HJ.out hb1)
    have Hl2:=Lh h2.length
    have H2:=Lh h2
    have Hpb7:=Lh (Hpb.out.below ikN hb1)
    clear h1 h2 hb1 Hst Hpa Hpb
    by_cases hz:l2=0
    ·subst hz
     gi_wp2
     exact bodyPost_ret (results_none (by rfl) _ _ _) rfl ⟨⟨_,rfl⟩,.inl ⟨pre,by rw[HS.out];simp[rsq,List.eq_nil_of_length_eq_zero Hl2.out],Hst7.out.j,fun x hx=>(Hst7.out.els x hx).ok⟩⟩
    ·have hne:psr a b≠[]:=by intro e;have:=Hl2.out;rw[e] at this;exact hz this.symm
     obtain ⟨hgo,hok⟩:=Hgo.out hne
     obtain ⟨nd,Ad,ld,cd,hD⟩:=Hst7.out.dv
     have HD:=Lh hD
     have d0:=hD.c0
     have d1:=hD.c1
     have hl2b:l2<=1000000:=by have:=hgo.rl;have:=Hl2.out;dsimp only at *;omega
     have rsm:=hgo.r
     have dv0:=hgo.dv
     have dvf:=hgo.dvf
     dsimp only at rsm dv0 dvf
     have Hgo:=Lh hgo
     have Hok:=Lh hok
     clear hD hgo hok
     gi_wp2_with fail
     refine ⟨trivial,(callsIn_wide.2 (over_any ikN _ _ _ _ _ _ _ _ _ _ H2.out HD.out.hz rsm dvf dv0 (by omega))).mono ?_⟩
     rintro e w8 ⟨gc,rfl,hrow,hgc,hb8⟩
     have Hst8:=Lh (Hst7.out.move HJ.out hb8)
     have Hpb8:=Lh (Hpb7.out.below ikN hb8)
     have gcs:gc≠gs:=by obtain ⟨_,_,_,_,x⟩:=Hst7.out.s;have:=x.lt;omega
     have gcd:gc≠gd:=by obtain ⟨_,_,_,_,x⟩:=Hst7.out.dv;have:=x.lt;omega
     obtain ⟨R,hR⟩:∃ R,R=RS.rest ⟨a,b,s,dv⟩:=⟨_,rfl⟩
     obtain ⟨lr,hlr⟩:∃ x,x=plen (psr a b):=⟨_,rfl⟩
     have hrR:PRow w8 gc R:=by rw[hR];exact hrow
     have hRl:R.length=lr:=by rw[hR,hlr];unfold RS.rest;rw[List.length_map,ptrim_length]
     rw[<- hlr]
     have hp8:=hrR.poly (cap:=lr) (by omega)
     rw[hRl] at hp8
     have HR:=Lh hR
     have Hrow:=Lh hrR
     have HRl:=Lh hRl
     obtain ⟨yf,yt,yas,ybd,hy,hYr⟩:=HY.out 8 pre ⟨some ⟨gc,0,none⟩,lr,lr,R⟩ w8 Hst8.out.j hp8 (by rw[HS.out,rsq,if_neg (by exact hne),<- HR.out];simp) (by rw[HS.out,rsq,if_neg (by exact hne),<- HR.out];simp) Hst8.out.sz
     simp only[El.val] at hy
     have HSx:Hid (S=(pre ++ [⟨some ⟨gc,0,none⟩,lr,lr,R⟩]:List El).map El.p ++ rsq kk (RS.next ⟨a,b,s,dv⟩)):=Lh (by
      rw[HS.out,rsq,if_neg (by exact hne),<- HR.out]
      simp)
     clear hrow hgc hb8 Hst7 Hpb7 hrR hRl hlr hp8 hR HS d0 d1 HD H2 Hl2
     gi_wp2
     refine hYr.mono ?_
     rintro e w9 (⟨rfl,hj9,hk9⟩ | ⟨rfl,hjx9,hk9⟩)
     ·obtain ⟨Ab,lb0,cb0,hbx⟩:=Hst8.out.box
      have Hst9:=Lh (Hst8.out.keep (Elt.row Hrow.out HRl.out gcs gcd) hj9 hk9)
      have Hrow9:=Lh (Hrow.out.keep hk9 hbx)
      have Hpb9:=Lh (Hpb8.out.keep hk9 hbx)
      obtain ⟨L,hL⟩:∃ L,L=-(plead b):=⟨_,rfl⟩
      obtain ⟨T,hT⟩:∃ T,T=RS.s' ⟨a,b,s,dv⟩:=⟨_,rfl⟩
      have hlrb:lr<=lb:=by have h:=Hgo.out.lr;rw[<- HR.out,HRl.out] at h;rw[Hlb.out];exact h
      obtain ⟨d2,hd2⟩:∃ d2,lb=lr+d2:=⟨lb-lr,by omega⟩
      have hd2i:(lb:Int)-(lr:Int)=(d2:Int):=by omega
      have ed:RS.d ⟨a,b,s,dv⟩=d:=by have:=Hla.out;have:=Hlb.out;have:=Hlab.out;unfold RS.d;dsimp only;omega
      have eT:T=if 0<d then (L^d).tdiv (s^(d-1)) else s:=by rw[hT,RS.s',ed,hL];rfl
      have hp1:Fit (L^d):=by have h:=Hgo.out.p1;rw[ed] at h;rw[hL];exact h
      have hp2:Fit (s^(d-1)):=by have h:=Hgo.out.p2;rw[ed] at h;exact h
      have hs0:s≠0:=Hgo.out.s
      have hsf:Fit s:=Hgo.out.sf
      have hT0:T≠0:=by rw[hT];exact Hgo.out.s'
      have hTf:Fit T:=by rw[hT];exact Hgo.out.sf'
      have ed2:b.length-(RS.rest ⟨a,b,s,dv⟩).length=d2:=by rw[<- HR.out,HRl.out,<- Hlb.out];omega
      have hp3:Fit (T^d2):=by have h:=Hgo.out.p3;rw[<- hT] at h;dsimp only at h;rw[ed2] at h;exact h
      have hN:RS.next ⟨a,b,s,dv⟩=⟨b,R,T,L*T^d2⟩:=by rw[RS.next,<- HR.out,<- hT];dsimp only;rw[HR.out,ed2,hL];rfl
      have hfl0:Fit (plead b):=fb _
      have hfl:Fit L:=by rw[hL];unfold Fit at *;rw[Int.natAbs_neg];exact hfl0
      have hl0:L≠0:=by have h:plead b≠0:=mt plead_zero.1 (by omega);omega
      rw[hN] at HSx Hok
      have HL0:=Lh hL
      have HT:=Lh eT
      have Hd2:=Lh hd2
      have hds:d<=1000000:=by have:=Hlab.out;omega
      have hd2s:d2<=1000000:=by omega
      have gs9:gs<w9.heap.size:=by obtain ⟨_,_,_,_,x⟩:=Hst9.out.s;exact x.lt
      have gd9:gd<w9.heap.size:=by obtain ⟨_,_,_,_,x⟩:=Hst9.out.dv;exact x.lt
      clear hbx hj9 hk9 hy hYr Hst8 Hrow Hpb8 hL hT eT ed ed2 hN hd2 Hgo dv0 dvf rsm
      gi_wp2_with fail
      refine ⟨trivial,(callsIn_wide.2 (lead_any _ _ _ _ _ (Hpb9.out.at_ ikN) fb.smp (by omega))).mono ?_⟩
      rintro e w10 ⟨n10,A10,l10,c10,rfl,h10,hb10⟩
      have H10:=Lh h10
      have Hst10:=Lh (Hst9.out.move HJ.out hb10)
      have Hrow10:=Lh (Hrow9.out.below hb10)
      have hs10:=hb10.size
      clear h10 hb10 Hst9 Hrow9 Hpb9
      gi_wp2_with fail
      refine ⟨trivial,(callsIn_wide.2 (ineg_any _ _ _ _ _ _ H10.out.at_ hfl0.sm)).mono ?_⟩
      rintro e w11 ⟨n11,A11,l11,c11,rfl,h11,hb11⟩
      rw[<- HL0.out] at h11
      have hs11:=hb11.size
      have hba:Below w11.heap.size w11 (w11.alloc (ibox n11 A11 l11 c11)):=(Below.refl _ _).alloc (Nat.le_refl _) _
      have HL:=Lh (IBox.make h11)
      have Hst:=Lh ((Hst10.out.move HJ.out hb11).move HJ.out hba)
      have Hrow:=Lh ((Hrow10.out.below hb11).below hba)
      have ns1:gs≠w11.heap.size:=by omega
      have ns2:w11.heap.size≠gs:=by omega
      have nd1:gd≠w11.heap.size:=by omega
      have nd2:w11.heap.size≠gd:=by omega
      have ns3:=Hst.out.n5
      have ns4:=Ne.symm ns3
      obtain ⟨ns,As,ls,cs,hsb⟩:=Hst.out.s
      obtain ⟨ne,Ae,le,ce,hdb⟩:=Hst.out.dv
      have HSb:=Lh hsb
      have HDb:=Lh hdb
      have k0:=HL.out.c0
      have k1:=HL.out.c1
      have s0:=hsb.c0
      have s1:=hsb.c1
      clear h11 hb11 hba Hst10 Hrow10 H10 hsb hdb hs11 hs10 gs9 gd9
      by_cases hd0:d=0
      ·subst hd0
       have HT2:=HT.out
       rw[if_neg (by decide)] at HT2
       subst HT2
       clear HT
       gi_wp2_with fail
       refine wpIn_wide.2 ?_
       refine wp_region_last (S:=fun w'=>w'.cell? ⟨w11.heap.size,0,none⟩=some (.bool n11)/\w'.cell? ⟨w11.heap.size,1,none⟩=some (.slice A11 l11 c11)/\w'.cell? ⟨gs,0,none⟩=some (.bool ns)/\w'.cell? ⟨gs,1,none⟩=some (.slice As ls cs)) (by kernel_rfl) (by kernel_rfl) (by (try dsimp only);go_keep) (fun hHeld=>?_)
       simp only[List.pop_toArray,List.dropLast]
       (refine tq 0 ?_;simp only[put_lit,List.set])
       (refine tq 1 ?_;simp only[put_lit,List.set])
       (refine tq 2 ?_;simp only[put_lit,List.set])
       refine rdy 3 (fun K hK=>?_);go_simp
       refine (power_any _ _ _ _ _ d2 _ ?_ hT0 hp3 (by omega) hTf).mono ?_
       ·exact HSb.out.hz.below Bel.go
       rintro e w12 ⟨n12,A12,l12,c12,rfl,h12,hb12⟩
       obtain ⟨hcx,hfx⟩:=bcellS hb12
       replace HL:=Lh (HL.out.move (Below.trans Bel.go (hb12.mono (by simp<;>omega))))
       replace HSb:=Lh (HSb.out.move (Below.trans Bel.go (hb12.mono (by simp<;>omega))))
       replace HDb:=Lh (HDb.out.move (Below.trans Bel.go (hb12.mono (by simp<;>omega))))
       replace Hrow:=Lh (Hrow.out.below (Below.trans Bel.go (hb12.mono (by simp<;>omega))))
       replace Hst:=Lh (Hst.out.move HJ.out (Below.trans Bel.go (hb12.mono (by simp<;>omega))))
       have H12:=Lh h12
       refine hK.out _ _ ?_ (fun _=>?_)
       ·((try dsimp only);repeat' apply And.intro)<;>(rw[hcx _ (by go_simp)];go_simp)
       clear hHeld hK K hcx hfx;rename_i hHeld
       refine rdy 4 (fun K hK=>?_);go_simp
       refine (imul_any _ _ _ _ _ _ _ _ _ _ _ ?_ ?_ hfl.sm hp3.sm (hfl.mulok _)).mono ?_
       ·exact HL.out.hz.at_.below Bel.go
       ·exact H12.out.at_.below Bel.go
       rintro e w13 ⟨n13,A13,l13,c13,rfl,h13,hb13⟩
       obtain ⟨hcx,hfx⟩:=bcellS hb13
       replace HDb:=Lh (HDb.out.move (Below.trans Bel.go (hb13.mono (by simp<;>omega))))
       replace Hrow:=Lh (Hrow.out.below (Below.trans Bel.go (hb13.mono (by simp<;>omega))))
       replace Hst:=Lh (Hst.out.move HJ.out (Below.trans Bel.go (hb13.mono (by simp<;>omega))))
       have H13:=Lh h13
       refine hK.out _ _ ?_ (fun _=>?_)
       ·((try dsimp only);repeat' apply And.intro)<;>(rw[hcx _ (by go_simp)];go_simp)
       clear hHeld hK K hcx hfx;rename_i hHeld
       refine wpAnyH_done (by kernel_rfl) (lastQ_list rfl ?_) _
       have p0:=HDb.out.c0
       have p1:=HDb.out.c1
       have p2:=HDb.out.f0
       have p3:=HDb.out.f1
       have Hfin:=Lh ((Hst.out.step Hrow.out gcs gcd).putd HJ.out H13.out)
       clear hHeld h12 hb12 h13 hb13
       go_wp2
       gi_roundg kk
       case measure=>omega
       case rel=>exact ⟨_,gg,gc,b,R,T,L*T^d2,lb,lr,d2,rfl,rfl,rfl,Hlb.out,HRl.out.symm,Hd2.out,by omega,Hfin.out,HSx.out,Hok.out⟩
      ·have hdp:(0:Int)<(d:Int):=by omega
       obtain ⟨d1,hd1⟩:∃ d1,d1=d-1:=⟨_,rfl⟩
       have hd1i:(d:Int)-1=(d1:Int):=by omega
       rw[<- hd1] at hp2 HT
       have hd1w:IntKind.i64.wrap (d1:Int)=(d1:Int):=IntWalk.i64_in _ (by omega)
       have Hd1:=Lh hd1
       clear hd1
       gi_wp2_with fail
       refine wpIn_wide.2 ?_
       refine wp_region_held_drew (S:=fun w'=>w'.cell? ⟨w11.heap.size,0,none⟩=some (.bool n11)/\w'.cell? ⟨w11.heap.size,1,none⟩=some (.slice A11 l11 c11)) (by kernel_rfl) (by (try dsimp only);go_keep) (fun hHeld=>?_)
       (refine tq 0 ?_;simp only[put_lit,List.set])
       (refine tq 1 ?_;simp only[put_lit,List.set])
       (refine tq 4 ?_;simp only[put_lit,List.set])
       (refine tq 5 ?_;simp only[put_lit,List.set])
       have HT2:=Lh (show T=(L^d).tdiv (s^d1) by have h:=HT.out;rw[if_pos (by omega)] at h;exact h)
       refine wpAnyH_ready (rs:=[2,3]) (by kernel_rfl) (by simp) ?_
       refine AllReadyH.cons rfl (fun K hK=>?_) (AllReadyH.cons rfl (fun K hK=>?_) AllReadyH.nil)
       ·go_simp
        refine (power_any _ _ _ _ _ d _ ?_ hl0 hp1 (by omega) hfl).mono ?_
        ·exact HL.out.hz.below Bel.go
        rintro e w12 ⟨n12,A12,l12,c12,rfl,h12,hb12⟩
        obtain ⟨hcx,hfx⟩:=bcellS hb12
        replace HL:=Lh (HL.out.move (Below.trans Bel.go (hb12.mono (by simp<;>omega))))
        replace HSb:=Lh (HSb.out.move (Below.trans Bel.go (hb12.mono (by simp<;>omega))))
        replace HDb:=Lh (HDb.out.move (Below.trans Bel.go (hb12.mono (by simp<;>omega))))
        replace Hrow:=Lh (Hrow.out.below (Below.trans Bel.go (hb12.mono (by simp<;>omega))))
        replace Hst:=Lh (Hst.out.move HJ.out (Below.trans Bel.go (hb12.mono (by simp<;>omega))))
        have H12:=Lh h12
        clear s0 s1
        have s0:=HSb.out.c0
        have s1:=HSb.out.c1
        refine hK.out _ _ ?_ (fun _=>?_)
        ·((try dsimp only);repeat' apply And.intro)<;>(rw[hcx _ (by go_simp)];go_simp)
        clear h12 hb12
        clear hHeld hK K hcx hfx;rename_i hHeld
        refine rdy 3 (fun K hK=>?_);go_simp
        refine hK.out _ _ ?_ (fun _=>?_)
        ·(try dsimp only);go_keep
        clear hHeld hK K
        rename_i hHeld
        (try (simp only[put_lit,List.set]))
        refine rdy 6 (fun K hK=>?_);go_simp
        refine (power_any _ _ _ _ _ d1 _ ?_ hs0 hp2 (by omega) hsf).mono ?_
        ·exact HSb.out.hz.below Bel.go
        rintro e w14 ⟨n14,A14,l14,c14,rfl,h14,hb14⟩
        obtain ⟨hcx,hfx⟩:=bcellS hb14
        replace HL:=Lh (HL.out.move (Below.trans Bel.go (hb14.mono (by simp<;>omega))))
        replace HSb:=Lh (HSb.out.move (Below.trans Bel.go (hb14.mono (by simp<;>omega))))
        replace HDb:=Lh (HDb.out.move (Below.trans Bel.go (hb14.mono (by simp<;>omega))))
        replace Hrow:=Lh (Hrow.out.below (Below.trans Bel.go (hb14.mono (by simp<;>omega))))
        replace H12:=Lh (H12.out.below (Below.trans Bel.go (hb14.mono (by simp<;>omega))))
        replace Hst:=Lh (Hst.out.move HJ.out (Below.trans Bel.go (hb14.mono (by simp<;>omega))))
        have H14:=Lh h14
        refine hK.out _ _ ?_ (fun _=>?_)
        ·((try dsimp only);repeat' apply And.intro)<;>(rw[hcx _ (by go_simp)];go_simp)
        clear h14 hb14
        clear hHeld hK K hcx hfx;rename_i hHeld
        refine rdy 7 (fun K hK=>?_);go_simp
        refine (quo_all _ _ _ _ _ _ _ _ _ _ _ ?_ ?_ hp1.sm hp2.sm (Int.pow_ne_zero hs0)).mono ?_
        ·exact H12.out.at_.below Bel.go
        ·exact H14.out.at_.below Bel.go
        rintro e w15 ⟨n15,A15,l15,c15,n16,A16,l16,c16,rfl,h15,h16,hb15⟩
        rw[<- HT2.out] at h15
        obtain ⟨hcx,hfx⟩:=bcellS hb15
        replace HL:=Lh (HL.out.move (Below.trans Bel.go (hb15.mono (by simp<;>omega))))
        replace HSb:=Lh (HSb.out.move (Below.trans Bel.go (hb15.mono (by simp<;>omega))))
        replace HDb:=Lh (HDb.out.move (Below.trans Bel.go (hb15.mono (by simp<;>omega))))
        replace Hrow:=Lh (Hrow.out.below (Below.trans Bel.go (hb15.mono (by simp<;>omega))))
        replace Hst:=Lh (Hst.out.move HJ.out (Below.trans Bel.go (hb15.mono (by simp<;>omega))))
        have H15:=Lh h15
        refine hK.out _ _ ?_ (fun _=>?_)
        ·((try dsimp only);repeat' apply And.intro)<;>(rw[hcx _ (by go_simp)];go_simp)
        clear h15 h16 hb15
        clear hHeld hK K hcx hfx;rename_i hHeld
        (refine tq 8 ?_;simp only[put_lit,List.set])
        (refine tq 9 ?_;simp only[put_lit,List.set])
        (refine tq 10 ?_;simp only[put_lit,List.set])
        (refine tq 11 ?_;simp only[put_lit,List.set])
        clear s0 s1
        have s0:=HSb.out.c0
        have s1:=HSb.out.c1
        have s2:=HSb.out.f0
        have s3:=HSb.out.f1
        refine rdy 12 (fun K hK=>?_);go_simp
        refine hK.out _ _ ?_ (fun _=>?_)
        ·(try dsimp only);go_keep
        clear hHeld hK K
        refine wpAnyH_done (by kernel_rfl) ?_ _
        have HSn:Hid (IBox (put2 w15 gs n15 A15 l15 c15) gs n15 A15 l15 c15 T):=Lh (HSb.out.put H15.out)
        have HLn:Hid (IBox (put2 w15 gs n15 A15 l15 c15) w11.heap.size n11 A11 l11 c11 L):=Lh (HL.out.far HSb.out ns2 _ _)
        have HDn:Hid (IBox (put2 w15 gs n15 A15 l15 c15) gd ne Ae le ce dv):=Lh (HDb.out.far HSb.out ns4 _ _)
        have Hrn:Hid (PRow (put2 w15 gs n15 A15 l15 c15) gc R):=Lh (Hrow.out.put HSb.out gcs)
        have Hstn:Hid (RSt J w.heap.size gb gs gd (pre ++ [⟨some ⟨gc,0,none⟩,lr,lr,R⟩]) ga gg a b T dv (put2 w15 gs n15 A15 l15 c15)):=Lh (Hst.out.puts HJ.out H15.out)
        clear HSb HL HDb Hrow Hst s0 s1 s2 s3 k0 k1 H15 H12 H14
        obtain ⟨W,hW⟩:∃ W,W=put2 w15 gs n15 A15 l15 c15:=⟨_,rfl⟩
        obtain ⟨ns,As,ls,cs,HSb⟩:∃ n A l c,Hid (IBox W gs n A l c T):=⟨_,_,_,_,by rw[hW];exact HSn⟩
        have HL:Hid (IBox W w11.heap.size n11 A11 l11 c11 L):=by rw[hW];exact HLn
        have HDb:Hid (IBox W gd ne Ae le ce dv):=by rw[hW];exact HDn
        have Hrow:Hid (PRow W gc R):=by rw[hW];exact Hrn
        have Hst:Hid (RSt J w.heap.size gb gs gd (pre ++ [⟨some ⟨gc,0,none⟩,lr,lr,R⟩]) ga gg a b T dv W):=by rw[hW];exact Hstn
        unfold put2 at hW
        rw[<- hW]
        have k0:=HL.out.c0
        have k1:=HL.out.c1
        have s0:=HSb.out.c0
        have s1:=HSb.out.c1
        clear HSn HLn HDn Hrn Hstn hW
        gi_wp2_with fail
        refine wpIn_wide.2 ?_
        refine wp_region_last (S:=fun w'=>w'.cell? ⟨w11.heap.size,0,none⟩=some (.bool n11)/\w'.cell? ⟨w11.heap.size,1,none⟩=some (.slice A11 l11 c11)/\w'.cell? ⟨gs,0,none⟩=some (.bool ns)/\w'.cell? ⟨gs,1,none⟩=some (.slice As ls cs)) (by kernel_rfl) (by kernel_rfl) (by (try dsimp only);go_keep) (fun hHeld=>?_)
        simp only[List.pop_toArray,List.dropLast]
        (refine tq 0 ?_;simp only[put_lit,List.set])
        (refine tq 1 ?_;simp only[put_lit,List.set])
        (refine tq 2 ?_;simp only[put_lit,List.set])
        refine rdy 3 (fun K hK=>?_);go_simp
        refine (power_any _ _ _ _ _ d2 _ ?_ hT0 hp3 (by omega) hTf).mono ?_
        ·exact HSb.out.hz.below Bel.go
        rintro e w12 ⟨n12,A12,l12,c12,rfl,h12,hb12⟩
        obtain ⟨hcx,hfx⟩:=bcellS hb12
        replace HL:=Lh (HL.out.move (Below.trans Bel.go (hb12.mono (by simp<;>omega))))
        replace HSb:=Lh (HSb.out.move (Below.trans Bel.go (hb12.mono (by simp<;>omega))))
        replace HDb:=Lh (HDb.out.move (Below.trans Bel.go (hb12.mono (by simp<;>omega))))
        replace Hrow:=Lh (Hrow.out.below (Below.trans Bel.go (hb12.mono (by simp<;>omega))))
        replace Hst:=Lh (Hst.out.move HJ.out (Below.trans Bel.go (hb12.mono (by simp<;>omega))))
        have H12:=Lh h12
        refine hK.out _ _ ?_ (fun _=>?_)
        ·((try dsimp only);repeat' apply And.intro)<;>(rw[hcx _ (by go_simp)];go_simp)
        clear hHeld hK K hcx hfx;rename_i hHeld
        refine rdy 4 (fun K hK=>?_);go_simp
        refine (imul_any _ _ _ _ _ _ _ _ _ _ _ ?_ ?_ hfl.sm hp3.sm (hfl.mulok _)).mono ?_
        ·exact HL.out.hz.at_.below Bel.go
        ·exact H12.out.at_.below Bel.go
        rintro e w13 ⟨n13,A13,l13,c13,rfl,h13,hb13⟩
        obtain ⟨hcx,hfx⟩:=bcellS hb13
        replace HDb:=Lh (HDb.out.move (Below.trans Bel.go (hb13.mono (by simp<;>omega))))
        replace Hrow:=Lh (Hrow.out.below (Below.trans Bel.go (hb13.mono (by simp<;>omega))))
        replace Hst:=Lh (Hst.out.move HJ.out (Below.trans Bel.go (hb13.mono (by simp<;>omega))))
        have H13:=Lh h13
        refine hK.out _ _ ?_ (fun _=>?_)
        ·((try dsimp only);repeat' apply And.intro)<;>(rw[hcx _ (by go_simp)];go_simp)
        clear hHeld hK K hcx hfx;rename_i hHeld
        refine wpAnyH_done (by kernel_rfl) (lastQ_list rfl ?_) _
        have p0:=HDb.out.c0
        have p1:=HDb.out.c1
        have p2:=HDb.out.f0
        have p3:=HDb.out.f1
        have Hfin:=Lh ((Hst.out.step Hrow.out gcs gcd).putd HJ.out H13.out)
        clear hHeld h12 hb12 h13 hb13
        go_wp2
        gi_roundg kk
        case measure=>omega
        case rel=>exact ⟨_,gg,gc,b,R,T,L*T^d2,lb,lr,d2,rfl,rfl,rfl,Hlb.out,HRl.out.symm,Hd2.out,by omega,Hfin.out,HSx.out,Hok.out⟩
       ·go_simp
        refine hK.out _ _ ?_ (fun _=>?_)
        ·(try dsimp only);go_keep
        clear hHeld hK K
        rename_i hHeld
        (try (simp only[put_lit,List.set]))
        refine rdy 2 (fun K hK=>?_);go_simp
        refine (power_any _ _ _ _ _ d _ ?_ hl0 hp1 (by omega) hfl).mono ?_
        ·exact HL.out.hz.below Bel.go
        rintro e w12 ⟨n12,A12,l12,c12,rfl,h12,hb12⟩
        obtain ⟨hcx,hfx⟩:=bcellS hb12
        replace HL:=Lh (HL.out.move (Below.trans Bel.go (hb12.mono (by simp<;>omega))))
        replace HSb:=Lh (HSb.out.move (Below.trans Bel.go (hb12.mono (by simp<;>omega))))
        replace HDb:=Lh (HDb.out.move (Below.trans Bel.go (hb12.mono (by simp<;>omega))))
        replace Hrow:=Lh (Hrow.out.below (Below.trans Bel.go (hb12.mono (by simp<;>omega))))
        replace Hst:=Lh (Hst.out.move HJ.out (Below.trans Bel.go (hb12.mono (by simp<;>omega))))
        have H12:=Lh h12
        clear s0 s1
        have s0:=HSb.out.c0
        have s1:=HSb.out.c1
        refine hK.out _ _ ?_ (fun _=>?_)
        ·((try dsimp only);repeat' apply And.intro)<;>(rw[hcx _ (by go_simp)];go_simp)
        clear h12 hb12
        clear hHeld hK K hcx hfx;rename_i hHeld
        refine rdy 6 (fun K hK=>?_);go_simp
        refine (power_any _ _ _ _ _ d1 _ ?_ hs0 hp2 (by omega) hsf).mono ?_
        ·exact HSb.out.hz.below Bel.go
        rintro e w14 ⟨n14,A14,l14,c14,rfl,h14,hb14⟩
        obtain ⟨hcx,hfx⟩:=bcellS hb14
        replace HL:=Lh (HL.out.move (Below.trans Bel.go (hb14.mono (by simp<;>omega))))
        replace HSb:=Lh (HSb.out.move (Below.trans Bel.go (hb14.mono (by simp<;>omega))))
        replace HDb:=Lh (HDb.out.move (Below.trans Bel.go (hb14.mono (by simp<;>omega))))
        replace Hrow:=Lh (Hrow.out.below (Below.trans Bel.go (hb14.mono (by simp<;>omega))))
        replace H12:=Lh (H12.out.below (Below.trans Bel.go (hb14.mono (by simp<;>omega))))
        replace Hst:=Lh (Hst.out.move HJ.out (Below.trans Bel.go (hb14.mono (by simp<;>omega))))
        have H14:=Lh h14
        refine hK.out _ _ ?_ (fun _=>?_)
        ·((try dsimp only);repeat' apply And.intro)<;>(rw[hcx _ (by go_simp)];go_simp)
        clear h14 hb14
        clear hHeld hK K hcx hfx;rename_i hHeld
        refine rdy 7 (fun K hK=>?_);go_simp
        refine (quo_all _ _ _ _ _ _ _ _ _ _ _ ?_ ?_ hp1.sm hp2.sm (Int.pow_ne_zero hs0)).mono ?_
        ·exact H12.out.at_.below Bel.go
        ·exact H14.out.at_.below Bel.go
        rintro e w15 ⟨n15,A15,l15,c15,n16,A16,l16,c16,rfl,h15,h16,hb15⟩
        rw[<- HT2.out] at h15
        obtain ⟨hcx,hfx⟩:=bcellS hb15
        replace HL:=Lh (HL.out.move (Below.trans Bel.go (hb15.mono (by simp<;>omega))))
        replace HSb:=Lh (HSb.out.move (Below.trans Bel.go (hb15.mono (by simp<;>omega))))
        replace HDb:=Lh (HDb.out.move (Below.trans Bel.go (hb15.mono (by simp<;>omega))))
        replace Hrow:=Lh (Hrow.out.below (Below.trans Bel.go (hb15.mono (by simp<;>omega))))
        replace Hst:=Lh (Hst.out.move HJ.out (Below.trans Bel.go (hb15.mono (by simp<;>omega))))
        have H15:=Lh h15
        refine hK.out _ _ ?_ (fun _=>?_)
        ·((try dsimp only);repeat' apply And.intro)<;>(rw[hcx _ (by go_simp)];go_simp)
        clear h15 h16 hb15
        clear hHeld hK K hcx hfx;rename_i hHeld
        (refine tq 8 ?_;simp only[put_lit,List.set])
        (refine tq 9 ?_;simp only[put_lit,List.set])
        (refine tq 10 ?_;simp only[put_lit,List.set])
        (refine tq 11 ?_;simp only[put_lit,List.set])
        clear s0 s1
        have s0:=HSb.out.c0
        have s1:=HSb.out.c1
        have s2:=HSb.out.f0
        have s3:=HSb.out.f1
        refine rdy 12 (fun K hK=>?_);go_simp
        refine hK.out _ _ ?_ (fun _=>?_)
        ·(try dsimp only);go_keep
        clear hHeld hK K
        refine wpAnyH_done (by kernel_rfl) ?_ _
        have HSn:Hid (IBox (put2 w15 gs n15 A15 l15 c15) gs n15 A15 l15 c15 T):=Lh (HSb.out.put H15.out)
        have HLn:Hid (IBox (put2 w15 gs n15 A15 l15 c15) w11.heap.size n11 A11 l11 c11 L):=Lh (HL.out.far HSb.out ns2 _ _)
        have HDn:Hid (IBox (put2 w15 gs n15 A15 l15 c15) gd ne Ae le ce dv):=Lh (HDb.out.far HSb.out ns4 _ _)
        have Hrn:Hid (PRow (put2 w15 gs n15 A15 l15 c15) gc R):=Lh (Hrow.out.put HSb.out gcs)
        have Hstn:Hid (RSt J w.heap.size gb gs gd (pre ++ [⟨some ⟨gc,0,none⟩,lr,lr,R⟩]) ga gg a b T dv (put2 w15 gs n15 A15 l15 c15)):=Lh (Hst.out.puts HJ.out H15.out)
        clear HSb HL HDb Hrow Hst s0 s1 s2 s3 k0 k1 H15 H12 H14
        obtain ⟨W,hW⟩:∃ W,W=put2 w15 gs n15 A15 l15 c15:=⟨_,rfl⟩
        obtain ⟨ns,As,ls,cs,HSb⟩:∃ n A l c,Hid (IBox W gs n A l c T):=⟨_,_,_,_,by rw[hW];exact HSn⟩
        have HL:Hid (IBox W w11.heap.size n11 A11 l11 c11 L):=by rw[hW];exact HLn
        have HDb:Hid (IBox W gd ne Ae le ce dv):=by rw[hW];exact HDn
        have Hrow:Hid (PRow W gc R):=by rw[hW];exact Hrn
        have Hst:Hid (RSt J w.heap.size gb gs gd (pre ++ [⟨some ⟨gc,0,none⟩,lr,lr,R⟩]) ga gg a b T dv W):=by rw[hW];exact Hstn
        unfold put2 at hW
        rw[<- hW]
        have k0:=HL.out.c0
        have k1:=HL.out.c1
        have s0:=HSb.out.c0
        have s1:=HSb.out.c1
        clear HSn HLn HDn Hrn Hstn hW
        gi_wp2_with fail
        refine wpIn_wide.2 ?_
        refine wp_region_last (S:=fun w'=>w'.cell? ⟨w11.heap.size,0,none⟩=some (.bool n11)/\w'.cell? ⟨w11.heap.size,1,none⟩=some (.slice A11 l11 c11)/\w'.cell? ⟨gs,0,none⟩=some (.bool ns)/\w'.cell? ⟨gs,1,none⟩=some (.slice As ls cs)) (by kernel_rfl) (by kernel_rfl) (by (try dsimp only);go_keep) (fun hHeld=>?_)
        simp only[List.pop_toArray,List.dropLast]
        (refine tq 0 ?_;simp only[put_lit,List.set])
        (refine tq 1 ?_;simp only[put_lit,List.set])
        (refine tq 2 ?_;simp only[put_lit,List.set])
        refine rdy 3 (fun K hK=>?_);go_simp
        refine (power_any _ _ _ _ _ d2 _ ?_ hT0 hp3 (by omega) hTf).mono ?_
        ·exact HSb.out.hz.below Bel.go
        rintro e w12 ⟨n12,A12,l12,c12,rfl,h12,hb12⟩
        obtain ⟨hcx,hfx⟩:=bcellS hb12
        replace HL:=Lh (HL.out.move (Below.trans Bel.go (hb12.mono (by simp<;>omega))))
        replace HSb:=Lh (HSb.out.move (Below.trans Bel.go (hb12.mono (by simp<;>omega))))
        replace HDb:=Lh (HDb.out.move (Below.trans Bel.go (hb12.mono (by simp<;>omega))))
        replace Hrow:=Lh (Hrow.out.below (Below.trans Bel.go (hb12.mono (by simp<;>omega))))
        replace Hst:=Lh (Hst.out.move HJ.out (Below.trans Bel.go (hb12.mono (by simp<;>omega))))
        have H12:=Lh h12
        refine hK.out _ _ ?_ (fun _=>?_)
        ·((try dsimp only);repeat' apply And.intro)<;>(rw[hcx _ (by go_simp)];go_simp)
        clear hHeld hK K hcx hfx;rename_i hHeld
        refine rdy 4 (fun K hK=>?_);go_simp
        refine (imul_any _ _ _ _ _ _ _ _ _ _ _ ?_ ?_ hfl.sm hp3.sm (hfl.mulok _)).mono ?_
        ·exact HL.out.hz.at_.below Bel.go
        ·exact H12.out.at_.below Bel.go
        rintro e w13 ⟨n13,A13,l13,c13,rfl,h13,hb13⟩
        obtain ⟨hcx,hfx⟩:=bcellS hb13
        replace HDb:=Lh (HDb.out.move (Below.trans Bel.go (hb13.mono (by simp<;>omega))))
        replace Hrow:=Lh (Hrow.out.below (Below.trans Bel.go (hb13.mono (by simp<;>omega))))
        replace Hst:=Lh (Hst.out.move HJ.out (Below.trans Bel.go (hb13.mono (by simp<;>omega))))
        have H13:=Lh h13
        refine hK.out _ _ ?_ (fun _=>?_)
        ·((try dsimp only);repeat' apply And.intro)<;>(rw[hcx _ (by go_simp)];go_simp)
        clear hHeld hK K hcx hfx;rename_i hHeld
        refine wpAnyH_done (by kernel_rfl) (lastQ_list rfl ?_) _
        have p0:=HDb.out.c0
        have p1:=HDb.out.c1
        have p2:=HDb.out.f0
        have p3:=HDb.out.f1
        have Hfin:=Lh ((Hst.out.step Hrow.out gcs gcd).putd HJ.out H13.out)
        clear hHeld h12 hb12 h13 hb13
        go_wp2
        gi_roundg kk
        case measure=>omega
        case rel=>exact ⟨_,gg,gc,b,R,T,L*T^d2,lb,lr,d2,rfl,rfl,rfl,Hlb.out,HRl.out.symm,Hd2.out,by omega,Hfin.out,HSx.out,Hok.out⟩
     ·have Hx:=Lh hjx9
      have Hx2:=Lh (Hst8.out.keepOk (Elt.row Hrow.out HRl.out gcs gcd) hk9)
      clear hjx9 hy hYr hk9
      gi_wp2
      exact bodyPost_ret (results_none (by rfl) _ _ _) rfl ⟨⟨_,rfl⟩,.inr ⟨_,by simp,by rw[HSx.out];exact List.prefix_append _ _,Hx.out,Hx2.out⟩⟩
  ·have Hx:=Lh hjx4
   have Hx2:Hid (∀ x∈([] ++ [⟨some ⟨ga,0,none⟩,plen F.p,plen F.p,ptrim F.p⟩]) ++ [⟨some ⟨gb',0,none⟩,plen G.p,plen G.p,ptrim G.p⟩],El.ok x w4):=by
    have h1:=((Elt.row (gs:=ga+gb'+1) (gd:=ga+gb'+1) (l:=plen F.p) Hra3.out (ptrim_length _) (by omega) (by omega)).keep hk4 ⟨_,_,_,Hbx3.out⟩).ok
    have h2:=((Elt.row (gs:=ga+gb'+1) (gd:=ga+gb'+1) (l:=plen G.p) Hrb3.out (ptrim_length _) (by omega) (by omega)).keep hk4 ⟨_,_,_,Hbx3.out⟩).ok
    intro x hx
    simp only[List.nil_append,List.cons_append,List.mem_cons,List.not_mem_nil,or_false] at hx
    rcases hx with rfl | rfl
    ·exact h1
    ·exact h2
   clear hjx4 hy hR hk4
   gi_wp2
   exact bodyPost_ret (results_none (by rfl) _ _ _) rfl ⟨⟨_,rfl⟩,.inr ⟨_,by simp,by rw[HS.out];simp,Hx.out,Hx2.out⟩⟩
 ·have Hx:=Lh hjx3
  have Hx2:Hid (∀ x∈[] ++ [⟨some ⟨ga,0,none⟩,plen F.p,plen F.p,ptrim F.p⟩],El.ok x w3):=by
   have h1:=((Elt.row (gs:=ga+1) (gd:=ga+1) (l:=plen F.p) Hra.out (ptrim_length _) (by omega) (by omega)).keep hk3 ⟨_,_,_,Hbx2.out⟩).ok
   intro x hx
   simp only[List.nil_append,List.mem_cons,List.not_mem_nil,or_false] at hx
   rw[hx]
   exact h1
  clear hjx3 hy hR hk3
  gi_wp2
  refine ⟨fun _ h=>(by cases h),?_⟩
  gi_wp2
  exact bodyPost_ret (results_none (by rfl) _ _ _) rfl ⟨⟨_,rfl⟩,.inr ⟨_,by simp,by rw[HS.out];simp,Hx.out,Hx2.out⟩⟩
end Go.Proofs.YtpeiiomjnjemjaaGreat
namespace Go.Proofs.YtpeiiomjnjemjaaGreat
open Go.RowKit
def rseq (k:Nat) (f g:List Int):List (List Int):=ptrim f :: ptrim g :: rsq k ⟨ptrim f,ptrim g,-1,(-1)^(plen f-plen g+1)⟩
theorem remainders_feeds (gf gg gb:Nat) (F G:El) (w:World)
  (hF:PolyAt w F.A F.l F.c F.p) (hG:PolyAt w G.A G.l G.c G.p) (bF:Blk w gf 26 #[F.val]) (bG:Blk w gg 26 #[G.val]) (sF:FitP F.p) (sG:FitP G.p) (lF:F.l<=1000000) (lG:G.l<=1000000)
  (hbx:∃ A l c,Blk w gb 26 #[.slice A l c]) (k:Nat) (hok:rOK k ⟨ptrim F.p,ptrim G.p,-1,(-1)^(plen F.p-plen G.p+1)⟩) :
  Feeds Tryz.prog 89 #[.pointer (some ⟨gf,0,none⟩),.pointer (some ⟨gg,0,none⟩)] El.val (fun x W=>x.ok W/\x.p∈rseq k F.p G.p) gb (rseq k F.p G.p).length (fun xs=>xs.map El.p=rseq k F.p G.p) (fun pre=>pre≠[]/\pre.map El.p <+: rseq k F.p G.p) w:=by
 intro l J Jx W hb hJ hJx hY h0
 obtain ⟨A,l',c,hx⟩:=hbx
 refine (remainders1_any k l gf gg gb F G W J Jx (PolyP.below ikAt hF hb) (PolyP.below ikAt hG hb) (((bF.below hb bF.lt).cell 0).trans rfl) (((bG.below hb bG.lt).cell 0).trans rfl) sF sG lF lG ⟨A,l',c,hx.below hb hx.lt⟩ hJ hJx (fun m pre x W1 h1 h2 h3 h5 h4=>hY m pre x W1 h1 ⟨h2,h3⟩ h5 h4) h0 hok).mono ?_
 rintro e W' ⟨hv,(⟨xs,h1,h2,h3⟩ | ⟨pre,h0,h1,h2,h3⟩)⟩
 ·exact ⟨hv,.inl ⟨xs,h1,h2,fun x hx=>⟨h3 x hx,by have:x.p∈xs.map El.p:=List.mem_map_of_mem hx;rw[h1] at this;exact this⟩⟩⟩
 ·exact ⟨hv,.inr ⟨pre,⟨h0,h1⟩,h2,fun x hx=>⟨h3 x hx,h1.subset (List.mem_map_of_mem hx)⟩⟩⟩
theorem remainders_any (A B:Option Addr) (la ca lb cb:Nat) (w:World) :
  Calls Tryz.prog 71 #[.slice A la ca,.slice B lb cb] w fun e w'=>e=.returned (.func (.func 89) #[] #[.pointer (some ⟨w.heap.size,0,none⟩),.pointer (some ⟨w.heap.size+1,0,none⟩)]) /\
   w'=(w.alloc (.cells #[.slice A la ca] 26)).alloc (.cells #[.slice B lb cb] 26):=by
 go_enter Tryz.func71,Tryz.ntmps71
 go_wp2
 go_ret
 exact ⟨rfl,rfl⟩
end Go.Proofs.YtpeiiomjnjemjaaGreat
