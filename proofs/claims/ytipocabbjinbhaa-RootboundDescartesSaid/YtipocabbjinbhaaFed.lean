/- The iterator of unidiv.remainders feeds a range; unidiv.remainders itself, unidiv.positive. -/
import Derived.Test.YtipocabbjinbhaaRng
import Derived.Test.YtipocabbjinbhaaIdP
import Derived.Test.YtipocabbjinbhaaPow
import Derived.Sort.LoopGhostIn
import Derived.Shelf.Abstract
import Derived.Shelf.RegionOpen
import Derived.WalkKit
import Derived.OwnWalkIn
import Derived.TacticsInMore
import Derived.LoopNIn
import Derived.LoopIn
namespace Go.Proofs.Ytipocabbjinbhaa
open Go.RowKit
section
variable {g:Nat} {W W':World} {A0:Option Addr} {l0 c0:Nat}
theorem PolyP.keep {A:Option Addr} {len cap:Nat} {p:List Int} (hp:PolyN W A len cap p) (h:Keep g W W') (hg:Blk W g 30 #[.slice A0 l0 c0]):PolyN W' A len cap p:=by
 refine ⟨hp.length,hp.cap,?_⟩
 rcases hp.elems with e | ⟨b,off,hA,hlt,hc⟩
 ·exact .inl e
 ·refine .inr ⟨b,off,hA,Nat.lt_of_lt_of_le hlt h.size,fun j hj=>?_⟩
  obtain ⟨neg,Aj,lj,cj,h1,h2,h3⟩:=hc j hj
  have nb:∀ A l c,Value.bool neg≠.slice A l c:=fun _ _ _ x=>by cases x
  exact ⟨neg,Aj,lj,cj,(h.cell hg h1 nb).trans h1,(h.cell hg h1 nb).trans h2,h3.keep h hg⟩
theorem IBox.keep {g':Nat} {n:Bool} {A:Option Addr} {l c:Nat} {z:Int} (hb:IBox W g' n A l c z) (h:Keep g W W') (hg:Blk W g 30 #[.slice A0 l0 c0]):IBox W' g' n A l c z:=by
 have nb:∀ A l c,Value.bool n≠.slice A l c:=fun _ _ _ x=>by cases x
 have e:=h.at_ hg hb.c0 nb
 have ef:∀ i,W'.frozen? ⟨g',i,none⟩=W.frozen? ⟨g',i,none⟩:=fun i=>by simp [World.frozen?,e]
 exact ⟨(h.cell hg hb.c0 nb).trans hb.c0,(h.cell hg hb.c0 nb).trans hb.c1,(ef 0).trans hb.f0,(ef 1).trans hb.f1,Nat.lt_of_lt_of_le hb.lt h.size,hb.hz.keep h hg⟩
end
structure El where
 A:Option Addr
 l:Nat
 c:Nat
 p:List Int
abbrev El.val (x:El):Value:=.slice x.A x.l x.c
def El.ok (x:El) (W:World):Prop:=PolyN W x.A x.l x.c x.p
structure RS where
 a:List Int
 b:List Int
 s:Int
 dv:Int
def RS.rest (t:RS):List Int:=(ptrim (psr t.a t.b)).map (·.tdiv t.dv)
def RS.d (t:RS):Nat:=t.a.length-t.b.length
theorem PRow.keep {W W':World} {g gx:Nat} {A0:Option Addr} {l0 c0:Nat} {zs:List Int} (h:PRow W gx zs) (hk:Keep g W W') (hg:Blk W g 30 #[.slice A0 l0 c0]):PRow W' gx zs:=by
 obtain ⟨cs,hb,hs⟩:=h.blk
 have hne:¬ SlO (.cells cs 43 (0,0)):=by
  rintro ⟨h1,h2⟩
  have hz:0<zs.length:=by omega
  obtain ⟨n1,A1,l1,c1,f0,_,_⟩:=h.elems 0 hz
  obtain ⟨A2,l2,c2,h3⟩:=h2 0 h1
  have:=Blk.cell hb 0
  rw [Nat.zero_mul] at f0
  rw [f0,h3] at this
  cases this
 refine ⟨⟨cs,hk.same gx _ hne hb rfl,hs⟩,fun j hj=>?_⟩
 obtain ⟨n1,A1,l1,c1,f0,f1,f2⟩:=h.elems j hj
 have nb:∀ A l c,Value.bool n1≠.slice A l c:=fun _ _ _ x=>by cases x
 exact ⟨n1,A1,l1,c1,(hk.cell hg f0 nb).trans f0,(hk.cell hg f0 nb).trans f1,f2.keep hk hg⟩
theorem PRow.put {w:World} {g g':Nat} {zs:List Int} {n n':Bool} {A A':Option Addr} {l c l' c':Nat} {z:Int} (h:PRow w g zs) (hr:IBox w g' n A l c z) (hg:g≠g'):PRow (put2 w g' n' A' l' c') g zs:=by
 obtain ⟨cs,hk,hs⟩:=h.blk
 have e0:=hr.c0
 have e1:=hr.c1
 refine ⟨⟨cs,(hk.far (p:=⟨g',0,none⟩) hg _).far (p:=⟨g',1,none⟩) hg _,hs⟩,fun j hj=>?_⟩
 obtain ⟨n1,A1,l1,c1,f0,f1,f2⟩:=h.elems j hj
 refine ⟨n1,A1,l1,c1,?_,?_,f2.ret _ _ e0 e1⟩
 ·rw [World.cell?_setCell_other _ _ _ _ (by intro e;injection e with e _;exact hg e.symm),World.cell?_setCell_other _ _ _ _ (by intro e;injection e with e _;exact hg e.symm)];exact f0
 ·rw [World.cell?_setCell_other _ _ _ _ (by intro e;injection e with e _;exact hg e.symm),World.cell?_setCell_other _ _ _ _ (by intro e;injection e with e _;exact hg e.symm)];exact f1
def Elt (gs gd:Nat) (W:World) (x:El):Prop:=∃ g,x=⟨some ⟨g,0,none⟩,x.p.length,x.p.length,x.p⟩∧PRow W g x.p∧g≠gs∧g≠gd
section
variable {gs gd gb:Nat} {W W':World} {x:El}
theorem Elt.ok (h:Elt gs gd W x):x.ok W:=by
 obtain ⟨g,e,hr,_,_⟩:=h
 rw [e]
 exact hr.poly (Nat.le_refl _)
theorem Elt.move (h:Elt gs gd W x) (hb:Below W.heap.size W W'):Elt gs gd W' x:=by
 obtain ⟨g,e,hr,h1,h2⟩:=h
 exact ⟨g,e,hr.below hb,h1,h2⟩
theorem Elt.keep (h:Elt gs gd W x) (hk:Keep gb W W') (hbx:∃ A l c,Blk W gb 30 #[.slice A l c]):Elt gs gd W' x:=by
 obtain ⟨g,e,hr,h1,h2⟩:=h
 obtain ⟨A,l,c,hx⟩:=hbx
 exact ⟨g,e,hr.keep hk hx,h1,h2⟩
theorem Elt.row {g l:Nat} {p:List Int} (hr:PRow W g p) (hl:p.length=l) (h1:g≠gs) (h2:g≠gd):Elt gs gd W ⟨some ⟨g,0,none⟩,l,l,p⟩:=⟨g,by rw [hl],hr,h1,h2⟩
end
structure RSt (J:List El→World→Prop) (B gb gs gd:Nat) (pre:List El) (ga gg:Nat) (a b:List Int) (s dv:Int) (W:World):Prop where
 j:J pre W
 a:PRow W ga a
 b:PRow W gg b
 s:∃ n A l c,IBox W gs n A l c s
 dv:∃ n A l c,IBox W gd n A l c dv
 sz:B≤W.heap.size
 box:∃ A l c,Blk W gb 30 #[.slice A l c]
 els:∀ x∈pre,Elt gs gd W x
 gbl:gb<B
 n1:ga≠gs
 n2:ga≠gd
 n3:gg≠gs
 n4:gg≠gd
 n5:gs≠gd
 n6:B≤gs
 n7:B≤gd
section
variable {J:List El→World→Prop} {B gb gs gd:Nat} {pre:List El} {ga gg:Nat} {a b:List Int} {s dv:Int} {W W':World}
theorem RSt.move (h:RSt J B gb gs gd pre ga gg a b s dv W) (hJ:∀ s A C,Near B A C→J s A→J s C) (hb:Below W.heap.size W W'):RSt J B gb gs gd pre ga gg a b s dv W':=by
 obtain ⟨n,A,l,c,hs⟩:=h.s
 obtain ⟨n',A',l',c',hd⟩:=h.dv
 obtain ⟨A2,l2,c2,hx⟩:=h.box
 exact ⟨hJ _ _ _ (Near.of hb h.sz) h.j,h.a.below hb,h.b.below hb,⟨_,_,_,_,hs.move hb⟩,⟨_,_,_,_,hd.move hb⟩,Nat.le_trans h.sz hb.size,⟨_,_,_,hx.below hb hx.lt⟩,fun x hx=>(h.els x hx).move hb,h.gbl,h.n1,h.n2,h.n3,h.n4,h.n5,h.n6,h.n7⟩
theorem RSt.keep (h:RSt J B gb gs gd pre ga gg a b s dv W) {x:El} (hx:Elt gs gd W x) (hj:J (pre ++ [x]) W') (hk:Keep gb W W'):RSt J B gb gs gd (pre ++ [x]) ga gg a b s dv W':=by
 obtain ⟨n,A,l,c,hs⟩:=h.s
 obtain ⟨n',A',l',c',hd⟩:=h.dv
 obtain ⟨A2,l2,c2,hx2⟩:=h.box
 exact ⟨hj,h.a.keep hk hx2,h.b.keep hk hx2,⟨_,_,_,_,hs.keep hk hx2⟩,⟨_,_,_,_,hd.keep hk hx2⟩,Nat.le_trans h.sz hk.size,hk.box h.box,fun y hy=>((List.mem_append.1 hy).elim (fun q=>(h.els y q).keep hk h.box) fun q=>by rw [List.mem_singleton.1 q];exact hx.keep hk h.box),h.gbl,h.n1,h.n2,h.n3,h.n4,h.n5,h.n6,h.n7⟩
theorem RSt.step (h:RSt J B gb gs gd pre ga gg a b s dv W) {gc:Nat} {r:List Int} (hr:PRow W gc r) (m3:gc≠gs) (m4:gc≠gd):RSt J B gb gs gd pre gg gc b r s dv W :=
 ⟨h.j,h.b,hr,h.s,h.dv,h.sz,h.box,h.els,h.gbl,h.n3,h.n4,m3,m4,h.n5,h.n6,h.n7⟩
end
end Go.Proofs.Ytipocabbjinbhaa
namespace Go.Proofs.Ytipocabbjinbhaa
open Go.RowKit
end Go.Proofs.Ytipocabbjinbhaa
namespace Go.Proofs.Ytipocabbjinbhaa
open Go.RowKit
end Go.Proofs.Ytipocabbjinbhaa
