/- The law RootboundVariations: the walk. -/
import Derived.Test.YtpeiiomjnjemjaaGreatPolB
import Derived.Test.YtpeiiomjnjemjaaGreatDivC
import Derived.IntWalk
namespace Go.Proofs.YtpeiiomjnjemjaaGreat
open Go.RowKit
def vst (p:List Int):Nat->Nat×Int
 | 0=>(0,0)
 | k+1=>if sg (p.getD k 0)=0 then vst p k else (if sg (p.getD k 0)=-(vst p k).2 then (vst p k).1+1 else (vst p k).1,sg (p.getD k 0))
theorem vst_le (p:List Int) (k:Nat):(vst p k).1<=k/\((vst p k).2=-1∨(vst p k).2=0∨(vst p k).2=1):=by
 induction k with
 | zero=>exact ⟨Nat.le_refl _,.inr (.inl rfl)⟩
 | succ k ih =>
   simp only[vst]
   split
   ·exact ⟨by omega,ih.2⟩
   ·refine ⟨by simp only;split<;>omega,?_⟩
    rcases sg_cases (p.getD k 0) with ⟨a1,a2⟩ | ⟨a1,a2⟩ | ⟨a1,a2⟩<;>first | exact .inl a2 | exact .inr (.inl a2) | exact .inr (.inr a2)
theorem vst_zero {p:List Int} {k:Nat} {c:Nat} {l:Int} (h:vst p k=(c,l)) (h0:sg (p.getD k 0)=0):vst p (k+1)=(c,l):=by simp only[vst,if_pos h0];exact h
theorem vst_turn {p:List Int} {k:Nat} {c:Nat} {l:Int} (h:vst p k=(c,l)) {s:Int} (hs:sg (p.getD k 0)=s) (h0:s≠0) (h1:s=-l):vst p (k+1)=(c+1,s):=by
 simp only[vst,h,hs,if_neg h0,if_pos h1]
theorem vst_same {p:List Int} {k:Nat} {c:Nat} {l:Int} (h:vst p k=(c,l)) {s:Int} (hs:sg (p.getD k 0)=s) (h0:s≠0) (h1:s≠-l):vst p (k+1)=(c,s):=by
 simp only[vst,h,hs,if_neg h0,if_neg h1]
def Tiny (m:Nat) (p:List Int):Prop:=∀ k,(p.getD k 0).natAbs<=m
end Go.Proofs.YtpeiiomjnjemjaaGreat
namespace Go.Proofs.YtpeiiomjnjemjaaGreat
open Go.RowKit
def hst (p:List Int):Nat->Nat
 | 0=>0
 | k+1=>if hst p k<(p.getD k 0).natAbs then (p.getD k 0).natAbs else hst p k
theorem hst_sm {p:List Int} (h:SmP p) (k:Nat):Sm (hst p k):=by
 induction k with
 | zero=>exact SmI.zero
 | succ k ih =>
   simp only[hst]
   split
   ·exact h.getD k
   ·exact ih
structure HtW (w W:World) (n1:Bool) (A1:Option Addr) (l1 c1:Nat) (q:Int):Prop where
 c00:W.cell? ⟨w.heap.size,0,none⟩=some (.bool false)
 c01:W.cell? ⟨w.heap.size,1,none⟩=some (.slice none 0 0)
 c10:W.cell? ⟨w.heap.size+1,0,none⟩=some (.bool n1)
 c11:W.cell? ⟨w.heap.size+1,1,none⟩=some (.slice A1 l1 c1)
 f00:W.frozen? ⟨w.heap.size,0,none⟩=false
 f01:W.frozen? ⟨w.heap.size,1,none⟩=false
 f10:W.frozen? ⟨w.heap.size+1,0,none⟩=false
 f11:W.frozen? ⟨w.heap.size+1,1,none⟩=false
 size:w.heap.size+2<=W.heap.size
 hq:IntN W n1 A1 l1 c1 q
 below:Below w.heap.size w W
section
variable {w W W':World} {n1:Bool} {A1:Option Addr} {l1 c1:Nat} {q:Int}
theorem HtW.move (h:HtW w W n1 A1 l1 c1 q) (hb:Below W.heap.size W W'):HtW w W' n1 A1 l1 c1 q:=by
 obtain ⟨hc,hf⟩:=bcell hb
 have hs:=h.size
 exact ⟨(hc _ _ (by omega)).trans h.c00,(hc _ _ (by omega)).trans h.c01,(hc _ _ (by omega)).trans h.c10,(hc _ _ (by omega)).trans h.c11,
  (hf _ _ (by omega)).trans h.f00,(hf _ _ (by omega)).trans h.f01,(hf _ _ (by omega)).trans h.f10,(hf _ _ (by omega)).trans h.f11,Nat.le_trans hs hb.size,h.hq.below hb,h.below.trans (hb.mono h.below.size)⟩
theorem HtW.setq (h:HtW w W n1 A1 l1 c1 q) {n3:Bool} {A3:Option Addr} {l3 c3:Nat} {q':Int} (h3:IntN W n3 A3 l3 c3 q') :
  HtW w ((W.setCell ⟨w.heap.size+1,0,none⟩ (.bool n3)).setCell ⟨w.heap.size+1,1,none⟩ (.slice A3 l3 c3)) n3 A3 l3 c3 q':=by
 have k:=h.c00
 have k1:=h.c01
 have k2:=h.c10
 have k3:=h.c11
 have f0:=h.f00
 have f1:=h.f01
 have f2:=h.f10
 have f3:=h.f11
 exact ⟨by go_simp,by go_simp,by go_simp,by go_simp,by go_simp,by go_simp,by go_simp,by go_simp,by simpa using h.size,h3.ret _ _ k2 k3,((h.below.setCell (p:=⟨w.heap.size+1,0,none⟩) (by simp<;>omega) _).setCell (p:=⟨w.heap.size+1,1,none⟩) (by simp<;>omega) _)⟩
end
theorem HtW.start (w:World):HtW w ((w.alloc (ibox false none 0 0)).alloc (ibox false none 0 0)) false none 0 0 0:=by
 exact ⟨by go_simp,by go_simp,by go_simp,by go_simp,by go_simp,by go_simp,by go_simp,by go_simp,by simp,⟨NatN.zero _ _ _,by simp⟩,below_two w _ _ (Nat.le_refl _)⟩
set_option maxHeartbeats 2000000 in
theorem height_any {I:IntPred} (hI:IK I) (A:Option Addr) (len cap:Nat) (p:List Int) (w:World) (h:PolyP I w A len cap p) (hs:SmP p) (hm:len<=1099511627776) :
  Calls Tryz.prog 49 #[.slice A len cap] w fun e w'=>∃ n1 A1 l1 c1,e=.returned (.agg #[.bool n1,.slice A1 l1 c1])/\IntN w' n1 A1 l1 c1 (hst p len:Nat)/\Below w.heap.size w w':=by
 have H0:=Lh (HtW.start w)
 go_enter Tryz.func49,Tryz.ntmps49
 go_wp2
 go_loopw [9] (fun i wr=>∃ (k:Nat) (n1:Bool) (A1:Option Addr) (l1 c1:Nat),k<=len/\i=.int .i64 (k:Int)/\HtW w wr n1 A1 l1 c1 (hst p k:Nat)) (fun i _=>len-(intOf i).toNat)
 case atStart=>exact ⟨0,_,_,_,_,Nat.zero_le _,rfl,H0.out⟩
 case round =>
  clear H0
  obtain ⟨k,n1,A1,l1,c1,hk,rfl,hw⟩:=hrel
  have HW:=Lh hw
  have c00:=hw.c00
  have c01:=hw.c01
  have c10:=hw.c10
  have c11:=hw.c11
  have f00:=hw.f00
  have f01:=hw.f01
  have f10:=hw.f10
  have f11:=hw.f11
  have esz:=hw.size
  have k0:w.heap.size<wr.heap.size:=by omega
  have k1:w.heap.size+1<wr.heap.size:=by omega
  by_cases hlt:k<len
  ·obtain ⟨b,off,rfl,hb,hc⟩:=h.get (by omega)
   obtain ⟨neg,Aj,lj,cj,d0,d1,hz⟩:=hc k hlt
   have e0:=(hw.below.cell (p:=⟨b,off+k*2,none⟩) hb).trans d0
   have e1:=(hw.below.cell (p:=⟨b,off+k*2+1,none⟩) hb).trans d1
   have hbx:Below wr.heap.size wr (wr.alloc (ibox neg Aj lj cj)):=(Below.refl _ _).alloc (Nat.le_refl _) _
   have hz2:=((hI.at_ hz).below hw.below).below hbx
   have hq2:=(hw.hq.below hbx).nat.at_
   rw[Int.natAbs_natCast] at hq2
   have HX:=Lh (hw.move hbx)
   have hsk:=hs.getD k
   have hsh:=hst_sm hs k
   clear hc h d0 d1 hz hw hbx
   go_wp2_with fail
   refine (cmp_any _ _ _ _ _ _ _ _ _ hz2.nat hq2 hsk hsh).mono ?_
   rintro e w2 ⟨rfl,nq,rfl⟩
   have hbq:Below (wr.alloc (ibox neg Aj lj cj)).heap.size (wr.alloc (ibox neg Aj lj cj)) ((wr.alloc (ibox neg Aj lj cj)).drewN nq):=⟨rfl,rfl,rfl,Nat.le_refl _,fun _ _=>rfl⟩
   have hz3:=hz2.below hbq
   have HY:=Lh (HX.out.move hbq)
   clear hz2 hq2 hbq
   obtain ⟨v,hv⟩:∃ v,v=cmpn (p.getD k 0).natAbs (hst p k):=⟨_,rfl⟩
   rw[<- hv]
   by_cases hgt:hst p k<(p.getD k 0).natAbs
   ·have hcm:0<v:=by rw[hv,cmpn_gt hgt];omega
    clear hv
    have Hn:=Lh (show hst p (k+1)=(p.getD k 0).natAbs from if_pos hgt)
    clear hgt
    go_wp2_with fail
    refine (iabs_any _ _ _ _ _ _ hz3 hsk).mono ?_
    rintro e w3 ⟨n3,A3,l3,c3,rfl,h3,hb3⟩
    have hg:=HY.out.move hb3
    have HZ:=Lh (hg.setq h3)
    clear c00 c01 c10 c11 f00 f01 f10 f11 e0 e1 hz3 hsk hsh hcm h3 hb3
    have c10:=hg.c10
    have c11:=hg.c11
    have f10:=hg.f10
    have f11:=hg.f11
    clear hg
    go_wp2
    go_roundw
    case rel=>exact ⟨k+1,_,_,_,_,by omega,by go_num,by rw[Hn.out];exact HZ.out⟩
    case measure=>simp[intOf];omega
   ·have hcm:¬ 0<v:=by
     rw[hv]
     unfold cmpn
     rcases Nat.lt_or_ge (p.getD k 0).natAbs (hst p k) with h1 | h1
     ·rw[if_pos h1];omega
     ·rw[if_neg (by omega),if_pos (by omega)];omega
    clear hv
    have Hn:=Lh (show hst p (k+1)=hst p k from if_neg hgt)
    clear hgt
    go_wp2
    go_roundw
    case rel=>exact ⟨k+1,_,_,_,_,by omega,by go_num,by rw[Hn.out];exact HY.out⟩
    case measure=>simp[intOf];omega
  ·have hk2:len=k:=by omega
   subst hk2
   have HI2:=Lh (hw.hq.ret (.bool n1) (.slice A1 l1 c1) c00 c01)
   have Hb:=Lh hw.below
   clear h hw HW
   go_wp2
   refine bodyPost_ret (v:=.agg #[.bool n1,.slice A1 l1 c1]) (by simp[results,Tryz.results49,go_sem,c00,c01]) rfl ⟨_,_,_,_,rfl,HI2.out,(Hb.out.setCell (p:=⟨w.heap.size,0,none⟩) (Nat.le_refl _) _).setCell (p:=⟨w.heap.size,1,none⟩) (Nat.le_refl _) _⟩
end Go.Proofs.YtpeiiomjnjemjaaGreat
namespace Go.Proofs.YtpeiiomjnjemjaaGreat
open Go.RowKit
end Go.Proofs.YtpeiiomjnjemjaaGreat
namespace Go.Proofs.YtpeiiomjnjemjaaGreat
open Go.RowKit
end Go.Proofs.YtpeiiomjnjemjaaGreat
namespace Go.Proofs.YtpeiiomjnjemjaaGreat
open Go.RowKit
theorem info_i64:(Tryz.prog.info? 2).map (fun i=>(i.zero,i.size,i.bytes))=some (some (.int .i64 0),1,8):=by kernel_rfl
def OwnI (e:TypeId) (w:World) (base:Nat) (v:Value) (k:Nat) (p:List Int):Prop:=w.ownsRow base e 1 v k ((p.map (Value.int .i64)).take k)
theorem OwnI.step {e:TypeId} {wr w1 w:World} {base k:Nat} {u v':Value} {p:List Int} {o:Obj} (hk:k<p.length) (hbase:base<=wr.heap.size) (h:OwnI e wr base u k p) (hn:Below base w wr)
  (h':w1.ownsRow base e 1 v' (k+1) ((p.map (Value.int .i64)).take k ++ [.int .i64 (p[k]?.getD 0)])) (hg:(wr.alloc o).grownBy w1 u.ownBlock):OwnI e w1 base v' (k+1) p/\Below base w w1:=by
 refine ⟨?_,(hn.alloc hbase o).grown hg (by simp;omega) (fun j hj=>(World.ownsRow.lt h j hj).1)⟩
 unfold OwnI
 have e1:(p.map (Value.int .i64)).take (k+1)=(p.map (Value.int .i64)).take k ++ [.int .i64 (p[k]?.getD 0)]:=by
  rw[List.take_add_one]
  simp[List.getElem?_map,List.getElem?_eq_getElem hk]
 rw[e1];exact h'
theorem OwnI.at_ {e:TypeId} {w:World} {base:Nat} {v:Value} {p:List Int} (h:OwnI e w base v p.length p):∃ A cap,v=.slice A p.length cap/\I64At w A p.length cap p:=by
 obtain ⟨hl,h0 | ⟨g,cap,cur,rfl,hg,hh,hc,hm,hs,ht⟩⟩:=h
 ·obtain ⟨rfl,hz⟩:=h0
  refine ⟨none,0,by rw[hz],rfl,by omega,.inl hz⟩
 ·refine ⟨_,cap,rfl,rfl,hc,.inr ⟨g,0,rfl,Blk.lt (t:=e) (cs:=cur) hh,fun j hj=>?_⟩⟩
  rw[Blk.cell (t:=e) (cs:=cur) hh,Nat.zero_add]
  have e2:=congrArg (fun l=>l[j]?) ht
  simp only[Nat.mul_one] at e2
  rw[List.getElem?_take_of_lt (by omega),List.getElem?_take_of_lt (by omega)] at e2
  rw[<- Array.getElem?_toList,e2]
  simp[List.getElem?_eq_getElem hj,List.getD_eq_getElem?_getD]
end Go.Proofs.YtpeiiomjnjemjaaGreat
namespace Go.Proofs.YtpeiiomjnjemjaaGreat
open Go.RowKit
structure IBox (W:World) (g:Nat) (n:Bool) (A:Option Addr) (l c:Nat) (z:Int):Prop where
 c0:W.cell? ⟨g,0,none⟩=some (.bool n)
 c1:W.cell? ⟨g,1,none⟩=some (.slice A l c)
 f0:W.frozen? ⟨g,0,none⟩=false
 f1:W.frozen? ⟨g,1,none⟩=false
 lt:g<W.heap.size
 hz:IntN W n A l c z
abbrev put2 (W:World) (g:Nat) (n:Bool) (A:Option Addr) (l c:Nat):World:=(W.setCell ⟨g,0,none⟩ (.bool n)).setCell ⟨g,1,none⟩ (.slice A l c)
section
variable {W W':World} {g g':Nat} {n n':Bool} {A A':Option Addr} {l c l' c':Nat} {z z':Int}
theorem IBox.move (h:IBox W g n A l c z) (hb:Below W.heap.size W W'):IBox W' g n A l c z:=by
 obtain ⟨hc,hf⟩:=bcell hb
 exact ⟨(hc _ _ h.lt).trans h.c0,(hc _ _ h.lt).trans h.c1,(hf _ _ h.lt).trans h.f0,(hf _ _ h.lt).trans h.f1,Nat.lt_of_lt_of_le h.lt hb.size,h.hz.below hb⟩
theorem IBox.nil (W:World):IBox (W.alloc (ibox false none 0 0)) W.heap.size false none 0 0 0 :=
 ⟨by go_simp,by go_simp,by go_simp,by go_simp,by simp,⟨NatN.zero _ _ _,by simp⟩⟩
theorem IBox.make (h:IntN W n A l c z):IBox (W.alloc (ibox n A l c)) W.heap.size n A l c z :=
 ⟨by go_simp,by go_simp,by go_simp,by go_simp,by simp,h.below ((Below.refl _ _).alloc (Nat.le_refl _) _)⟩
theorem IBox.put (h:IBox W g n A l c z) (hz:IntN W n' A' l' c' z'):IBox (put2 W g n' A' l' c') g n' A' l' c' z':=by
 have k0:=h.c0
 have k1:=h.c1
 have f0:=h.f0
 have f1:=h.f1
 exact ⟨by go_simp,by go_simp,by go_simp,by go_simp,by simpa [World.setCell] using h.lt,hz.ret _ _ k0 k1⟩
theorem IBox.far (h:IBox W g n A l c z) (h':IBox W g' n' A' l' c' z') (hg:g≠g') (u v:Value):IBox ((W.setCell ⟨g',0,none⟩ u).setCell ⟨g',1,none⟩ v) g n A l c z:=by
 have k0:=h.c0
 have k1:=h.c1
 have f0:=h.f0
 have f1:=h.f1
 have j0:=h'.c0
 have j1:=h'.c1
 exact ⟨by go_simp,by go_simp,by go_simp,by go_simp,by simpa [World.setCell] using h.lt,h.hz.ret _ _ j0 j1⟩
end
theorem plen_lead (ds:List Int):∀ k,plen ds=k+1->ds.getD k 0≠0:=by
 induction ds with
 | nil=>intro k h;simp[plen] at h
 | cons d ds ih =>
   intro k h
   by_cases h1:plen ds=0
   ·by_cases h2:d=0
    ·rw[plen_cons_zero h1 h2] at h;omega
    ·rw[plen_cons_one h1 h2] at h
     have:k=0:=by omega
     subst this
     simpa using h2
   ·rw[plen_cons_succ h1] at h
    obtain ⟨j,rfl⟩:∃ j,k=j+1:=⟨k-1,by omega⟩
    rw[List.getD_cons_succ]
    exact ih j (by omega)
theorem plead_ne {p:List Int} (h:plen p≠0):plead p≠0:=plen_lead p _ (by omega)
theorem hst_take (p:List Int) (n:Nat):∀ k,k<=n->hst (p.take n) k=hst p k:=by
 intro k
 induction k with
 | zero=>intro _;rfl
 | succ k ih =>
   intro hk
   have e:(p.take n).getD k 0=p.getD k 0:=by simp[List.getD_eq_getElem?_getD,show k<n by omega]
   simp only[hst,e,ih (by omega)]
theorem bcellS {W w1:World} (hb:Below W.heap.size W w1):(∀ a:Addr,(W.cell? a).isSome=true->w1.cell? a=W.cell? a)/\(∀ a:Addr,(W.cell? a).isSome=true->w1.frozen? a=W.frozen? a):=by
 refine ⟨fun a h=>?_,fun a h=>?_⟩<;>obtain ⟨u,hu⟩:=Option.isSome_iff_exists.1 h
 ·exact hb.cell (World.block_lt_of_cell? W a hu)
 ·exact hb.frozen (World.block_lt_of_cell? W a hu)
def cau (p:List Int):Int:=if plen p<2 then 0 else 1-flq (-(hst (ptrim p) (plen p-1):Nat)) ((plead (ptrim p)).natAbs:Nat)
end Go.Proofs.YtpeiiomjnjemjaaGreat
namespace Go.Proofs.YtpeiiomjnjemjaaGreat
open Go.RowKit
end Go.Proofs.YtpeiiomjnjemjaaGreat
namespace Go.Proofs.YtpeiiomjnjemjaaGreat
open Go.RowKit
theorem wpList_append_one {w:World} {ops:Array Oper} {rest:List Oper} {o:Oper} {a:Act} {Q:Exit->Act->World->Prop} (hgd:o.guard=none) (s x:Operand) (t:TypeId)
  (ho:o.op=.call { callee:=.builtin .append,args:=#[s,x],argTypes:=#[t,t] })
  (base:Nat) (e:TypeId) (i:TypeInfo) (z:Value) (bytes:Nat) (ht:Tryz.prog.underlying t=some (.slice e)) (hi:Tryz.prog.info? e=some i) (hz:i.zero=some z)
  (hsize:i.size=1) (hby:i.bytes=bytes) (hzs:z.cells.size=1)
  (v u:Value) (n:Nat) (xs:List Value) (hu:u.oneCell'=true) (hs:a.eval s=v) (hown:w.ownsRow base e 1 v n xs) (hx:a.eval x=.slice (some ⟨w.heap.size,0,none⟩) 1 1)
  (h63:n+1<=1000000000000) (hb:bytes<=128) (hbase:base<=w.heap.size)
  (h:∀ v' w',w'.ownsRow base e 1 v' (n+1) (xs ++ [u])->(w.alloc (.cells #[u] e)).grownBy w' v.ownBlock->wpList Tryz.prog ops Q rest (a.put o.dst v') w') :
  wpList Tryz.prog ops Q (o :: rest) a (w.alloc (.cells #[u] e)):=by
 refine wpList_append_own _ hgd s x t ho base e i z 1 bytes ht hi hz hsize hby hzs (by decide) v n xs hs (World.ownsRow.alloc hown _) ⟨w.heap.size,0,none⟩ 1 1 [u] hx rfl ?_ ?_ (by unfold maxLen;omega) ?_ (by simp;omega) (fun v' w' h1 h2 _=>h v' w' h1 h2)
 ·intro j y hj
  match j,hj with
  | 0,hj=>simp at hj;subst hj;simp[Addr.add]
 ·intro y hy
  simp at hy
  rw[hy];exact hu
 ·calc (n+1)*bytes<=1000000000000*128:=Nat.mul_le_mul h63 hb
   _<=140737488355328:=by omega
structure I16At (w:World) (A:Option Addr) (len cap:Nat) (p:List Int):Prop where
 length:p.length=len
 range:∀ c∈p,-32768<=c/\c<=32767
 cells:len=0∨∃ b off,A=some ⟨b,off,none⟩/\b<w.heap.size/\∀ j,j<len->w.cell? ⟨b,off+j,none⟩=some (.int .i16 (p.getD j 0))
theorem I16At.below {w w':World} {A:Option Addr} {len cap:Nat} {p:List Int} (h:I16At w A len cap p) (hb:Below w.heap.size w w'):I16At w' A len cap p:=by
 refine ⟨h.length,h.range,?_⟩
 rcases h.cells with h0 | ⟨b,off,hA,hlt,hc⟩
 ·exact .inl h0
 ·exact .inr ⟨b,off,hA,Nat.lt_of_lt_of_le hlt hb.size,fun j hj=>(hb.cell (p:=⟨b,off+j,none⟩) hlt).trans (hc j hj)⟩
theorem I16At.at_ {w:World} {A:Option Addr} {len cap:Nat} {p:List Int} (h:I16At w A len cap p) (hl:0<len) :
  ∃ b off,A=some ⟨b,off,none⟩/\b<w.heap.size/\∀ j,j<len->w.cell? ⟨b,off+j,none⟩=some (.int .i16 (p.getD j 0)):=by
 rcases h.cells with h0 | h1
 ·omega
 ·exact h1
end Go.Proofs.YtpeiiomjnjemjaaGreat
namespace Go.Proofs.YtpeiiomjnjemjaaGreat
open Go.RowKit
theorem getD_ge_plen (p:List Int):∀ k,plen p<=k->p.getD k 0=0:=by
 induction p with
 | nil=>intro k _;simp
 | cons d ds ih =>
   intro k h
   by_cases h1:plen ds=0
   ·by_cases h2:d=0
    ·cases k with
     | zero=>simpa using h2
     | succ k=>rw[List.getD_cons_succ];exact ih k (by omega)
    ·rw[plen_cons_one h1 h2] at h
     obtain ⟨j,rfl⟩:∃ j,k=j+1:=⟨k-1,by omega⟩
     rw[List.getD_cons_succ];exact ih j (by omega)
   ·rw[plen_cons_succ h1] at h
    obtain ⟨j,rfl⟩:∃ j,k=j+1:=⟨k-1,by omega⟩
    rw[List.getD_cons_succ];exact ih j (by omega)
theorem take_getD (p:List Int) {n k:Nat} (h:k<n):(p.take n).getD k 0=p.getD k 0:=by simp[List.getD_eq_getElem?_getD,h]
theorem Tiny.i64 {m:Nat} {p:List Int} (h:Tiny m p) (hm:m<=9223372036854775807):∀ c∈p,I64 c:=by
 intro c hc
 obtain ⟨k,hk⟩:=List.getElem?_of_mem hc
 have:=h k
 rw[List.getD_eq_getElem?_getD,hk] at this
 unfold I64
 simp at this
 omega
theorem Tiny.smp {m:Nat} {p:List Int} (h:Tiny m p) (hm:m<=9223372036854775807):SmP p:=fun c hc=>SmI.of64 (h.i64 hm c hc)
theorem Tiny.trim {m:Nat} {p:List Int} (h:Tiny m p):Tiny m (ptrim p):=by
 intro k
 rcases Nat.lt_or_ge k (plen p) with h1 | h1
 ·rw[ptrim,take_getD p h1];exact h k
 ·have:=ptrim_length p
  rw[List.getD_eq_getElem?_getD,List.getElem?_eq_none (by omega)];simp
end Go.Proofs.YtpeiiomjnjemjaaGreat
