/- The end of a row whose argument is a slice of triples of int8s. -/
import Derived.Test.YtjmglmgokfcgoaaGreatRowP
import Derived.Test.YtjmglmgokfcgoaaGreatLin
import Derived.OpenShut
import Derived.Deep.Slices
import Derived.Laws.IdiomArrays
namespace Go.Proofs.YtjmglmgokfcgoaaGreat
open Go.ChangeShapes Go.WideShapes Go.ChangeAt Go.RowKit
theorem Tryz.cellsTr8:Tryz.prog.cellsOf 122=3:=by kernel_rfl
theorem Tryz.cellsOn8:Tryz.prog.cellsOf 65=1:=by kernel_rfl
structure TrAt (w:World) (A:Option Addr) (len cap:Nat) (qs:List (List Int)):Prop where
 length:qs.length=len
 three:∀ q∈qs,q.length=3∧∀ c∈q,I8 c
 cells:len=0∨∃ b off,A=some ⟨b,off,none⟩∧b<w.heap.size∧∀ i,i<len→∀ k,k<3→w.cell? ⟨b,off+i*3+k,none⟩=some (.int .i8 ((qs.getD i []).getD k 0))
set_option maxRecDepth 100000 in
theorem open_tr8 {H:Type} {enc:TypeId×Value→H} {W:World} {fuel:Nat} {cs:List Value} {x:DataW H×List MemPlace} (hl:cs.length=3)
  (h:DataW.trod enc Tryz.prog W 0 (fun _=>true) true fuel 122 cs=some x) :
  ∃ q:List Int,q.length=3∧(∀ c∈q,I8 c)∧∀ k,k<3→cs[k]?=some (.int .i8 (q.getD k 0)):=by
 obtain ⟨c0,c1,c2,rfl⟩:∃ c0 c1 c2,cs=[c0,c1,c2]:=by
  match cs,hl with
  | [x,y,z],_=>exact ⟨x,y,z,rfl⟩
 obtain ⟨y0,y1,y2,n,hx,t0,t1,t2⟩:=trod_array3 Tryz.underlying122 Tryz.cellsOn8 h
 obtain ⟨a,ea,rfl,wa⟩:=DataW.trod_int Tryz.underlying65 t0
 obtain ⟨b,eb,rfl,wb⟩:=DataW.trod_int Tryz.underlying65 t1
 obtain ⟨c,ec,rfl,wc⟩:=DataW.trod_int Tryz.underlying65 t2
 simp at ea eb ec
 subst ea;subst eb;subst ec
 refine ⟨[a,b,c],rfl,fun z hz=>?_,fun k hk=>?_⟩
 ·simp at hz
  rcases hz with rfl | rfl | rfl
  ·exact bounds_i8 wa
  ·exact bounds_i8 wb
  ·exact bounds_i8 wc
 ·match k,hk with
  | 0,_=>rfl
  | 1,_=>rfl
  | 2,_=>rfl
theorem choose_lst {α:Type} {p:Nat→α→Prop}:∀ (n:Nat) (_:∀ i,i<n→∃ a,p i a) (d:α),∃ l:List α,l.length=n∧∀ i,i<n→p i (l.getD i d)
 | 0,_,_=>⟨[],rfl,fun i hi=>absurd hi (Nat.not_lt_zero _)⟩
 | n+1,h,d=>by
   obtain ⟨l,h1,h2⟩:=choose_lst n (fun i hi=>h i (by omega)) d
   obtain ⟨a,ha⟩:=h n (Nat.lt_succ_self n)
   refine ⟨l ++ [a],by rw [List.length_append,h1];rfl,fun i hi=>?_⟩
   rw [List.getD_eq_getElem?_getD]
   by_cases c:i<n
   ·rw [List.getElem?_append_left (by omega),← List.getD_eq_getElem?_getD]
    exact h2 i c
   ·rw [show i=n by omega,List.getElem?_append_right (by omega),h1,Nat.sub_self]
    exact ha
set_option maxRecDepth 100000 in
theorem open_trs {H:Type} {enc:TypeId×Value→H} {W:World} {A:Option Addr} {len cap:Nat} {d:DataW H} {p:List MemPlace}
  (h:DataW.Trod enc Tryz.prog W 0 (fun _=>true) true 22 (.slice A len cap) d p) (hlt:∀ x∈p,x.block<W.heap.size) :
  len≤9223372036854775807∧∃ qs,TrAt W A len cap qs:=by
 obtain ⟨fuel,hf⟩:=h
 rcases Deep.open_slice Tryz.underlying22 hf with ⟨hcs,hx⟩ | ⟨a,len',cap',m,n,D,Pl,hcs,_,hl,hm,hmm,hx,hel⟩
 ·simp [Value.cells] at hcs
  obtain ⟨rfl,rfl,rfl⟩:=hcs
  exact ⟨by omega,[],rfl,(fun q hq=>by cases hq),.inl rfl⟩
 ·simp [Value.cells] at hcs
  obtain ⟨rfl,rfl,rfl⟩:=hcs
  simp only [if_true] at hmm
  subst hmm
  rw [Tryz.cellsTr8] at hel hx
  obtain ⟨qs,hq,hqs⟩:=choose_lst (p:=fun i (q:List Int)=>(q.length=3∧∀ c∈q,I8 c)∧∀ j,j<3→W.cell? ((a.add (i*3)).add j)=some (.int .i8 (q.getD j 0))) len (fun i hi=>by
   obtain ⟨cs',h1,h2⟩:=hel i (by omega)
   obtain ⟨_,hl3,hc⟩:=World.cells?_some h1
   obtain ⟨q,q1,q2,q3⟩:=open_tr8 hl3 h2
   exact ⟨q,⟨q1,q2⟩,fun j hj=>(hc j hj).trans (q3 j hj)⟩) []
  refine ⟨by unfold maxLen at hm;omega,qs,hq,fun q h=>?_,?_⟩
  ·obtain ⟨i,hi,e⟩:=List.getElem_of_mem h
   have:=(hqs i (by omega)).1
   rw [List.getD_eq_getElem?_getD,List.getElem?_eq_getElem hi,e] at this
   exact this
  ·by_cases hl0:len=0
   ·exact .inl hl0
   ·obtain ⟨b,off,spot⟩:=a
    have hspot:spot=none:=by
     have:=(hqs 0 (by omega)).2 0 (by omega)
     rw [Nat.zero_mul] at this
     simp only [Addr.add,if_pos] at this
     exact World.cell?_spot this
    subst hspot
    have hbW:b<W.heap.size:=by
     refine hlt (.cell b off) ?_
     simp only [Prod.mk.injEq] at hx
     rw [hx.2]
     exact List.mem_append.2 (.inl (MemPlace.mem_row.2 ⟨0,by omega,by simp⟩))
    refine .inr ⟨b,off,rfl,hbW,fun i hi k hk=>?_⟩
    have:=(hqs i hi).2 k hk
    rwa [Addr.add_lit,Addr.add_lit] at this
theorem TrAt.below {w w':World} {A:Option Addr} {len cap:Nat} {qs:List (List Int)} (h:TrAt w A len cap qs) (hb:Below w.heap.size w w'):TrAt w' A len cap qs:=by
 refine ⟨h.length,h.three,?_⟩
 rcases h.cells with h0 | ⟨b,off,e,hlt,hc⟩
 ·exact .inl h0
 ·exact .inr ⟨b,off,e,Nat.lt_of_lt_of_le hlt hb.size,fun i hi k hk=>(hb.cell hlt).trans (hc i hi k hk)⟩
theorem TrAt.at {w:World} {A:Option Addr} {len cap:Nat} {qs:List (List Int)} (h:TrAt w A len cap qs) (h0:0<len):∃ b off,A=some ⟨b,off,none⟩∧b<w.heap.size∧∀ i,i<len→∀ k,k<3→w.cell? ⟨b,off+i*3+k,none⟩=some (.int .i8 ((qs.getD i []).getD k 0)):=by
 rcases h.cells with h1 | h1
 ·omega
 ·exact h1
end Go.Proofs.YtjmglmgokfcgoaaGreat
