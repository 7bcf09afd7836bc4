/- The walk of unipoly.Shift. -/
import Derived.Deep.RegionHeld3
import Derived.Test.YtjmglmgokfcgoaaRbH
import Derived.Test.YtjmglmgokfcgoaaIntE
import Derived.Test.YtjmglmgokfcgoaaPop
import Derived.IntWalk
namespace Go.Proofs.Ytjmglmgokfcgoaa
def hd0:List Int→Int
 | []=>0
 | a :: _=>a
def mulX (c:Int):Int→List Int→List Int
 | s,[]=>[s]
 | s,b :: y=>(s+c*b) :: mulX c b y
def hsh (c:Int):List Int→List Int
 | []=>[]
 | a :: t=>mulX c a (hsh c t)
theorem mulX_length (c:Int):∀ (y:List Int) (s:Int),(mulX c s y).length=y.length+1:=by
 intro y
 induction y with
 | nil=>intro s;rfl
 | cons b y ih=>intro s;simp [mulX,ih]
theorem hsh_length (c:Int) (f:List Int):(hsh c f).length=f.length:=by
 induction f with
 | nil=>rfl
 | cons a t ih=>simp [hsh,mulX_length,ih]
def syn (c:Int):List Int→List Int
 | []=>[]
 | a :: t=>(if t=[] then a else a+c*hd0 (syn c t)) :: syn c t
theorem syn_length (c:Int) (f:List Int):(syn c f).length=f.length:=by
 induction f with
 | nil=>rfl
 | cons a t ih=>simp [syn,ih]
theorem hsh_syn (c:Int):∀ f:List Int,f≠[]→hsh c f=hd0 (syn c f) :: hsh c (syn c f).tail:=by
 intro f
 induction f with
 | nil=>intro h;exact absurd rfl h
 | cons a t ih =>
   intro _
   by_cases ht:t=[]
   ·subst ht;rfl
   ·have h1:=ih ht
    rw [hsh,h1]
    simp only [syn,if_neg ht,hd0,List.tail_cons,mulX]
    congr 1
    have h2:syn c t≠[]:=by
     intro e
     have:=syn_length c t
     rw [e] at this
     exact ht (List.eq_nil_of_length_eq_zero (by simpa using this.symm))
    generalize syn c t=u at h2 ⊢
    cases u with
    | nil=>exact absurd rfl h2
    | cons h q=>rfl
def pass (c:Int) (low:Nat) (l:List Int):List Int:=l.take low ++ syn c (l.drop low)
theorem pass_length (c:Int) (low:Nat) (l:List Int):(pass c low l).length=l.length:=by
 simp [pass,syn_length];omega
def st (c:Int) (l:List Int):Nat→List Int
 | 0=>l
 | k+1=>pass c k (st c l k)
theorem st_length (c:Int) (l:List Int) (k:Nat):(st c l k).length=l.length:=by
 induction k with
 | zero=>rfl
 | succ k ih=>rw [st,pass_length,ih]
theorem st_inv (c:Int) (l:List Int):∀ k,k<l.length→hsh c l=(st c l k).take k ++ hsh c ((st c l k).drop k):=by
 intro k
 induction k with
 | zero=>intro _;simp [st]
 | succ k ih =>
   intro h
   rw [ih (by omega),st]
   have hm:=st_length c l k
   generalize st c l k=m at hm
   have hd:(m.drop k).length=l.length-k:=by rw [List.length_drop,hm]
   have hne:m.drop k≠[]:=by
    intro e
    rw [e] at hd
    simp at hd
    omega
   rw [hsh_syn c _ hne]
   have hs:=syn_length c (m.drop k)
   generalize hu:syn c (m.drop k)=u at hs
   have hp:pass c k m=m.take k ++ u:=by rw [pass,hu]
   have hl:(m.take k).length=k:=by rw [List.length_take];omega
   cases u with
   | nil=>simp at hs;omega
   | cons h1 q =>
     rw [hp,List.take_append,List.drop_append,hl]
     simp [show k+1-k=1 by omega,List.take_of_length_le,List.drop_eq_nil_of_le,hl,hd0]
theorem st_hsh (c:Int) (l:List Int) (n:Nat) (hn:l.length=n+1):st c l n=hsh c l:=by
 rw [st_inv c l n (by omega)]
 have h1:=st_length c l n
 have h2:((st c l n).drop n).length=1:=by rw [List.length_drop,h1];omega
 have h3:hsh c ((st c l n).drop n)=(st c l n).drop n:=by
  generalize (st c l n).drop n=d at h2
  match d,h2 with
  | [a],_=>rfl
 rw [h3,List.take_append_drop]
theorem pass_last (c:Int) (l:List Int) (n:Nat) (hn:l.length=n+1):pass c n l=l:=by
 have h2:(l.drop n).length=1:=by rw [List.length_drop];omega
 have h3:syn c (l.drop n)=l.drop n:=by
  generalize l.drop n=d at h2
  match d,h2 with
  | [a],_=>rfl
 rw [pass,h3,List.take_append_drop]
theorem drop_cons_getD (l:List Int) {j:Nat} (h:j<l.length):l.drop j=l.getD j 0 :: l.drop (j+1):=by
 rw [List.drop_eq_getElem_cons h,List.getD_eq_getElem?_getD,List.getElem?_eq_getElem h];rfl
theorem pass_get (c:Int) (l:List Int) {j:Nat} (h:j+1<l.length):(pass c (j+1) l).getD j 0=l.getD j 0∧(pass c (j+1) l).getD (j+1) 0=hd0 (syn c (l.drop (j+1))):=by
 have hl:(l.take (j+1)).length=j+1:=by rw [List.length_take];omega
 constructor
 ·rw [pass,List.getD_eq_getElem?_getD,List.getElem?_append_left (by omega),List.getElem?_take_of_lt (by omega),List.getD_eq_getElem?_getD]
 ·rw [pass,List.getD_eq_getElem?_getD,List.getElem?_append_right (by omega),hl,Nat.sub_self]
  cases syn c (l.drop (j+1))<;>rfl
theorem pass_step (c:Int) (l:List Int) {j:Nat} (h:j+1<l.length) :
  (pass c (j+1) l).set j ((pass c (j+1) l).getD j 0+c*(pass c (j+1) l).getD (j+1) 0)=pass c j l:=by
 obtain ⟨h1,h2⟩:=pass_get c l h
 rw [h1,h2]
 have hl:(l.take (j+1)).length=j+1:=by rw [List.length_take];omega
 have e1:l.take (j+1)=l.take j ++ [l.getD j 0]:=by
  rw [List.take_succ_eq_append_getElem (by omega),List.getD_eq_getElem?_getD,List.getElem?_eq_getElem (by omega)];rfl
 have hl2:(l.take j).length=j:=by rw [List.length_take];omega
 have hne:l.drop (j+1)≠[]:=by
  intro e
  have:=congrArg List.length e
  rw [List.length_drop] at this
  simp at this
  omega
 rw [pass,pass,drop_cons_getD l (show j<l.length by omega),syn,if_neg hne,e1,List.append_assoc,List.set_append_right _ _ (by omega),hl2,Nat.sub_self]
 rfl
theorem mulX_pos {c:Int} (hc:0<c):∀ (y:List Int) (s:Int),0<s+c*hd0 y→(∀ x∈y,0<x)→y≠[]→∀ x∈mulX c s y,0<x:=by
 intro y
 induction y with
 | nil=>intro s _ _ h;exact absurd rfl h
 | cons b y ih =>
   intro s hs hy _ x hx
   simp only [mulX,List.mem_cons] at hx
   have hb:=hy b List.mem_cons_self
   rcases hx with rfl | hx
   ·exact hs
   ·by_cases hn:y=[]
    ·subst hn
     simp [mulX] at hx
     omega
    ·refine ih b ?_ (fun z hz=>hy z (List.mem_cons_of_mem _ hz)) hn x hx
     cases y with
     | nil=>exact absurd rfl hn
     | cons d y =>
       have hd:=hy d (by simp)
       have:=Int.mul_pos hc hd
       simp only [hd0]
       omega
theorem hsh_pos {c:Int} (hc:0<c) (l:List Int) (a:Int) (ha:0<a) (hl:∀ x∈l,-c<x):∀ x∈hsh c (l ++ [a]),0<x:=by
 induction l with
 | nil=>intro x hx;simp [hsh,mulX] at hx;omega
 | cons b l ih =>
   have h1:=ih (fun x hx=>hl x (List.mem_cons_of_mem _ hx))
   have hne:hsh c (l ++ [a])≠[]:=by
    intro e
    have:=hsh_length c (l ++ [a])
    rw [e] at this
    simp at this
   refine mulX_pos hc _ _ ?_ h1 hne
   have hb:=hl b List.mem_cons_self
   cases hu:hsh c (l ++ [a]) with
   | nil=>exact absurd hu hne
   | cons d q =>
     rw [hu] at h1
     have hd:=h1 d List.mem_cons_self
     simp only [hd0]
     have:c*1≤c*d:=Int.mul_le_mul_of_nonneg_left (by omega) (by omega)
     omega
theorem mulX_neg (c:Int):∀ (y:List Int) (s:Int),mulX c (-s) (y.map (- ·))=(mulX c s y).map (- ·):=by
 intro y
 induction y with
 | nil=>intro s;rfl
 | cons b y ih =>
   intro s
   simp only [List.map_cons,mulX,ih]
   congr 1
   rw [Int.mul_neg];omega
theorem hsh_neg (c:Int) (l:List Int):hsh c (l.map (- ·))=(hsh c l).map (- ·):=by
 induction l with
 | nil=>rfl
 | cons a t ih=>simp only [List.map_cons,hsh,ih,mulX_neg]
theorem mulX_bound {c:Int} {C B S:Nat} (hc:c.natAbs≤C):∀ (y:List Int) (s:Int),s.natAbs≤S→B≤S→(∀ x∈y,x.natAbs≤B)→∀ x∈mulX c s y,x.natAbs≤S+C*B:=by
 intro y
 induction y with
 | nil=>intro s hs _ _ x hx;simp [mulX] at hx;subst hx;omega
 | cons b y ih =>
   intro s hs hBS hy x hx
   simp only [mulX,List.mem_cons] at hx
   have hb:=hy b List.mem_cons_self
   rcases hx with rfl | hx
   ·have h1:(c*b).natAbs≤C*B:=by rw [Int.natAbs_mul];exact Nat.mul_le_mul hc hb
    omega
   ·exact ih b (by omega) hBS (fun z hz=>hy z (List.mem_cons_of_mem _ hz)) x hx
theorem hsh_bound {c:Int} {C M:Nat} (hc:c.natAbs≤C) (hC:1≤C) (l:List Int) (hl:∀ x∈l,x.natAbs≤M):∀ x∈hsh c l,x.natAbs≤M*(C+2)^l.length:=by
 induction l with
 | nil=>intro x hx;cases hx
 | cons a t ih =>
   intro x hx
   have h1:=ih (fun z hz=>hl z (List.mem_cons_of_mem _ hz))
   have ha:=hl a List.mem_cons_self
   have hp:1≤(C+2)^t.length:=Nat.le_trans Nat.one_le_two_pow (Nat.pow_le_pow_left (by omega) _)
   have hM:M≤M*(C+2)^t.length:=Nat.le_mul_of_pos_right _ hp
   have h2:=mulX_bound hc (hsh c t) a (S:=M+M*(C+2)^t.length) (by omega) (by omega) h1 x hx
   rw [List.length_cons,Nat.pow_succ,← Nat.mul_assoc,Nat.mul_add]
   have:C*(M*(C+2)^t.length)=M*(C+2)^t.length*C:=Nat.mul_comm _ _
   omega
end Go.Proofs.Ytjmglmgokfcgoaa
namespace Go.Proofs.Ytjmglmgokfcgoaa
open Go.RowKit
noncomputable def FW:Nat:=Classical.choose (⟨100000,rfl⟩:∃ n:Nat,n=100000)
theorem FW_eq:FW=100000:=Classical.choose_spec (⟨100000,rfl⟩:∃ n:Nat,n=100000)
def Fit (z:Int):Prop:=z.natAbs<BB^FW
theorem sm_pow {n k:Nat} (h:n<BB^k) (hk:k≤1000000000):Sm n:=Nat.le_trans (dlen_le_of_lt h) (by omega)
theorem Fit.sm {z:Int} (h:Fit z):SmI z:=sm_pow h (by rw [FW_eq];omega)
theorem Fit.mulok {a:Int} (_h:Fit a) (b:Int):MulOK a.natAbs b.natAbs:=trivial
theorem Fit.mul {a b:Int} (ha:Fit a) (hb:Fit b):(a*b).natAbs<BB^(FW+FW):=by
 rw [Int.natAbs_mul,Nat.pow_add]
 exact Nat.mul_lt_mul'' ha hb
theorem Fit.add {a b c:Int} (ha:Fit a) (hb:Fit b) (hc:Fit c):Sm (a.natAbs+(b*c).natAbs):=by
 have h1:=hb.mul hc
 have h2:BB^FW≤BB^(FW+FW):=Nat.pow_le_pow_right BB_pos (by omega)
 refine sm_pow (k:=FW+FW+1) ?_ (by rw [FW_eq];omega)
 rw [Nat.pow_succ]
 have h3:BB^(FW+FW)*2≤BB^(FW+FW)*BB:=Nat.mul_le_mul_left _ (by rw [BB_eq];omega)
 unfold Fit at ha
 omega
theorem Fit.sm2 {a b:Int} (ha:Fit a) (hb:Fit b):SmI (a*b):=sm_pow (ha.mul hb) (by rw [FW_eq];omega)
theorem IBox.row {W:World} {g g':Nat} {n:Bool} {A:Option Addr} {l c:Nat} {z:Int} {zs:List Int} (h:IBox W g n A l c z) (hr:PRow W g' zs) {i:Nat} (hi:i<zs.length) (hg:g≠g') (u v:Value) :
  IBox ((W.setCell ⟨g',i*2,none⟩ u).setCell ⟨g',i*2+1,none⟩ v) g n A l c z:=by
 obtain ⟨n0,A0,l0,c0,e0,e1,_⟩:=hr.elems i hi
 have k0:=h.c0
 have k1:=h.c1
 have f0:=h.f0
 have f1:=h.f1
 have e1':(W.setCell ⟨g',i*2,none⟩ u).cell? ⟨g',i*2+1,none⟩=some (.slice A0 l0 c0):=by
  rw [World.cell?_setCell_other W _ _ _ (by simp)];exact e1
 exact ⟨by go_simp,by go_simp,by go_simp,by go_simp,by simpa [World.setCell] using h.lt,(h.hz.store _ e0 (noDigit_bool _)).store _ e1' (noDigit_slice _ _ _)⟩
def ShOK (c:Int) (q:List Int):Prop:=Fit c∧∀ k j i,k≤q.length→Fit ((pass c j (st c q k)).getD i 0)
set_option maxRecDepth 100000 in
set_option maxHeartbeats 4000000 in
theorem pshift_any {I:IntPred} (hI:IK I) (A:Option Addr) (len cap:Nat) (p:List Int) (nb:Bool) (B:Option Addr) (lb cb:Nat) (c:Int) (w:World) (h:PolyP I w A len cap p) (hc:IntN w nb B lb cb c) (hs:SmP p) (hm:len≤1099511627776) (hok:ShOK c (ptrim p)) :
  Calls Try.prog 61 #[.slice A len cap,.agg #[.bool nb,.slice B lb cb]] w fun e w'=>∃ g,e=.returned (.slice (some ⟨g,0,none⟩) (plen p) (plen p))∧PRow w' g (hsh c (ptrim p))∧w.heap.size≤g∧Below w.heap.size w w':=by
 have hb0:Below w.heap.size w (w.alloc (ibox nb B lb cb)):=(Below.refl _ _).alloc (Nat.le_refl _) _
 have h0:=h.below hI hb0
 have hB0:=Lib.hid (IBox.make hc)
 have hpl:plen p≤1099511627776:=by have:=plen_le p;have:=h.length;omega
 have Hb0:=Lib.hid hb0
 clear h hb0 hc
 go_enter Try.func61,Try.ntmps61
 go_wp2_with fail
 refine (pnormal_any hI _ _ _ _ _ h0 hs hm).mono ?_
 rintro e w1 ⟨g,rfl,hrow,hg,hb1⟩
 have hB1:=Lib.hid (hB0.out.move hb1)
 have hB1':=Lib.hid (Hb0.out.trans (hb1.mono Hb0.out.size))
 simp only [World.size_alloc] at hg
 have hpt:=Lib.hid (ptrim_length p)
 clear h0 hB0 Hb0 hb1
 obtain ⟨q,hq⟩:∃ q,q=ptrim p:=⟨_,rfl⟩
 rw [← hq] at hrow hok hpt
 have Hq:=Lib.hid hq
 clear hq
 have Hok:=Lib.hid hok
 have Hrow:=Lib.hid hrow
 clear hok hrow hs
 obtain ⟨n,hn⟩:∃ n,n=plen p:=⟨_,rfl⟩
 rw [← hn] at hpl hpt ⊢
 have Hn:=Lib.hid hn
 clear hn hm
 go_wp2
 go_loopw [6] (fun l wr=>∃ k:Nat,k≤n∧(k=0∨k<n)∧l=.int .i64 (k:Int)∧PRow wr g (st c q k)∧IBox wr w.heap.size nb B lb cb c∧Below w.heap.size w wr) (fun l _=>n-(intOf l).toNat)
 case atStart=>exact ⟨0,Nat.zero_le _,.inl rfl,rfl,Hrow.out,hB1.out,hB1'.out⟩
 case round =>
  clear Hrow hB1 hB1'
  obtain ⟨k,hkn,hk0,rfl,hrow,hbx,hbw⟩:=hrel
  have Hrow:=Lib.hid hrow
  have Hbx:=Lib.hid hbx
  have Hbw:=Lib.hid hbw
  clear hrow hbx hbw
  by_cases hlt:(k:Int)<(n:Int)-1
  ·go_wp2
   go_loopw [7] (fun i wx=>∃ j:Nat,k≤j∧j<n∧i=.int .i64 ((j:Int)-1)∧PRow wx g (pass c j (st c q k))∧IBox wx w.heap.size nb B lb cb c∧Below w.heap.size w wx) (fun i _=>(intOf i+1).toNat)
   case atStart =>
    refine ⟨n-1,by omega,by omega,?_,?_,Hbx.out,Hbw.out⟩
    ·congr 1;omega
    ·rw [pass_last]
     ·exact Hrow.out
     ·rw [st_length,hpt.out];omega
   case round =>
    clear Hrow Hbx Hbw
    obtain ⟨j,hkj,hjn,rfl,hrow,hbx,hbw⟩:=hrel
    by_cases hj:k<j
    ·obtain ⟨i,rfl⟩:∃ i,j=i+1:=⟨j-1,by omega⟩
     rw [show ((i+1:Nat):Int)-1=(i:Int) by omega]
     have hlen:(pass c (i+1) (st c q k)).length=n:=by rw [pass_length,st_length,hpt.out]
     obtain ⟨n1,A1,l1,c1,e10,e11,z1⟩:=hrow.elems i (by omega)
     obtain ⟨n2,A2,l2,c2,e20,e21,z2⟩:=hrow.elems (i+1) (by omega)
     have f0:=hrow.frozen (i*2)
     have f1:=hrow.frozen (i*2+1)
     have b0:=hbx.c0
     have b1:=hbx.c1
     have fit1:=Hok.out.2 k (i+1) i (by rw [hpt.out];omega)
     have fit2:=Hok.out.2 k (i+1) (i+1) (by rw [hpt.out];omega)
     have fitc:=Hok.out.1
     have hstep:=Lib.hid (pass_step c (st c q k) (j:=i) (by rw [st_length,hpt.out];omega))
     have Hlen:=Lib.hid hlen
     have Hrow:=Lib.hid hrow
     have Hbx:=Lib.hid hbx
     have Hbw:=Lib.hid hbw
     have Hz1:=Lib.hid z1
     have Hz2:=Lib.hid z2
     clear hlen hrow hbx hbw z1 z2
     have w1:IntKind.i64.wrap ((i:Int)+1)=(i:Int)+1:=IntWalk.i64_in _ (by omega)
     have w2:0≤(i:Int)+1:=by omega
     have hin:i<n:=by omega
     have hjn2:(i:Int)+1<(n:Int):=by omega
     have w3:((i:Int)+1).toNat=i+1:=by omega
     go_wp2_with fail
     refine wp_region_last (S:=fun w'=>w'.cell? ⟨g,i*2,none⟩=some (.bool n1)∧w'.cell? ⟨g,i*2+1,none⟩=some (.slice A1 l1 c1)∧w'.cell? ⟨g,(i+1)*2,none⟩=some (.bool n2)∧w'.cell? ⟨g,(i+1)*2+1,none⟩=some (.slice A2 l2 c2)∧w'.cell? ⟨w.heap.size,0,none⟩=some (.bool nb)∧w'.cell? ⟨w.heap.size,1,none⟩=some (.slice B lb cb)) (by kernel_rfl) (by kernel_rfl) (by (try dsimp only);go_keep) (fun hHeld=>?_)
     simp only [List.pop_toArray,List.dropLast]
     (refine tk (i:=0) (v:=?_) rfl rfl (Or.inl ⟨by rfl,?_⟩) ?_;rotate_left;(focus (intro w hSw;(try dsimp only at hSw);go_simp;(try with_reducible rfl)));(simp only [put_lit,List.set]))
     (refine tk (i:=1) (v:=?_) rfl rfl (Or.inl ⟨by rfl,?_⟩) ?_;rotate_left;(focus (intro w hSw;(try dsimp only at hSw);go_simp;(try with_reducible rfl)));(simp only [put_lit,List.set]))
     (refine tk (i:=2) (v:=?_) rfl rfl (Or.inl ⟨by rfl,?_⟩) ?_;rotate_left;(focus (intro w hSw;(try dsimp only at hSw);go_simp;(try with_reducible rfl)));(simp only [put_lit,List.set]))
     (refine tk (i:=3) (v:=?_) rfl rfl (Or.inl ⟨by rfl,?_⟩) ?_;rotate_left;(focus (intro w hSw;(try dsimp only at hSw);go_simp;(try with_reducible rfl)));(simp only [put_lit,List.set]))
     (refine tk (i:=4) (v:=?_) rfl rfl (Or.inl ⟨by rfl,?_⟩) ?_;rotate_left;(focus (intro w hSw;(try dsimp only at hSw);go_simp;(try with_reducible rfl)));(simp only [put_lit,List.set]))
     (refine tk (i:=5) (v:=?_) rfl rfl (Or.inl ⟨by rfl,?_⟩) ?_;rotate_left;(focus (intro w hSw;(try dsimp only at hSw);go_simp;(try with_reducible rfl)));(simp only [put_lit,List.set]))
     (refine tk (i:=6) (v:=?_) rfl rfl (Or.inl ⟨by rfl,?_⟩) ?_;rotate_left;(focus (intro w hSw;(try dsimp only at hSw);go_simp;(try with_reducible rfl)));(simp only [put_lit,List.set]))
     (refine tk (i:=7) (v:=?_) rfl rfl (Or.inl ⟨by rfl,?_⟩) ?_;rotate_left;(focus (intro w hSw;(try dsimp only at hSw);go_simp;(try with_reducible rfl)));(simp only [put_lit,List.set]))
     (refine tk (i:=8) (v:=?_) rfl rfl (Or.inl ⟨by rfl,?_⟩) ?_;rotate_left;(focus (intro w hSw;(try dsimp only at hSw);go_simp;(try with_reducible rfl)));(simp only [put_lit,List.set]))
     (refine tk (i:=9) (v:=?_) rfl rfl (Or.inl ⟨by rfl,?_⟩) ?_;rotate_left;(focus (intro w hSw;(try dsimp only at hSw);go_simp;(try with_reducible rfl)));(simp only [put_lit,List.set]))
     (refine tk (i:=10) (v:=?_) rfl rfl (Or.inl ⟨by rfl,?_⟩) ?_;rotate_left;(focus (intro w hSw;(try dsimp only at hSw);go_simp;(try with_reducible rfl)));(simp only [put_lit,List.set]))
     (refine tk (i:=11) (v:=?_) rfl rfl (Or.inl ⟨by rfl,?_⟩) ?_;rotate_left;(focus (intro w hSw;(try dsimp only at hSw);go_simp;(try with_reducible rfl)));(simp only [put_lit,List.set]))
     refine wpAnyH_ready (rs:=[12]) (by kernel_rfl) (by simp) ?_
     refine AllReadyH.cons rfl (fun K hK=>?_) AllReadyH.nil;go_simp
     refine (imul_any _ _ _ _ _ _ _ _ _ _ _ ?_ ?_ fitc.sm fit2.sm (fitc.mulok _)).mono ?_
     ·exact Hbx.out.hz.at_.below Bel.go
     ·exact Hz2.out.at_.below Bel.go
     rintro e w7 ⟨n8,A8,l8,c8,rfl,h8,hb8⟩
     obtain ⟨hcx,hfx⟩:=bcellS hb8
     have HX8:=Lib.hid (Hbx.out.move (Below.trans Bel.go (hb8.mono (by simp<;>omega))))
     have HR8:=Lib.hid (Hrow.out.below (Below.trans Bel.go (hb8.mono (by simp<;>omega))))
     have Hb8:=Lib.hid (Hbw.out.trans ((Below.trans Bel.go (hb8.mono (by simp<;>omega))).mono Hbw.out.size))
     have Hz8:=Lib.hid (Hz1.out.below (Below.trans Bel.go (hb8.mono (by simp<;>omega))))
     refine hK.out _ _ ?_ (fun _=>?_)
     ·((try dsimp only);repeat' apply And.intro)<;>(rw [hcx _ (by go_simp)];go_simp)
     clear hHeld hK K hcx hfx;rename_i hHeld
     refine wpAnyH_ready (rs:=[13]) (by kernel_rfl) (by simp) ?_
     refine AllReadyH.cons rfl (fun K hK=>?_) AllReadyH.nil;go_simp
     refine (iadd_any _ _ _ _ _ _ _ _ _ _ _ ?_ ?_ fit1.sm (fitc.sm2 fit2) (fit1.add fitc fit2)).mono ?_
     ·exact Hz8.out.at_.below Bel.go
     ·exact h8.at_.below Bel.go
     rintro e w9 ⟨n9,A9,l9,c9,rfl,h9,hb9⟩
     obtain ⟨hcx,hfx⟩:=bcellS hb9
     have HX9:=Lib.hid (HX8.out.move (Below.trans Bel.go (hb9.mono (by simp<;>omega))))
     have HR9:=Lib.hid (HR8.out.below (Below.trans Bel.go (hb9.mono (by simp<;>omega))))
     have Hb9:=Lib.hid (Hb8.out.trans ((Below.trans Bel.go (hb9.mono (by simp<;>omega))).mono Hb8.out.size))
     have H9:=Lib.hid h9
     refine hK.out _ _ ?_ (fun _=>?_)
     ·((try dsimp only);repeat' apply And.intro)<;>(rw [hcx _ (by go_simp)];go_simp)
     clear hHeld hK K hcx hfx;rename_i hHeld
     (refine tk (i:=14) (v:=?_) rfl rfl (Or.inl ⟨by rfl,?_⟩) ?_;rotate_left;(focus (intro w hSw;(try dsimp only at hSw);go_simp;(try with_reducible rfl)));(simp only [put_lit,List.set]))
     refine wpAnyH_done (by kernel_rfl) (lastQ_list rfl ?_) _
     have p0:=hHeld.1
     have p1:=hHeld.2.1
     have p2:=HR9.out.frozen (i*2)
     have p3:=HR9.out.frozen (i*2+1)
     clear hHeld
     go_wp2
     go_roundw
     case rel =>
      refine ⟨i,by omega,by omega,rfl,?_,HX9.out.row HR9.out (i:=i) (by have:=Hlen.out;omega) (by omega) _ _,(Hb9.out.setCell (p:=⟨g,i*2,none⟩) (by first | (simp;done) | (simp;omega) | omega) _).setCell (p:=⟨g,i*2+1,none⟩) (by first | (simp;done) | (simp;omega) | omega) _⟩
      rw [← hstep.out]
      exact HR9.out.set_ (by have:=Hlen.out;omega) H9.out
     case measure=>simp [intOf]
    ·have hjk:j=k:=by omega
     subst hjk
     have Hrow:=Lib.hid hrow
     have Hbx:=Lib.hid hbx
     have Hbw:=Lib.hid hbw
     clear hrow hbx hbw
     have hge:¬ ((j:Int)≤(j:Int)-1):=by omega
     go_wp2
     go_roundw
     case rel=>exact ⟨j+1,by omega,by omega,by go_num,Hrow.out,Hbx.out,Hbw.out⟩
     case measure=>simp [intOf];omega
  ·have hfin:st c q k=hsh c q:=by
    by_cases hn0:n=0
    ·subst hn0
     have hq:q=[]:=List.eq_nil_of_length_eq_zero hpt.out
     have hk:k=0:=by omega
     subst hq
     subst hk
     rfl
    ·have hk:k=n-1:=by omega
     rw [hk]
     exact st_hsh c q (n-1) (by rw [hpt.out];omega)
   rw [hfin] at Hrow
   clear hfin
   go_wp2
   go_ret
   exact ⟨g,by rw [← Hn.out];rfl,by rw [← Hq.out];exact Hrow.out,by omega,Hbw.out⟩
theorem Fit.smn {a:Nat} (h:Fit (a:Int)):Sm a:=by
 have h1:=h.sm
 unfold SmI at h1
 rw [Int.natAbs_natCast] at h1
 exact h1
end Go.Proofs.Ytjmglmgokfcgoaa
