/- The walks of package natural: product and Mul where one factor has fewer than 48 digits. -/
import Derived.Below
import Derived.Laws.OwnMore
import Derived.Deep.Draws
import Derived.Laws.Rows
import Derived.Test.YtpeiiomjnjemjaaGreatProg
import Derived.WalkKit
import Derived.WalkSpells
import Derived.WalkLawsBesides
import Derived.Laws.CopyOwn
import Derived.Lib.Hide
import Derived.BigQuiet
import Derived.Deep.QuietTactic
import Derived.Deep.DeepMust
import Derived.Deep.DeepFit
import Derived.Deep.CutRange
import Derived.Deep.DeepCutAuto
namespace Go.Proofs.YtpeiiomjnjemjaaGreat
theorem Lh {p:Prop} (h:p):Go.RowKit.Hid p:=Go.Lib.hid h
noncomputable def BB:Nat:=Classical.choose (⟨4294967296,rfl⟩:∃ n:Nat,n=4294967296)
theorem BB_eq:BB=4294967296:=Classical.choose_spec (⟨4294967296,rfl⟩:∃ n:Nat,n=4294967296)
theorem BB_pos:0<BB:=by rw[BB_eq];omega
noncomputable def val:List Nat->Nat
 | []=>0
 | d :: ds=>d+BB*val ds
def Wd (ds:List Nat):Prop:=∀ d∈ds,d<BB
theorem Wd.nil:Wd []:=fun _ h=>by cases h
theorem Wd.cons {d:Nat} {ds:List Nat} (h:d<BB) (hs:Wd ds):Wd (d :: ds):=by
 intro x hx
 cases hx with
 | head=>exact h
 | tail _ hx=>exact hs x hx
theorem Wd.head {d:Nat} {ds:List Nat} (h:Wd (d :: ds)):d<BB:=h d (List.mem_cons_self)
theorem Wd.tail {d:Nat} {ds:List Nat} (h:Wd (d :: ds)):Wd ds:=fun x hx=>h x (List.mem_cons_of_mem _ hx)
theorem Wd.take {ds:List Nat} (h:Wd ds) (k:Nat):Wd (ds.take k):=fun x hx=>h x (List.mem_of_mem_take hx)
theorem Wd.drop {ds:List Nat} (h:Wd ds) (k:Nat):Wd (ds.drop k):=fun x hx=>h x (List.mem_of_mem_drop hx)
theorem Wd.append {a b:List Nat} (ha:Wd a) (hb:Wd b):Wd (a ++ b):=by
 intro x hx
 rcases List.mem_append.1 hx with h | h
 ·exact ha x h
 ·exact hb x h
theorem Wd.getD {ds:List Nat} (h:Wd ds) (k:Nat):ds.getD k 0<BB:=by
 rw[List.getD_eq_getElem?_getD]
 cases e:ds[k]? with
 | none=>exact BB_pos
 | some x=>exact h x (List.mem_of_getElem? e)
theorem Wd.set {ds:List Nat} (h:Wd ds) {k x:Nat} (hx:x<BB):Wd (ds.set k x):=by
 intro y hy
 rcases List.mem_or_eq_of_mem_set hy with h1 | h1
 ·exact h y h1
 ·rw[h1];exact hx
theorem Wd.replicate (n:Nat):Wd (List.replicate n 0):=by
 intro x hx
 rw[(List.mem_replicate.1 hx).2];exact BB_pos
theorem val_append (a b:List Nat):val (a ++ b)=val a+BB^a.length*val b:=by
 induction a with
 | nil=>simp[val]
 | cons d a ih =>
   simp only[List.cons_append,val,ih,List.length_cons,Nat.pow_succ]
   rw[Nat.mul_add,<- Nat.mul_assoc,Nat.mul_comm BB (BB^a.length),Nat.add_assoc]
theorem val_replicate (n:Nat):val (List.replicate n 0)=0:=by
 induction n with
 | zero=>rfl
 | succ n ih=>simp[List.replicate_succ,val,ih]
theorem val_lt {ds:List Nat} (h:Wd ds):val ds<BB^ds.length:=by
 induction ds with
 | nil=>simp[val]
 | cons d ds ih =>
   have h1:=ih h.tail
   have h2:=h.head
   simp only[val,List.length_cons,Nat.pow_succ]
   have:BB*(val ds+1)<=BB*BB^ds.length:=Nat.mul_le_mul_left _ h1
   rw[Nat.mul_add] at this
   rw[Nat.mul_comm (BB^ds.length) BB]
   omega
def tlen:List Nat->Nat
 | []=>0
 | d :: ds=>if tlen ds=0 then (if d=0 then 0 else 1) else tlen ds+1
theorem tlen_cons_zero {d:Nat} {ds:List Nat} (h:tlen ds=0) (h0:d=0):tlen (d :: ds)=0:=by simp[tlen,h,h0]
theorem tlen_cons_one {d:Nat} {ds:List Nat} (h:tlen ds=0) (h0:d≠0):tlen (d :: ds)=1:=by simp[tlen,h,h0]
theorem tlen_cons_succ {d:Nat} {ds:List Nat} (h:tlen ds≠0):tlen (d :: ds)=tlen ds+1:=by simp[tlen,h]
theorem tlen_le (ds:List Nat):tlen ds<=ds.length:=by
 induction ds with
 | nil=>simp[tlen]
 | cons d ds ih =>
   rw[List.length_cons]
   by_cases h:tlen ds=0
   ·by_cases h0:d=0
    ·rw[tlen_cons_zero h h0];omega
    ·rw[tlen_cons_one h h0];omega
   ·rw[tlen_cons_succ h];omega
theorem tlen_pred (ds:List Nat):∀ k,tlen ds<=k+1->ds.getD k 0=0->tlen ds<=k:=by
 induction ds with
 | nil=>intro k _ _;simp[tlen]
 | cons d ds ih =>
   intro k h h0
   cases k with
   | zero =>
     have h0:d=0:=by simpa using h0
     by_cases h1:tlen ds=0
     ·rw[tlen_cons_zero h1 h0];omega
     ·rw[tlen_cons_succ h1] at h;omega
   | succ k =>
     have:=ih k
     rw[List.getD_cons_succ] at h0
     by_cases h1:tlen ds=0
     ·by_cases h2:d=0
      ·rw[tlen_cons_zero h1 h2];omega
      ·rw[tlen_cons_one h1 h2];omega
     ·rw[tlen_cons_succ h1] at h ⊢
      have:=this (by omega) h0
      omega
theorem tlen_eq (ds:List Nat):∀ k,tlen ds<=k+1->ds.getD k 0≠0->tlen ds=k+1:=by
 induction ds with
 | nil=>intro k _ h;simp at h
 | cons d ds ih =>
   intro k h h0
   cases k with
   | zero =>
     have h0:d≠0:=by simpa using h0
     by_cases h1:tlen ds=0
     ·rw[tlen_cons_one h1 h0]
     ·rw[tlen_cons_succ h1] at h;omega
   | succ k =>
     rw[List.getD_cons_succ] at h0
     have h1:tlen ds=k+1:=by
      by_cases h1:tlen ds=0
      ·exact ih k (by omega) h0
      ·rw[tlen_cons_succ h1] at h;exact ih k (by omega) h0
     rw[tlen_cons_succ (by omega),h1]
def ntrim (ds:List Nat):List Nat:=ds.take (tlen ds)
theorem ntrim_length (ds:List Nat):(ntrim ds).length=tlen ds:=by
 have:=tlen_le ds
 simp[ntrim,List.length_take];omega
theorem val_zero_of_tlen {ds:List Nat} (h:tlen ds=0):val ds=0:=by
 induction ds with
 | nil=>rfl
 | cons d ds ih =>
   by_cases h1:tlen ds=0
   ·by_cases h2:d=0
    ·simp[val,h2,ih h1]
    ·rw[tlen_cons_one h1 h2] at h;omega
   ·rw[tlen_cons_succ h1] at h;omega
noncomputable def digs (n:Nat):List Nat:=if _h:n=0 then [] else n % BB :: digs (n / BB)
termination_by n
decreasing_by exact Nat.div_lt_self (Nat.pos_of_ne_zero ‹_›) (by rw[BB_eq];omega)
theorem digs_zero:digs 0=[]:=by rw[digs];simp
theorem digs_pos {n:Nat} (h:n≠0):digs n=n % BB :: digs (n / BB):=by rw[digs];simp[h]
theorem digs_wd (n:Nat):Wd (digs n):=by
 induction n using Nat.strongRecOn with
 | _ n ih =>
   by_cases h:n=0
   ·rw[h,digs_zero];exact Wd.nil
   ·rw[digs_pos h]
    exact Wd.cons (Nat.mod_lt _ BB_pos) (ih _ (Nat.div_lt_self (Nat.pos_of_ne_zero h) (by rw[BB_eq];omega)))
theorem val_digs (n:Nat):val (digs n)=n:=by
 induction n using Nat.strongRecOn with
 | _ n ih =>
   by_cases h:n=0
   ·rw[h,digs_zero];rfl
   ·rw[digs_pos h,val,ih _ (Nat.div_lt_self (Nat.pos_of_ne_zero h) (by rw[BB_eq];omega))]
    exact Nat.mod_add_div n BB
theorem digs_val {ds:List Nat} (h:Wd ds):digs (val ds)=ntrim ds:=by
 induction ds with
 | nil=>simp[val,digs_zero,ntrim]
 | cons d ds ih =>
   have h1:=ih h.tail
   have h2:=h.head
   have hm:(d+BB*val ds) % BB=d:=by rw[Nat.add_mul_mod_self_left];exact Nat.mod_eq_of_lt h2
   have hd:(d+BB*val ds) / BB=val ds:=by
    rw[Nat.add_mul_div_left _ _ BB_pos,Nat.div_eq_of_lt h2,Nat.zero_add]
   by_cases h3:tlen ds=0
   ·have hz:=val_zero_of_tlen h3
    by_cases h4:d=0
    ·rw[show val (d :: ds)=0 by simp[val,hz,h4],digs_zero,ntrim,tlen_cons_zero h3 h4,List.take_zero]
    ·simp only[ntrim,tlen_cons_one h3 h4,List.take_succ_cons,List.take_zero,val,hz,Nat.mul_zero,Nat.add_zero]
     rw[digs_pos h4,Nat.mod_eq_of_lt h2,Nat.div_eq_of_lt h2,digs_zero]
   ·have hv:val (d :: ds)≠0:=by
     intro h0
     have:val ds=0:=by
      simp only[val] at h0
      rcases Nat.eq_zero_of_add_eq_zero h0 with ⟨_,h5⟩
      rcases Nat.mul_eq_zero.1 h5 with h6 | h6
      ·exact absurd h6 (by rw[BB_eq];omega)
      ·exact h6
     rw[this,digs_zero] at h1
     have:=ntrim_length ds
     rw[<- h1] at this
     simp at this;omega
    rw[digs_pos hv]
    simp only[val,hm,hd,h1,ntrim,tlen_cons_succ h3,List.take_succ_cons]
noncomputable def dlen (n:Nat):Nat:=(digs n).length
theorem dlen_val {ds:List Nat} (h:Wd ds):dlen (val ds)=tlen ds:=by rw[dlen,digs_val h,ntrim_length]
theorem dlen_val_le {ds:List Nat} (h:Wd ds):dlen (val ds)<=ds.length:=by rw[dlen_val h];exact tlen_le ds
theorem ntrim_digs (n:Nat):ntrim (digs n)=digs n:=by rw[<- digs_val (digs_wd n),val_digs]
theorem tlen_digs (n:Nat):tlen (digs n)=dlen n:=by rw[<- ntrim_length,ntrim_digs];rfl
theorem lt_pow_dlen (n:Nat):n<BB^dlen n:=by
 have:=val_lt (digs_wd n)
 rwa [val_digs] at this
theorem dlen_zero:dlen 0=0:=by rw[dlen,digs_zero];rfl
theorem dlen_pos {n:Nat} (h:n≠0):dlen n=dlen (n / BB)+1:=by rw[dlen,digs_pos h];rfl
theorem dlen_eq_zero {n:Nat} (h:dlen n=0):n=0:=by
 rcases Nat.decEq n 0 with h1 | h1
 ·rw[dlen_pos h1] at h;omega
 ·exact h1
theorem pow_le_of_dlen {n k:Nat} (h:dlen n=k+1):BB^k<=n:=by
 induction k generalizing n with
 | zero =>
   rcases Nat.eq_zero_or_pos n with h0 | h0
   ·rw[h0,dlen_zero] at h;omega
   ·rw[Nat.pow_zero];exact h0
 | succ k ih =>
   have hn:n≠0:=by intro h0;rw[h0,dlen_zero] at h;omega
   rw[dlen_pos hn] at h
   have:=ih (n:=n / BB) (by omega)
   rw[Nat.pow_succ]
   calc BB^k*BB<=n / BB*BB:=Nat.mul_le_mul_right _ this
    _<=n:=Nat.div_mul_le_self n BB
theorem dlen_le_of_lt {n k:Nat} (h:n<BB^k):dlen n<=k:=by
 rcases Nat.lt_or_ge k (dlen n) with h1 | h1
 ·obtain ⟨j,hj⟩:∃ j,dlen n=j+1:=⟨dlen n-1,by omega⟩
  have h2:=pow_le_of_dlen hj
  have h3:BB^k<=BB^j:=Nat.pow_le_pow_right BB_pos (by omega)
  omega
 ·exact h1
theorem dlen_mono {a b:Nat} (h:a<=b):dlen a<=dlen b:=dlen_le_of_lt (Nat.lt_of_le_of_lt h (lt_pow_dlen b))
theorem dlen_mul_le (a b:Nat):dlen (a*b)<=dlen a+dlen b:=by
 refine dlen_le_of_lt ?_
 rw[Nat.pow_add]
 exact Nat.mul_lt_mul'' (lt_pow_dlen a) (lt_pow_dlen b)
theorem dlen_add_le (a b:Nat):dlen (a+b)<=max (dlen a) (dlen b)+1:=by
 refine dlen_le_of_lt ?_
 have h1:a<BB^max (dlen a) (dlen b):=Nat.lt_of_lt_of_le (lt_pow_dlen a) (Nat.pow_le_pow_right BB_pos (Nat.le_max_left _ _))
 have h2:b<BB^max (dlen a) (dlen b):=Nat.lt_of_lt_of_le (lt_pow_dlen b) (Nat.pow_le_pow_right BB_pos (Nat.le_max_right _ _))
 rw[Nat.pow_succ]
 have:BB^max (dlen a) (dlen b)*2<=BB^max (dlen a) (dlen b)*BB:=Nat.mul_le_mul_left _ (by rw[BB_eq];omega)
 omega
theorem take_succ_getD (ds:List Nat) {k:Nat} (h:k<ds.length):ds.take (k+1)=ds.take k ++ [ds.getD k 0]:=by
 rw[List.take_succ_eq_append_getElem h,List.getD_eq_getElem?_getD,List.getElem?_eq_getElem h];rfl
theorem val_take_succ (ds:List Nat) {k:Nat} (h:k<ds.length):val (ds.take (k+1))=val (ds.take k)+BB^k*ds.getD k 0:=by
 rw[take_succ_getD ds h,val_append]
 simp[val,List.length_take,Nat.min_eq_left (Nat.le_of_lt h)]
theorem val_split (ds:List Nat) {k:Nat} (h:k<=ds.length):val ds=val (ds.take k)+BB^k*val (ds.drop k):=by
 have:=val_append (ds.take k) (ds.drop k)
 rw[List.take_append_drop] at this
 rw[this,List.length_take,Nat.min_eq_left h]
theorem val_set (ds:List Nat) {k:Nat} (h:k<ds.length) (x:Nat):val (ds.set k x)+BB^k*ds.getD k 0=val ds+BB^k*x:=by
 induction ds generalizing k with
 | nil=>simp at h
 | cons d ds ih =>
   cases k with
   | zero=>simp[val];omega
   | succ k =>
     have:=ih (k:=k) (by simpa using h)
     simp only[List.set_cons_succ,val,List.getD_cons_succ,Nat.pow_succ]
     rw[Nat.mul_comm (BB^k) BB,Nat.mul_assoc,Nat.mul_assoc,Nat.add_assoc,Nat.add_assoc,<- Nat.mul_add,<- Nat.mul_add,this]
theorem take_set_ge (ds:List Nat) (k x:Nat):(ds.set k x).take k=ds.take k:=by
 rw[List.take_set,List.set_eq_of_length_le (by simp;omega)]
theorem take_set_succ (ds:List Nat) {k:Nat} (h:k<ds.length) (x:Nat):(ds.set k x).take (k+1)=ds.take k ++ [x]:=by
 rw[take_succ_getD _ (by simpa using h),take_set_ge]
 simp[List.getD_eq_getElem?_getD,h]
theorem drop_set_lt (ds:List Nat) {k j:Nat} (h:k<j) (x:Nat):(ds.set k x).drop j=ds.drop j:=by
 rw[List.drop_set];simp[h]
theorem val_take_succ' (ds:List Nat) (k:Nat):val (ds.take (k+1))=val (ds.take k)+BB^k*ds.getD k 0:=by
 rcases Nat.lt_or_ge k ds.length with h | h
 ·exact val_take_succ ds h
 ·rw[List.take_of_length_le (by omega),List.take_of_length_le h,List.getD_eq_getElem?_getD,List.getElem?_eq_none h];simp
def dsplice (zs:List Nat) (off:Nat) (ds:List Nat):List Nat:=zs.take off ++ (ds ++ zs.drop (off+ds.length))
theorem dsplice_length (zs:List Nat) (off:Nat) (ds:List Nat) (h:off+ds.length<=zs.length):(dsplice zs off ds).length=zs.length:=by simp[dsplice];omega
theorem dsplice_wd {zs ds:List Nat} (off:Nat) (hz:Wd zs) (hd:Wd ds):Wd (dsplice zs off ds):=(hz.take _).append (hd.append (hz.drop _))
theorem dsplice_val (zs:List Nat) (off:Nat) (ds:List Nat) (h:off<=zs.length):val (dsplice zs off ds)=val (zs.take off)+BB^off*(val ds+BB^ds.length*val (zs.drop (off+ds.length))):=by
 rw[dsplice,val_append,val_append,List.length_take,Nat.min_eq_left h]
theorem dsplice_whole (n:Nat) (ds:List Nat) (h:ds.length=n):dsplice (List.replicate n 0) 0 ds=ds:=by
 simp[dsplice,h]
theorem dsplice_val_zero (n:Nat) (ds:List Nat):val (dsplice (List.replicate n 0) 0 ds)=val ds:=by
 rw[dsplice_val _ _ _ (Nat.zero_le _),List.take_zero,List.drop_replicate,val_replicate];simp[val]
theorem val_drop_zero {z:List Nat} (h:val z=0) (k:Nat):val (z.drop k)=0:=by
 rcases Nat.lt_or_ge z.length k with h1 | h1
 ·rw[List.drop_eq_nil_of_le (by omega)];rfl
 ·have h2:=val_split z h1
  have h3:0<BB^k:=Nat.pow_pos BB_pos
  have h4:BB^k*val (z.drop k)=0:=by omega
  rcases Nat.mul_eq_zero.1 h4 with h5 | h5
  ·omega
  ·exact h5
theorem dsplice_val_zz {z x y:List Nat} {k:Nat} (h:val z=0) (hx:x.length=k):val (dsplice (dsplice z 0 x) k y)=val x+BB^k*val y:=by
 subst hx
 have e:dsplice z 0 x=x ++ z.drop x.length:=by simp[dsplice]
 rw[e,dsplice_val _ _ _ (by simp)]
 have e1:(x ++ z.drop x.length).take x.length=x:=by simp
 have e2:(x ++ z.drop x.length).drop (x.length+y.length)=z.drop (x.length+y.length):=by
  rw[List.drop_append];simp
 rw[e1,e2,val_drop_zero h];simp
def cmpn (a b:Nat):Int:=if a<b then -1 else if a=b then 0 else 1
theorem cmpn_lt {a b:Nat} (h:a<b):cmpn a b=-1:=if_pos h
theorem cmpn_gt {a b:Nat} (h:b<a):cmpn a b=1:=by unfold cmpn;rw[if_neg (by omega),if_neg (by omega)]
theorem cmpn_eq {a b:Nat} (h:a=b):cmpn a b=0:=by unfold cmpn;rw[if_neg (by omega),if_pos h]
theorem lt_of_dlen {a b:Nat} (h:dlen a<dlen b):a<b:=by
 rcases Nat.lt_or_ge a b with h1 | h1
 ·exact h1
 ·have:=dlen_mono h1;omega
theorem val_lt_of_digit {x y:List Nat} (hx:Wd x) (hl:x.length=y.length) {k:Nat} (hk:k<x.length) (hd:x.drop (k+1)=y.drop (k+1)) (hlt:x.getD k 0<y.getD k 0):val x<val y:=by
 have h1:=val_split x (k:=k+1) (by omega)
 have h2:=val_split y (k:=k+1) (by omega)
 rw[h1,h2,hd,val_take_succ x hk,val_take_succ y (by omega)]
 have h3:val (x.take k)<BB^k:=by
  have:=val_lt (hx.take k)
  rwa [List.length_take,Nat.min_eq_left (by omega)] at this
 have h4:BB^k*(x.getD k 0+1)<=BB^k*y.getD k 0:=Nat.mul_le_mul_left _ hlt
 rw[Nat.mul_add] at h4
 omega
theorem drop_getD_cons (x:List Nat) {k:Nat} (hk:k<x.length):x.drop k=x.getD k 0 :: x.drop (k+1):=by
 rw[List.drop_eq_getElem_cons hk,List.getD_eq_getElem?_getD,List.getElem?_eq_getElem hk];rfl
theorem digs_two {n:Nat} (h:n<BB*BB):val [n % BB,n / BB % BB]=n:=by
 have h1:n / BB<BB:=Nat.div_lt_of_lt_mul h
 simp only[val,Nat.mul_zero,Nat.add_zero]
 rw[Nat.mod_eq_of_lt h1]
 exact Nat.mod_add_div n BB
end Go.Proofs.YtpeiiomjnjemjaaGreat
namespace Go.Proofs.YtpeiiomjnjemjaaGreat
open Go.RowKit
theorem Bel.r (B:Nat) (w:World):Below B w w:=Below.refl B w
theorem Bel.d {B:Nat} {a w:World} (h:Below B a w):Below B a w.drew:=h.drew
theorem Bel.a {B:Nat} {a w:World} (h:Below B a w) (o:Obj) (hB:B<=w.heap.size:=by first | (simp;done) | (simp;omega) | omega):Below B a (w.alloc o):=h.alloc hB o
theorem Bel.s {B:Nat} {a w:World} (h:Below B a w) {p:Addr} (u:Value) (hp:B<=p.block:=by first | (simp;done) | (simp;omega) | omega):Below B a (w.setCell p u):=h.setCell hp u
theorem Bel.go {B:Nat} {a w:World} (h:Below B a w:=by repeat (first | exact Bel.r _ _ | refine Bel.d ?_ | refine Bel.a ?_ _ | refine Bel.s ?_ _)):Below B a w:=h
structure DigAt (w:World) (A:Option Addr) (len cap:Nat) (ds:List Nat):Prop where
 length:ds.length=len
 cap:len<=cap
 wd:Wd ds
 cells:len=0∨∃ b off,A=some ⟨b,off,none⟩/\b<w.heap.size/\∀ j,j<len->w.cell? ⟨b,off+j,none⟩=some (.int .u32 ((ds.getD j 0:Nat):Int))
theorem DigAt.below {w w':World} {A:Option Addr} {len cap:Nat} {ds:List Nat} (h:DigAt w A len cap ds) (hb:Below w.heap.size w w'):DigAt w' A len cap ds:=by
 refine ⟨h.length,h.cap,h.wd,?_⟩
 rcases h.cells with h0 | ⟨b,off,hA,hlt,hc⟩
 ·exact .inl h0
 ·exact .inr ⟨b,off,hA,Nat.lt_of_lt_of_le hlt hb.size,fun j hj=>(hb.cell (p:=⟨b,off+j,none⟩) hlt).trans (hc j hj)⟩
theorem DigAt.nil (w:World) (A:Option Addr) (cap:Nat):DigAt w A 0 cap []:=⟨rfl,Nat.zero_le _,Wd.nil,.inl rfl⟩
theorem DigAt.at_ {w:World} {A:Option Addr} {len cap:Nat} {ds:List Nat} (h:DigAt w A len cap ds) (hl:0<len) :
  ∃ b off,A=some ⟨b,off,none⟩/\b<w.heap.size/\∀ j,j<len->w.cell? ⟨b,off+j,none⟩=some (.int .u32 ((ds.getD j 0:Nat):Int)):=by
 rcases h.cells with h0 | h1
 ·omega
 ·exact h1
theorem DigAt.take {w:World} {A:Option Addr} {len cap:Nat} {ds:List Nat} (h:DigAt w A len cap ds) {k:Nat} (hk:k<=len):DigAt w A k cap (ds.take k):=by
 refine ⟨by rw[List.length_take,h.length];omega,by have:=h.cap;omega,h.wd.take k,?_⟩
 rcases Nat.eq_zero_or_pos k with h0 | h0
 ·exact .inl h0
 ·obtain ⟨b,off,hA,hlt,hc⟩:=h.at_ (by omega)
  refine .inr ⟨b,off,hA,hlt,fun j hj=>?_⟩
  rw[hc j (by omega)]
  simp[List.getD_eq_getElem?_getD,hj]
def Sm (n:Nat):Prop:=dlen n<=1099511627776
theorem Sm.mono {a b:Nat} (h:Sm b) (hab:a<=b):Sm a:=Nat.le_trans (dlen_mono hab) h
structure NatAt (w:World) (A:Option Addr) (len cap:Nat) (n:Nat):Prop where
 short:len<=dlen n+8
 digits:∃ ds,DigAt w A len cap ds/\val ds=n
structure NatN (w:World) (A:Option Addr) (len cap:Nat) (n:Nat):Prop where
 digits:DigAt w A len cap (digs n)
theorem NatAt.below {w w':World} {A:Option Addr} {len cap:Nat} {n:Nat} (h:NatAt w A len cap n) (hb:Below w.heap.size w w'):NatAt w' A len cap n:=by
 obtain ⟨hs,ds,hd,hv⟩:=h
 exact ⟨hs,ds,hd.below hb,hv⟩
theorem NatN.below {w w':World} {A:Option Addr} {len cap:Nat} {n:Nat} (h:NatN w A len cap n) (hb:Below w.heap.size w w'):NatN w' A len cap n:=⟨h.digits.below hb⟩
theorem NatN.at_ {w:World} {A:Option Addr} {len cap:Nat} {n:Nat} (h:NatN w A len cap n):NatAt w A len cap n :=
 ⟨by have:=h.digits.length;unfold dlen;omega,digs n,h.digits,val_digs n⟩
theorem NatN.len {w:World} {A:Option Addr} {len cap:Nat} {n:Nat} (h:NatN w A len cap n):len=dlen n:=h.digits.length.symm
theorem NatN.zero (w:World) (A:Option Addr) (cap:Nat):NatN w A 0 cap 0:=⟨by rw[digs_zero];exact DigAt.nil w A cap⟩
def sgn (neg:Bool) (n:Nat):Int:=if neg then -(n:Int) else n
theorem sgn_true (n:Nat):sgn true n=-(n:Int):=rfl
theorem sgn_false (n:Nat):sgn false n=(n:Int):=rfl
theorem sgn_natAbs (neg:Bool) (n:Nat):(sgn neg n).natAbs=n:=by cases neg<;>simp[sgn]
structure IntAt (w:World) (neg:Bool) (A:Option Addr) (len cap:Nat) (z:Int):Prop where
 nat:NatAt w A len cap z.natAbs
 sign:z=sgn neg z.natAbs
structure IntN (w:World) (neg:Bool) (A:Option Addr) (len cap:Nat) (z:Int):Prop where
 nat:NatN w A len cap z.natAbs
 sign:neg=decide (z<0)
theorem IntAt.below {w w':World} {neg:Bool} {A:Option Addr} {len cap:Nat} {z:Int} (h:IntAt w neg A len cap z) (hb:Below w.heap.size w w'):IntAt w' neg A len cap z:=⟨h.nat.below hb,h.sign⟩
theorem IntN.below {w w':World} {neg:Bool} {A:Option Addr} {len cap:Nat} {z:Int} (h:IntN w neg A len cap z) (hb:Below w.heap.size w w'):IntN w' neg A len cap z:=⟨h.nat.below hb,h.sign⟩
theorem IntN.at_ {w:World} {neg:Bool} {A:Option Addr} {len cap:Nat} {z:Int} (h:IntN w neg A len cap z):IntAt w neg A len cap z:=by
 refine ⟨h.nat.at_,?_⟩
 rw[h.sign]
 by_cases hz:z<0
 ·simp only[hz,decide_true,sgn_true];omega
 ·simp only[hz,decide_false,sgn_false];omega
def SmI (z:Int):Prop:=Sm z.natAbs
def Blk (w:World) (g:Nat) (t:TypeId) (cs:Array Value):Prop:=w.heap[g]?=some (.cells cs t (0,0))
section
variable {w w':World} {g:Nat} {t:TypeId} {cs:Array Value}
theorem Blk.lt (h:Blk w g t cs):g<w.heap.size:=by
 rcases Nat.lt_or_ge g w.heap.size with hlt | hge
 ·exact hlt
 ·unfold Blk at h;rw[Array.getElem?_eq_none hge] at h;cases h
theorem Blk.cell (h:Blk w g t cs) (i:Nat):w.cell? ⟨g,i,none⟩=cs[i]?:=cell_of_row w g i cs t (0,0) h
theorem Blk.frozen (h:Blk w g t cs) (i:Nat):w.frozen? ⟨g,i,none⟩=false:=by
 unfold Blk at h
 simp[World.frozen?,h]
theorem Blk.new (w:World) (t:TypeId) (cs:Array Value):Blk (w.alloc (.cells cs t)) w.heap.size t cs:=heap_alloc_new w _
theorem Blk.drewN (h:Blk w g t cs) (n:Nat):Blk (w.drewN n) g t cs:=h
theorem Blk.alloc (h:Blk w g t cs) (o:Obj):Blk (w.alloc o) g t cs:=(Below.heap_alloc w o g h.lt).trans h
theorem Blk.set_ (h:Blk w g t cs) (i:Nat) (u:Value):Blk (w.setCell ⟨g,i,none⟩ u) g t (cs.setIfInBounds i u):=by
 unfold Blk at h ⊢
 simp[World.setCell,Array.getElem?_modify,h]
theorem Blk.far (h:Blk w g t cs) {p:Addr} (hp:g≠p.block) (u:Value):Blk (w.setCell p u) g t cs:=(Below.heap_setCell w p u g hp).trans h
theorem Blk.below {B:Nat} (h:Blk w g t cs) (hb:Below B w w') (hg:g<B):Blk w' g t cs:=(hb.block g hg).trans h
end
def dcells (zs:List Nat):Array Value:=(zs.map fun d:Nat=>Value.int .u32 (d:Int)).toArray
theorem dcells_get (zs:List Nat) {i:Nat} (h:i<zs.length):(dcells zs)[i]?=some (.int .u32 ((zs.getD i 0:Nat):Int)):=by
 simp[dcells,List.getD_eq_getElem?_getD,h]
theorem dcells_set (zs:List Nat) (i x:Nat):(dcells zs).setIfInBounds i (.int .u32 (x:Int))=dcells (zs.set i x):=by
 simp[dcells,List.map_set]
def DRow (w:World) (g:Nat) (zs:List Nat):Prop:=Blk w g 93 (dcells zs)
section
variable {w w':World} {g:Nat} {zs:List Nat}
theorem DRow.lt (h:DRow w g zs):g<w.heap.size:=Blk.lt h
theorem DRow.cell (h:DRow w g zs) {i:Nat} (hi:i<zs.length):w.cell? ⟨g,i,none⟩=some (.int .u32 ((zs.getD i 0:Nat):Int)):=(Blk.cell h i).trans (dcells_get zs hi)
theorem DRow.frozen (h:DRow w g zs) (i:Nat):w.frozen? ⟨g,i,none⟩=false:=Blk.frozen h i
theorem DRow.set_ (h:DRow w g zs) (i x:Nat):DRow (w.setCell ⟨g,i,none⟩ (.int .u32 (x:Int))) g (zs.set i x):=by
 unfold DRow
 rw[<- dcells_set]
 exact Blk.set_ h i _
theorem DRow.below {B:Nat} (h:DRow w g zs) (hb:Below B w w') (hg:g<B):DRow w' g zs:=Blk.below h hb hg
theorem DRow.far (h:DRow w g zs) {p:Addr} (hp:g≠p.block) (u:Value):DRow (w.setCell p u) g zs:=Blk.far h hp u
theorem DRow.alloc (h:DRow w g zs) (o:Obj):DRow (w.alloc o) g zs:=Blk.alloc h o
theorem DRow.dig (h:DRow w g zs) (hw:Wd zs) {cap:Nat} (hc:zs.length<=cap):DigAt w (some ⟨g,0,none⟩) zs.length cap zs :=
 ⟨rfl,hc,hw,.inr ⟨g,0,rfl,h.lt,fun j hj=>by rw[Nat.zero_add];exact h.cell hj⟩⟩
end
theorem bcell {W w1:World} (hb:Below W.heap.size W w1):(∀ b o,b<W.heap.size->w1.cell? ⟨b,o,none⟩=W.cell? ⟨b,o,none⟩)/\(∀ b o,b<W.heap.size->w1.frozen? ⟨b,o,none⟩=W.frozen? ⟨b,o,none⟩) :=
 ⟨fun b o h=>hb.cell (p:=⟨b,o,none⟩) h,fun b o h=>hb.frozen (p:=⟨b,o,none⟩) h⟩
end Go.Proofs.YtpeiiomjnjemjaaGreat
namespace Go.Proofs.YtpeiiomjnjemjaaGreat
open Go.RowKit
theorem info_u32:(Tryz.prog.info? 93).map (fun i=>(i.zero,i.size,i.bytes))=some (some (.int .u32 0),1,4):=by kernel_rfl
theorem size_u32:(Tryz.prog.info? 93).map (·.size)=some 1:=by kernel_rfl
theorem madeCells_one (v:Value) (n:Nat):madeCells #[v] n=(List.replicate n v).toArray:=by
 apply Array.ext'
 simp[madeCells,List.map_const',Nat.mod_one]
theorem dcells_replicate (n:Nat):dcells (List.replicate n 0)=(List.replicate n (.int .u32 0)).toArray:=by
 simp[dcells]
theorem wpList_make_dig (w:World) {ops:Array Oper} {rest:List Oper} {o:Oper} {a:Act} {Q:Exit->Act->World->Prop}
  (hg:o.guard=none) (l c:Operand) (hop:o.op=Op.makeSlice 36 l c) (n:Nat) (hl:a.eval l=.int .i64 (n:Int)) (hc:a.eval c=.int .i64 (n:Int)) (hn:n<=17592186044416)
  (hK:∀ w',DRow w' w.heap.size (List.replicate n 0)->Below w.heap.size w w'->w'.heap.size=w.heap.size+1->wpList Tryz.prog ops Q rest (a.put o.dst (.slice (some ⟨w.heap.size,0,none⟩) n n)) w') :
  wpList Tryz.prog ops Q (o :: rest) a w:=by
 obtain ⟨i,hi,hz,hs,hb⟩:=info_parts info_u32
 refine wpList_plain hg fun K hK'=>?_
 have hrun:=run_make (P:=Tryz.prog) w 36 93 i (.int .u32 0) Tryz.underlying36 hi hz .i64 .i64 (n:Int) (n:Int) (by omega) (by omega) (by rw[hb];omega) (by omega)
 unfold Oper.wp
 simp[execOp,hop,hl,hc,hrun,Result.andThen]
 refine hK' _ _ (hK _ ?_ ((Below.refl _ _).alloc (Nat.le_refl _) _) (by simp))
 unfold DRow
 rw[dcells_replicate,<- madeCells_one,hs,Nat.mul_one]
 exact Blk.new w _ _
theorem wpList_copy_dig {w:World} {ops:Array Oper} {rest:List Oper} {o:Oper} {a:Act} {Q:Exit->Act->World->Prop} (hgd:o.guard=none) (d s:Operand)
  (ho:o.op=.call { callee:=.builtin .copy,args:=#[d,s],argTypes:=#[36,36] })
  (g off:Nat) (zs:List Nat) (dp sp:Option Addr) (dLen dCap sLen sCap:Nat) (ds:List Nat) (hd:a.eval d=.slice dp dLen dCap) (hs:a.eval s=.slice sp sLen sCap)
  (hz:DRow w g zs) (hx:DigAt w sp sLen sCap ds) (hdp:0<sLen->dp=some ⟨g,off,none⟩) (hfit:off+sLen<=zs.length) (hsd:sLen<=dLen)
  (h:∀ w',DRow w' g (dsplice zs off ds)->Below g w w'->w'.heap.size=w.heap.size->(∀ k,k≠g->w'.heap[k]?=w.heap[k]?)->wpList Tryz.prog ops Q rest (a.put o.dst (goInt sLen)) w') :
  wpList Tryz.prog ops Q (o :: rest) a w:=by
 have hlen:=hx.length
 by_cases h0:sLen=0
 ·subst h0
  have hds:ds=[]:=List.eq_nil_of_length_eq_zero hlen
  subst hds
  refine wpList_copy_nothing hgd d s _ _ ho 93 Tryz.underlying36 size_u32 dp sp dLen dCap 0 sCap hd hs (by simp) ?_
  exact h w (by simpa [dsplice] using hz) (Below.refl _ _) rfl (fun _ _=>rfl)
 ·obtain ⟨b,o2,rfl,hb,hc⟩:=hx.at_ (by omega)
  have:=hdp (by omega)
  subst this
  refine wpList_copy_own hgd d s _ _ ho 93 Tryz.underlying36 size_u32 g off dLen dCap ⟨b,o2,none⟩ sLen sCap hd hs (dcells zs) 93 hz (ds.map fun d:Nat=>Value.int .u32 (d:Int)) (by rw[List.length_map,hlen];exact (Nat.min_eq_left hsd).symm) ?_ (by simp[dcells,hlen];omega) (by intro v hv;obtain ⟨_,_,rfl⟩:=List.mem_map.1 hv;rfl) ?_
  ·intro j v hv
   have hj:j<sLen:=by have:=(List.getElem?_eq_some_iff.1 hv).1;simpa [hlen] using this
   rw[Addr.add_lit,hc j hj]
   rw[<- hv]
   simp[List.getD_eq_getElem?_getD,hlen,hj]
  ·have e1:(ds.map fun d:Nat=>Value.int .u32 (d:Int)).length=sLen:=by simp[hlen]
   rw[e1]
   refine h _ ?_ ((below_setRow (Below.refl _ _) (Nat.le_refl _) _)) (by simp[World.setRow]) (fun k hk=>setRow_other w g k _ hk)
   have:=setRow_heap w g _ ((dcells zs).toList.take off ++ ((ds.map fun d:Nat=>Value.int .u32 (d:Int)) ++ (dcells zs).toList.drop (off+sLen))).toArray 93 _ hz
   unfold DRow Blk
   rw[this]
   simp[dcells,dsplice,hlen]
end Go.Proofs.YtpeiiomjnjemjaaGreat
namespace Go.Proofs.YtpeiiomjnjemjaaGreat
open Go.RowKit
set_option maxHeartbeats 400000 in
theorem trim_dig (A:Option Addr) (len cap n:Nat) (ds:List Nat) (w:World) (hd:DigAt w A len cap ds) (hv:val ds=n) (hm:len<=8796093022208) :
  Calls Tryz.prog 60 #[.slice A len cap] w fun e w'=>∃ len',e=.returned (.slice A len' cap)/\NatN w A len' cap n/\w=w':=by
 have hfin:NatN w A (tlen ds) cap n:=by
  refine ⟨?_⟩
  rw[<- hv,digs_val hd.wd]
  exact hd.take (by have:=tlen_le ds;have:=hd.length;omega)
 have htl:tlen ds<=len:=by have:=tlen_le ds;have:=hd.length;omega
 have hcap:=hd.cap
 have Hv:=Lh hv
 clear hv
 go_enter Tryz.func60,Tryz.ntmps60
 go_wp2
 go_loop [3] (fun n=>∃ k:Nat,k<=len/\tlen ds<=k/\n=.int .i64 k) (fun n=>(intOf n).toNat)
 case atStart=>exact ⟨len,by omega,by omega,rfl⟩
 case round =>
  obtain ⟨k,hk,ht,rfl⟩:=hrel
  cases k with
  | zero =>
    have h0:tlen ds=0:=by omega
    rw[h0] at hfin
    clear h0 ht htl
    go_wp2
    go_ret
    exact ⟨0,rfl,hfin,rfl⟩
  | succ k =>
    obtain ⟨b,off,rfl,hb,hc⟩:=hd.at_ (by omega)
    have hcell:=hc k (by omega)
    have hpr:=Lh (tlen_pred ds k ht)
    have heq:=Lh (tlen_eq ds k ht)
    clear hc hd
    go_wp2
    ·have h0:(((ds[k]?.getD 0:Nat):Int) == 0)=true:=by assumption
     go_round
     case rel =>
      refine ⟨k,by omega,hpr.out ?_,by go_num⟩
      rw[List.getD_eq_getElem?_getD]
      have:=beq_iff_eq.1 h0
      omega
     case measure=>simp[intOf]
    ·have h0:(((ds[k]?.getD 0:Nat):Int) == 0)=false:=by assumption
     have h1:tlen ds=k+1:=by
      refine heq.out ?_
      rw[List.getD_eq_getElem?_getD]
      have:=beq_eq_false_iff_ne.1 h0
      omega
     go_ret
     rw[h1] at hfin
     exact ⟨k+1,rfl,hfin,rfl⟩
theorem trim_any (A:Option Addr) (len cap n:Nat) (w:World) (h:NatAt w A len cap n) (hs:Sm n) :
  Calls Tryz.prog 60 #[.slice A len cap] w fun e w'=>∃ len',e=.returned (.slice A len' cap)/\NatN w A len' cap n/\w=w':=by
 obtain ⟨hsh,ds,hd,hv⟩:=h
 exact trim_dig A len cap n ds w hd hv (by unfold Sm at hs;omega)
set_option maxHeartbeats 400000 in
theorem isZero_dig (A:Option Addr) (len cap n:Nat) (ds:List Nat) (w:World) (h:DigAt w A len cap ds) (hv:val ds=n) (hm:len<=2199023255552) :
  Calls Tryz.prog 59 #[.slice A len cap] w fun e w'=>e=.returned (.bool (decide (n=0)))/\w=w':=by
 go_enter Tryz.func59,Tryz.ntmps59
 go_wp2_with fail
 refine (trim_dig _ _ _ _ _ _ h hv (by omega)).mono ?_
 clear hv
 rintro e w1 ⟨l1,rfl,h1,rfl⟩
 go_wp2
 go_ret
 refine ⟨?_,rfl⟩
 have hl:=h1.len
 congr 2
 rcases Nat.eq_zero_or_pos n with h0 | h0
 ·subst h0;rw[dlen_zero] at hl;subst hl;simp
 ·have:dlen n≠0:=fun h'=>by have:=dlen_eq_zero h';omega
  have h2:¬ n=0:=by omega
  simp[h2];omega
theorem isZero_any (A:Option Addr) (len cap n:Nat) (w:World) (h:NatAt w A len cap n) (hs:Sm n) :
  Calls Tryz.prog 59 #[.slice A len cap] w fun e w'=>e=.returned (.bool (decide (n=0)))/\w=w':=by
 obtain ⟨hsh,ds,hd,hv⟩:=h
 exact isZero_dig A len cap n ds w hd hv (by unfold Sm at hs;omega)
set_option maxHeartbeats 400000 in
theorem normal_dig (A:Option Addr) (len cap n:Nat) (ds:List Nat) (w:World) (h:DigAt w A len cap ds) (hv:val ds=n) (hmm:len<=2199023255552) :
  Calls Tryz.prog 58 #[.slice A len cap] w fun e w'=>∃ A' len' cap',e=.returned (.slice A' len' cap')/\NatN w' A' len' cap' n/\Below w.heap.size w w':=by
 go_enter Tryz.func58,Tryz.ntmps58
 go_wp2_with fail
 refine (trim_dig _ _ _ _ _ _ h hv (by omega)).mono ?_
 rintro e w1 ⟨l1,rfl,h1,rfl⟩
 have hl:=Lh h1.len
 have hm:l1<=2199023255552:=by have h1:=hl.out;have h2:=dlen_val_le h.wd;have h3:=h.length;rw[hv] at h2;omega
 clear h hv
 go_wp2_with (at_make;refine wpList_make_dig _ rfl (.tmp 7) (.tmp 7) rfl l1 rfl rfl (by omega) ?_)
 intro w1 hz hb hsz
 have hx:=h1.digits.below hb
 have Hsz:=Lh hsz
 clear hsz h1
 go_wp2_with ((with_reducible show wpList _ _ _ (⟨some 11,_,_,_,_,_⟩ :: _) _ _);refine wpList_copy_dig rfl (.tmp 9) (.tmp 10) rfl w.heap.size 0 (List.replicate l1 0) _ _ _ _ _ _ _ rfl rfl hz hx (fun _=>rfl) (by simp) (Nat.le_refl _) ?_)
 intro w2 hz2 hb2 hs2 _
 have Hs2:=Lh hs2
 clear hs2 hz
 go_wp2
 go_ret
 refine ⟨_,_,_,rfl,⟨?_⟩,hb.trans (hb2.mono (Nat.le_refl _))⟩
 have hd:=hx.length
 rw[dsplice_whole _ _ hd] at hz2
 have:=hz2.dig (digs_wd n) (cap:=l1) (by omega)
 rw[hd] at this
 exact this
theorem normal_any (A:Option Addr) (len cap n:Nat) (w:World) (h:NatAt w A len cap n) (hs:Sm n) :
  Calls Tryz.prog 58 #[.slice A len cap] w fun e w'=>∃ A' len' cap',e=.returned (.slice A' len' cap')/\NatN w' A' len' cap' n/\Below w.heap.size w w':=by
 obtain ⟨hsh,ds,hd,hv⟩:=h
 exact normal_dig A len cap n ds w hd hv (by unfold Sm at hs;omega)
def U64 (n:Nat):Prop:=n<BB*BB
set_option maxHeartbeats 400000 in
theorem of_any (n:Nat) (w:World) (h:U64 n) :
  Calls Tryz.prog 30 #[.int .u64 (n:Int)] w fun e w'=>∃ A' len' cap',e=.returned (.slice A' len' cap')/\NatN w' A' len' cap' n/\Below w.heap.size w w':=by
 go_enter Tryz.func30,Tryz.ntmps30
 go_wp2_with fail
 have hv:=digs_two h
 have hrow:DRow (w.alloc (Obj.cells #[Value.int IntKind.u32 ((n:Int) % 4294967296),Value.int IntKind.u32 ((n:Int) / 4294967296 % 4294967296)] 93)) w.heap.size [n % BB,n / BB % BB]:=by
  have:=Blk.new w 93 #[Value.int IntKind.u32 ((n:Int) % 4294967296),Value.int IntKind.u32 ((n:Int) / 4294967296 % 4294967296)]
  simpa [DRow,dcells,BB_eq] using this
 have hd:Wd [n % BB,n / BB % BB]:=Wd.cons (Nat.mod_lt _ BB_pos) (Wd.cons (Nat.mod_lt _ BB_pos) Wd.nil)
 have hsm:Sm n:=by
  have:=dlen_val_le hd
  rw[hv] at this
  simp at this
  unfold Sm;omega
 have hat:NatAt (w.alloc (Obj.cells #[Value.int IntKind.u32 ((n:Int) % 4294967296),Value.int IntKind.u32 ((n:Int) / 4294967296 % 4294967296)] 93)) (some ⟨w.heap.size,0,none⟩) 2 2 n :=
  ⟨by omega,_,hrow.dig hd (by simp),hv⟩
 clear hv hrow hd h
 refine (normal_any _ _ _ _ _ hat hsm).mono ?_
 rintro e w1 ⟨A1,l1,c1,rfl,h1,hb⟩
 clear hat hsm
 go_wp2
 go_ret
 exact ⟨_,_,_,rfl,h1,((Below.refl _ _).alloc (Nat.le_refl _) _).trans (hb.mono (by simp))⟩
set_option maxHeartbeats 400000 in
theorem cmp_dig (A B:Option Addr) (la ca lb cb a b:Nat) (da db:List Nat) (w:World) (ha:DigAt w A la ca da) (hb:DigAt w B lb cb db) (hva:val da=a) (hvb:val db=b) (hsa:la<=2199023255552) (hsb:lb<=2199023255552) :
  Calls Tryz.prog 34 #[.slice A la ca,.slice B lb cb] w fun e w'=>e=.returned (.int .i64 (cmpn a b))/\∃ n,w'=w.drewN n:=by
 go_enter Tryz.func34,Tryz.ntmps34
 go_wp2_with fail
 refine (trim_dig _ _ _ _ _ _ ha hva (by omega)).mono ?_
 rintro e w1 ⟨la',rfl,ha',rfl⟩
 go_wp2_with fail
 refine (trim_dig _ _ _ _ _ _ hb hvb (by omega)).mono ?_
 rintro e w1 ⟨lb',rfl,hb',rfl⟩
 have hla:=Lh ha'.len
 have hlb:=Lh hb'.len
 have hm:la'<=2199023255552:=by have h1:=hla.out;have h2:=dlen_val_le ha.wd;have h3:=ha.length;rw[hva] at h2;omega
 clear ha hb hva hvb hsa hsb
 rcases Nat.lt_trichotomy la' lb' with hlt | heq | hgt
 ·go_wp2
  go_ret
  refine ⟨?_,0,rfl⟩
  rw[cmpn_lt (lt_of_dlen (by have:=hla.out;have:=hlb.out;omega))];rfl
 ·subst heq
  have hda:=ha'.digits
  have hdb:=hb'.digits
  have hab:Hid ((digs a).length=la'/\(digs b).length=la'):=⟨hda.length,hdb.length⟩
  go_wp2
  go_loopw [4,5] (fun _ i wr=>∃ k:Nat,k<=la'/\i=.int .i64 ((k:Int)-1)/\Hid ((digs a).drop k=(digs b).drop k)/\∃ n,wr=w.drewN n) (fun _ i _=>(intOf i+1).toNat)
  case atStart=>exact ⟨la',Nat.le_refl _,rfl,by rw[List.drop_eq_nil_of_le (by rw[hab.out.1];omega),List.drop_eq_nil_of_le (by rw[hab.out.2];omega)];rfl,0,rfl⟩
  case round =>
   obtain ⟨k,hk,rfl,hdr,n,rfl⟩:=hrel
   cases k with
   | zero =>
     go_wp2
     go_ret
     refine ⟨?_,n,rfl⟩
     have e:a=b:=by
      have:=hdr.out
      simp only[List.drop_zero] at this
      rw[<- val_digs a,this,val_digs]
     rw[cmpn_eq e];rfl
   | succ k =>
     obtain ⟨b1,o1,rfl,hb1,hc1⟩:=hda.at_ (by omega)
     obtain ⟨b2,o2,rfl,hb2,hc2⟩:=hdb.at_ (by omega)
     have hcell1:=hc1 k (by omega)
     have hcell2:=hc2 k (by omega)
     have hkl:(k:Int)<(la':Int):=by omega
     clear hc1 hc2 hda hdb ha' hb'
     rw[show ((k+1:Nat):Int)-1=(k:Int) from by omega]
     go_wp2
     go_quiet (fail)
     go_wp2
     ·have hlt:(digs a)[k]?.getD 0<(digs b)[k]?.getD 0:=by assumption
      go_ret
      refine ⟨?_,by (try simp only[World.drewN_drewN]);exact ⟨_,rfl⟩⟩
      have:=val_lt_of_digit (digs_wd a) (hab.out.1.trans hab.out.2.symm) (k:=k) (by rw[hab.out.1];omega) hdr.out (by simpa [List.getD_eq_getElem?_getD] using hlt)
      rw[val_digs,val_digs] at this
      rw[cmpn_lt this];rfl
     ·go_quiet (fail)
      go_wp2
      ·have hlt:(digs b)[k]?.getD 0<(digs a)[k]?.getD 0:=by assumption
       go_ret
       refine ⟨?_,by (try simp only[World.drewN_drewN]);exact ⟨_,rfl⟩⟩
       have:=val_lt_of_digit (digs_wd b) (hab.out.2.trans hab.out.1.symm) (k:=k) (by rw[hab.out.2];omega) hdr.out.symm (by simpa [List.getD_eq_getElem?_getD] using hlt)
       rw[val_digs,val_digs] at this
       rw[cmpn_gt this];rfl
      ·have h1:¬ (digs a)[k]?.getD 0<(digs b)[k]?.getD 0:=by assumption
       have h2:¬ (digs b)[k]?.getD 0<(digs a)[k]?.getD 0:=by assumption
       go_roundw
       case rel =>
        refine ⟨k,by omega,rfl,?_,by (try simp only[World.drewN_drewN]);exact ⟨_,rfl⟩⟩
        have h3:(digs a).getD k 0=(digs b).getD k 0:=by simp only[List.getD_eq_getElem?_getD];omega
        show (digs a).drop k=(digs b).drop k
        rw[drop_getD_cons _ (by rw[hab.out.1];omega),drop_getD_cons (digs b) (by rw[hab.out.2];omega),hdr.out,h3]
       case measure=>simp[intOf]
 ·go_wp2
  go_ret
  refine ⟨?_,0,rfl⟩
  rw[cmpn_gt (lt_of_dlen (by have:=hla.out;have:=hlb.out;omega))];rfl
theorem cmp_any (A B:Option Addr) (la ca lb cb a b:Nat) (w:World) (ha:NatAt w A la ca a) (hb:NatAt w B lb cb b) (hsa:Sm a) (hsb:Sm b) :
  Calls Tryz.prog 34 #[.slice A la ca,.slice B lb cb] w fun e w'=>e=.returned (.int .i64 (cmpn a b))/\∃ n,w'=w.drewN n:=by
 obtain ⟨hsh,ds,hd,hv⟩:=ha
 obtain ⟨hsh2,ds2,hd2,hv2⟩:=hb
 exact cmp_dig A B la ca lb cb a b ds ds2 w hd hd2 hv hv2 (by unfold Sm at hsa;omega) (by unfold Sm at hsb;omega)
end Go.Proofs.YtpeiiomjnjemjaaGreat
namespace Go.Proofs.YtpeiiomjnjemjaaGreat
open Go.RowKit
noncomputable def sLo (x y c:Nat):Nat:=(x+y+c) % BB
noncomputable def sHi (x y c:Nat):Nat:=(x+y+c) / BB
noncomputable def dLo (x y c:Nat):Nat:=(x+BB-y-c) % BB
def dHi (x y c:Nat):Nat:=if x<y+c then 1 else 0
noncomputable def mLo (x y:Nat):Nat:=x*y % BB
noncomputable def mHi (x y:Nat):Nat:=x*y / BB
theorem ret_int2 {k l:IntKind} {a b c d:Int} (h:a=b) (h':c=d):Ending.returned (.tuple #[.int k a,.int l c])=.returned (.tuple #[.int k b,.int l d]):=by rw[h,h']
theorem bit31 {v:Nat} (h:v<4294967296):v.testBit 31=decide (2147483648<=v):=by
 rw[Nat.testBit_eq_decide_div_mod_eq]
 by_cases h1:2147483648<=v
 ·simp only[h1,decide_true,decide_eq_true_eq];omega
 ·simp only[h1,decide_false,decide_eq_false_iff_not];omega
theorem borrow_nat (x y c d:Nat) (hx:x<4294967296) (hy:y<4294967296) (hc:c<=1) (hd:d=(x+4294967296-y-c) % 4294967296) :
  (((4294967295 ^^^ x) &&& y) ||| ((4294967295 ^^^ (x ^^^ y)) &&& d)) / 2147483648=if x<y+c then 1 else 0:=by
 have hd4:d<4294967296:=by omega
 have h1:(4294967295 ^^^ x) &&& y<2^32:=Nat.and_lt_two_pow _ (by omega)
 have h2:(4294967295 ^^^ (x ^^^ y)) &&& d<2^32:=Nat.and_lt_two_pow _ (by omega)
 have h3:((4294967295 ^^^ x) &&& y) ||| ((4294967295 ^^^ (x ^^^ y)) &&& d)<2^32:=Nat.or_lt_two_pow h1 h2
 have hb:=bit31 (v:=((4294967295 ^^^ x) &&& y) ||| ((4294967295 ^^^ (x ^^^ y)) &&& d)) (by omega)
 rw[Nat.testBit_or,Nat.testBit_and,Nat.testBit_and,Nat.testBit_xor,Nat.testBit_xor,Nat.testBit_xor,bit31 hx,bit31 hy,bit31 hd4,bit31 (v:=4294967295) (by omega)] at hb
 generalize ((4294967295 ^^^ x) &&& y) ||| ((4294967295 ^^^ (x ^^^ y)) &&& d)=r at h3 hb ⊢
 have hr:r / 2147483648=if 2147483648<=r then 1 else 0:=by split<;>omega
 rw[hr]
 by_cases hx1:2147483648<=x<;>by_cases hy1:2147483648<=y<;>by_cases hd1:2147483648<=d<;>simp[hx1,hy1,hd1] at hb<;>by_cases hr1:2147483648<=r<;>simp[hr1]<;>omega
theorem borrow_bits (x y c:Nat) (hx:x<4294967296) (hy:y<4294967296) (hc:c<=1) :
  bits BinOp.or IntKind.u32 (bits BinOp.and IntKind.u32 (bits BinOp.xor IntKind.u32 IntKind.u32.max x) y)
   (bits BinOp.and IntKind.u32 (bits BinOp.xor IntKind.u32 IntKind.u32.max (bits BinOp.xor IntKind.u32 x y)) (((x:Int)-y-c) % 4294967296)) / 2147483648=((if x<y+c then 1 else 0:Nat):Int):=by
 have hm:IntKind.u32.max=((4294967295:Nat):Int):=rfl
 have hxy:x ^^^ y<2^32:=Nat.xor_lt_two_pow (by omega) (by omega)
 have h1:4294967295 ^^^ x<2^32:=Nat.xor_lt_two_pow (by omega) (by omega)
 have h2:4294967295 ^^^ (x ^^^ y)<2^32:=Nat.xor_lt_two_pow (by omega) (by omega)
 have hd:((x:Int)-y-c) % 4294967296=(((x+4294967296-y-c) % 4294967296:Nat):Int):=by omega
 have hd4:(x+4294967296-y-c) % 4294967296<4294967296:=by omega
 have h3:(4294967295 ^^^ x) &&& y<2^32:=Nat.and_lt_two_pow _ (by omega)
 have h4:(4294967295 ^^^ (x ^^^ y)) &&& ((x+4294967296-y-c) % 4294967296)<2^32:=Nat.and_lt_two_pow _ (by omega)
 rw[hm,hd,u32_xor_nat _ _ (by omega) hx,u32_xor_nat x y hx hy,u32_xor_nat _ _ (by omega) (by omega),u32_and_nat _ _ (by omega) hy,u32_and_nat _ _ (by omega) hd4,u32_or_nat _ _ (by omega) (by omega)]
 rw[<- borrow_nat x y c _ hx hy hc rfl]
 omega
set_option maxHeartbeats 400000 in
theorem add32_any (x y c:Nat) (w:World) (hx:x<4294967296) (hy:y<4294967296) (hc:c<=1) :
  Calls Tryz.prog 62 #[.int .u32 (x:Int),.int .u32 (y:Int),.int .u32 (c:Int)] w fun e w'=>e=.returned (.tuple #[.int .u32 (sLo x y c:Nat),.int .u32 (sHi x y c:Nat)])/\w=w':=by
 go_enter Tryz.func62,Tryz.ntmps62
 go_wp2
 go_ret2
 exact ⟨ret_int2 (by unfold sLo;rw[BB_eq];omega) (by unfold sHi;rw[BB_eq];omega),rfl⟩
set_option maxHeartbeats 400000 in
theorem sub32_any (x y c:Nat) (w:World) (hx:x<4294967296) (hy:y<4294967296) (hc:c<=1) :
  Calls Tryz.prog 64 #[.int .u32 (x:Int),.int .u32 (y:Int),.int .u32 (c:Int)] w fun e w'=>e=.returned (.tuple #[.int .u32 (dLo x y c:Nat),.int .u32 (dHi x y c:Nat)])/\w=w':=by
 have hsg:IntKind.u32.signed=false:=rfl
 have hbo:=Lh (borrow_bits x y c hx hy hc)
 go_enter Tryz.func64,Tryz.ntmps64
 go_wp2
 go_ret2
 exact ⟨ret_int2 (by unfold dLo;rw[BB_eq];omega) (by unfold dHi;exact hbo.out),rfl⟩
theorem mul_small {x y:Nat} (hx:x<4294967296) (hy:y<4294967296):x*y<=18446744065119617025:=Nat.le_trans (Nat.mul_le_mul (Nat.le_sub_one_of_lt hx) (Nat.le_sub_one_of_lt hy)) (Nat.le_refl _)
theorem mul_hi {x y:Nat} (_h:x*y<=18446744065119617025):IntKind.u64.wrap ((x:Int)*y) / 4294967296 % 4294967296=((mHi x y:Nat):Int):=by
 unfold mHi
 rw[<- Int.natCast_mul,BB_eq,IntKind.wrap_u64]
 generalize x*y=p at *
 omega
theorem mul_lo {x y:Nat} (_h:x*y<=18446744065119617025):IntKind.u64.wrap ((x:Int)*y) % 4294967296=((mLo x y:Nat):Int):=by
 unfold mLo
 rw[<- Int.natCast_mul,BB_eq,IntKind.wrap_u64]
 generalize x*y=p at *
 omega
set_option maxHeartbeats 400000 in
theorem mul32_any (x y:Nat) (w:World) (hx:x<4294967296) (hy:y<4294967296) :
  Calls Tryz.prog 99 #[.int .u32 (x:Int),.int .u32 (y:Int)] w fun e w'=>e=.returned (.tuple #[.int .u32 (mHi x y:Nat),.int .u32 (mLo x y:Nat)])/\w=w':=by
 go_enter Tryz.func99,Tryz.ntmps99
 have hp:=Lh (mul_small hx hy)
 go_wp2
 go_ret2
 have hp:=hp.out
 exact ⟨ret_int2 (mul_hi hp) (mul_lo hp),rfl⟩
theorem addClosure_any (x y c B:Nat) (w:World) (hx:x<4294967296) (hy:y<4294967296) (hc:c<=1) (hB:DRow w B [c]) :
  Calls Tryz.prog 61 #[.int .u32 (x:Int),.int .u32 (y:Int),.pointer (some ⟨B,0,none⟩)] w fun e w'=>e=.returned (.int .u32 (sLo x y c:Nat))/\w.setCell ⟨B,0,none⟩ (.int .u32 (sHi x y c:Nat))=w':=by
 have h0:w.cell? ⟨B,0,none⟩=some (.int .u32 (c:Int)):=hB.cell (i:=0) (by simp)
 have hf:=hB.frozen 0
 clear hB
 go_enter Tryz.func61,Tryz.ntmps61
 go_wp2_with (go_at_call 62;refine (add32_any _ _ _ _ hx hy hc).mono ?_;rintro e w1 ⟨rfl,rfl⟩)
 go_ret
 exact ⟨rfl,rfl⟩
theorem subClosure_any (x y c B:Nat) (w:World) (hx:x<4294967296) (hy:y<4294967296) (hc:c<=1) (hB:DRow w B [c]) :
  Calls Tryz.prog 63 #[.int .u32 (x:Int),.int .u32 (y:Int),.pointer (some ⟨B,0,none⟩)] w fun e w'=>e=.returned (.int .u32 (dLo x y c:Nat))/\w.setCell ⟨B,0,none⟩ (.int .u32 (dHi x y c:Nat))=w':=by
 have h0:w.cell? ⟨B,0,none⟩=some (.int .u32 (c:Int)):=hB.cell (i:=0) (by simp)
 have hf:=hB.frozen 0
 clear hB
 go_enter Tryz.func63,Tryz.ntmps63
 go_wp2_with (go_at_call 64;refine (sub32_any _ _ _ _ hx hy hc).mono ?_;rintro e w1 ⟨rfl,rfl⟩)
 go_ret
 exact ⟨rfl,rfl⟩
structure AddInv (w wr:World) (Bc g n:Nat) (dx dy:List Nat) (k c:Nat) (zs:List Nat):Prop where
 carry:c<=1
 row:DRow wr Bc [c]
 z:DRow wr g zs
 len:zs.length=n
 wd:Wd zs
 sum:val (zs.take k)+BB^k*c=val (dx.take k)+val (dy.take k)
 below:Below w.heap.size w wr
theorem sLo_lt (x y c:Nat):sLo x y c<BB:=Nat.mod_lt _ BB_pos
theorem sHi_le {x y c:Nat} (hx:x<BB) (hy:y<BB) (hc:c<=1):sHi x y c<=1:=by
 unfold sHi
 rw[BB_eq] at *;omega
theorem s_eq (x y c:Nat):sLo x y c+BB*sHi x y c=x+y+c:=Nat.mod_add_div _ _
theorem AddInv.step {w wr w1:World} {Bc g n:Nat} {dx dy:List Nat} {k c:Nat} {zs:List Nat} (h:AddInv w wr Bc g n dx dy k c zs) (hx:Wd dx) (hy:Wd dy)
  (hw:wr.setCell ⟨Bc,0,none⟩ (.int .u32 (sHi (dx.getD k 0) (dy.getD k 0) c:Nat))=w1) (hk:k<n) (hg:g≠Bc) (hwB:w.heap.size<=Bc) (hwg:w.heap.size<=g) :
  AddInv w (w1.setCell ⟨g,k,none⟩ (.int .u32 (sLo (dx.getD k 0) (dy.getD k 0) c:Nat))) Bc g n dx dy (k+1) (sHi (dx.getD k 0) (dy.getD k 0) c) (zs.set k (sLo (dx.getD k 0) (dy.getD k 0) c)):=by
 subst hw
 have h1:DRow (wr.setCell ⟨Bc,0,none⟩ (.int .u32 (sHi (dx.getD k 0) (dy.getD k 0) c:Nat))) Bc [sHi (dx.getD k 0) (dy.getD k 0) c]:=h.row.set_ 0 _
 have h2:=h.z.far (p:=⟨Bc,0,none⟩) hg (.int .u32 (sHi (dx.getD k 0) (dy.getD k 0) c:Nat))
 refine ⟨sHi_le (hx.getD k) (hy.getD k) h.carry,h1.far (p:=⟨g,k,none⟩) (fun e=>hg e.symm) _,h2.set_ k _,by rw[List.length_set,h.len],h.wd.set (sLo_lt _ _ _),?_,((h.below.setCell (p:=⟨Bc,0,none⟩) hwB _).setCell (p:=⟨g,k,none⟩) hwg _)⟩
 rw[take_set_succ zs (by rw[h.len];exact hk),val_append,val_take_succ' dx,val_take_succ' dy]
 have e1:(zs.take k).length=k:=by rw[List.length_take,h.len];omega
 have e2:=s_eq (dx.getD k 0) (dy.getD k 0) c
 have e3:=h.sum
 rw[e1,Nat.pow_succ]
 simp only[val,Nat.mul_zero,Nat.add_zero]
 have e4:BB^k*sLo (dx.getD k 0) (dy.getD k 0) c+BB^k*BB*sHi (dx.getD k 0) (dy.getD k 0) c=BB^k*(dx.getD k 0+dy.getD k 0+c):=by
  rw[<- e2,Nat.mul_add,Nat.mul_assoc]
 rw[Nat.mul_add,Nat.mul_add] at e4
 omega
theorem AddInv.fin {w wr:World} {Bc g m:Nat} {dx dy:List Nat} {c:Nat} {zs:List Nat} (h:AddInv w wr Bc g (m+1) dx dy m c zs) (_hx:Wd dx) (hxl:dx.length=m) (hyl:dy.length<=m)
  (hwg:w.heap.size<=g:=by omega):Below w.heap.size w (wr.setCell ⟨g,m,none⟩ (.int .u32 (c:Nat))) /\
    (m<=dlen (val dx+val dy)->NatAt (wr.setCell ⟨g,m,none⟩ (.int .u32 (c:Nat))) (some ⟨g,0,none⟩) (m+1) (m+1) (val dx+val dy)):=by
 refine ⟨h.below.setCell (p:=⟨g,m,none⟩) hwg _,fun hm=>⟨by omega,zs.set m c,?_,?_⟩⟩
 ·have hl:(zs.set m c).length=m+1:=by rw[List.length_set,h.len]
  have:=(h.z.set_ m c).dig (h.wd.set (by have:=h.carry;rw[BB_eq];omega)) (cap:=m+1) (by omega)
  rw[hl] at this
  exact this
 ·have e1:(zs.set m c)=(zs.set m c).take (m+1):=by rw[List.take_of_length_le (by rw[List.length_set,h.len];omega)]
  rw[e1,take_set_succ zs (by rw[h.len];omega),val_append]
  have e2:(zs.take m).length=m:=by rw[List.length_take,h.len];omega
  have e3:=h.sum
  rw[List.take_of_length_le (l:=dx) (by omega),List.take_of_length_le (l:=dy) hyl] at e3
  rw[e2]
  simpa [val] using e3
set_option maxHeartbeats 1000000 in
theorem add_dig (A B:Option Addr) (la ca lb cb a b:Nat) (da db:List Nat) (w:World) (ha:DigAt w A la ca da) (hb:DigAt w B lb cb db) (hva:val da=a) (hvb:val db=b) (hsa:la<=2199023255552) (hsb:lb<=2199023255552) :
  Calls Tryz.prog 33 #[.slice A la ca,.slice B lb cb] w fun e w'=>∃ A' len' cap',e=.returned (.slice A' len' cap')/\NatN w' A' len' cap' (a+b)/\Below w.heap.size w w':=by
 go_enter Tryz.func33,Tryz.ntmps33
 go_wp2_with fail
 refine (trim_dig _ _ _ _ _ _ ha hva (by omega)).mono ?_
 rintro e w1 ⟨la',rfl,ha',rfl⟩
 go_wp2_with fail
 refine (trim_dig _ _ _ _ _ _ hb hvb (by omega)).mono ?_
 rintro e w1 ⟨lb',rfl,hb',rfl⟩
 have hma:dlen a<=2199023255552:=by have h2:=dlen_val_le ha.wd;have h3:=ha.length;rw[hva] at h2;omega
 have hmb:dlen b<=2199023255552:=by have h2:=dlen_val_le hb.wd;have h3:=hb.length;rw[hvb] at h2;omega
 have Hma:=Lh hma
 have Hmb:=Lh hmb
 clear ha hb hva hvb hsa hsb hma hmb
 go_upto_if 19 with (fail)
 go_cut [0,1] (fun s0 s1 wx=>∃ X lx cx x Y ly cy y,s0=.slice X lx cx/\s1=.slice Y ly cy/\NatN w X lx cx x/\NatN w Y ly cy y/\ly<=lx/\lx<=2199023255552/\Hid (x+y=a+b)/\w=wx)
 case first =>
  by_cases hlt:la'<lb'
  ·go_wp2_with (fail)
   go_meet
   exact ⟨_,_,_,_,_,_,_,_,rfl,rfl,hb',ha',by omega,by have:=hb'.len;have:=Hmb.out;omega,Nat.add_comm _ _,rfl⟩
  ·go_wp2_with (fail)
   go_meet
   exact ⟨_,_,_,_,_,_,_,_,rfl,rfl,ha',hb',by omega,by have:=ha'.len;have:=Hma.out;omega,rfl,rfl⟩
 case rest =>
  obtain ⟨X,lx,cx,x,Y,ly,cy,y,rfl,rfl,hx,hy,hyx,hm,hxy,rfl⟩:=hcut
  clear ha' hb'
  have hlx:=Lh hx.len
  have hly:=Lh hy.len
  go_wp2_with (at_make;refine wpList_make_dig _ rfl (.tmp 25) (.tmp 25) rfl (lx+1) rfl rfl (by omega) ?_)
  intro w1 hz hb1 hsz
  have hinv:AddInv w w1 w.heap.size (w.heap.size+1) (lx+1) (digs x) (digs y) 0 0 (List.replicate (lx+1) 0):=by
   refine ⟨by omega,?_,by simpa using hz,by simp,Wd.replicate _,by simp[val],((Below.refl _ w).alloc (Nat.le_refl _) _).trans (hb1.mono (by simp))⟩
   have h0:DRow (w.alloc (.cells #[.int .u32 0] 93)) w.heap.size [0]:=Blk.new w _ _
   exact h0.below hb1 (by simp)
  clear hz hb1 hsz
  go_wp2
  go_loopw [29] (fun i wr=>∃ k c zs,k<=ly/\i=.int .i64 (k:Nat)/\AddInv w wr w.heap.size (w.heap.size+1) (lx+1) (digs x) (digs y) k c zs) (fun i _=>ly-(intOf i).toNat)
  case atStart=>exact ⟨0,_,_,Nat.zero_le _,rfl,hinv⟩
  case round =>
   obtain ⟨k,c,zs,hk,rfl,hI⟩:=hrel
   clear hinv
   by_cases hlt:k<ly
   ·obtain ⟨b1,o1,rfl,hb1,hc1⟩:=hx.digits.at_ (by omega)
    obtain ⟨b2,o2,rfl,hb2,hc2⟩:=hy.digits.at_ (by omega)
    have hcell1:=(hI.below.cell (p:=⟨b1,o1+k,none⟩) hb1).trans (hc1 k (by omega))
    have hcell2:=(hI.below.cell (p:=⟨b2,o2+k,none⟩) hb2).trans (hc2 k (by omega))
    have HI:=Lh hI
    have Hx:=Lh hx
    have Hy:=Lh hy
    clear hI hx hy hc1 hc2
    go_wp2_with fail
    have hd1:(digs x)[k]?.getD 0<4294967296:=by have:=(digs_wd x).getD k;rwa [List.getD_eq_getElem?_getD,BB_eq] at this
    have hd2:(digs y)[k]?.getD 0<4294967296:=by have:=(digs_wd y).getD k;rwa [List.getD_eq_getElem?_getD,BB_eq] at this
    refine (addClosure_any _ _ c w.heap.size _ hd1 hd2 HI.out.carry HI.out.row).mono ?_
    rintro e w2 ⟨rfl,hw⟩
    have hz2:DRow w2 (w.heap.size+1) zs:=by rw[<- hw];exact HI.out.z.far (p:=⟨w.heap.size,0,none⟩) (by simp) _
    have hzc:=hz2.cell (i:=k) (by rw[HI.out.len];omega)
    have hzf:=hz2.frozen k
    have Hw:=Lh hw
    clear hw hz2
    go_wp2
    go_roundw
    case rel =>
     have:=HI.out.step (w1:=w2) (digs_wd x) (digs_wd y) (by simp only[List.getD_eq_getElem?_getD];exact Hw.out) (by omega) (by omega) (Nat.le_refl _) (by omega)
     simp only[List.getD_eq_getElem?_getD] at this
     exact ⟨k+1,_,_,by omega,by go_num,this⟩
    case measure=>simp[intOf];omega
   ·have hk2:ly=k:=by omega
    subst hk2
    have HI:=Lh hI
    clear hI hlt hk
    go_wp2
    go_loopw [10] (fun i wq=>∃ k c zs,ly<=k/\k<=lx/\i=.int .i64 (k:Nat)/\AddInv w wq w.heap.size (w.heap.size+1) (lx+1) (digs x) (digs y) k c zs) (fun i _=>lx-(intOf i).toNat)
    case atStart=>exact ⟨ly,_,_,Nat.le_refl _,hyx,rfl,HI.out⟩
    case round =>
     clear HI
     obtain ⟨k,c,zs,hk1,hk,rfl,hI⟩:=hrel
     have hd2:(digs y).getD k 0=0:=by
      rw[List.getD_eq_getElem?_getD,List.getElem?_eq_none (by have:=hly.out;unfold dlen at this;omega)];rfl
     have Hd2:=Lh hd2
     clear hd2
     by_cases hlt:k<lx
     ·obtain ⟨b1,o1,rfl,hb1,hc1⟩:=hx.digits.at_ (by omega)
      have hcell1:=(hI.below.cell (p:=⟨b1,o1+k,none⟩) hb1).trans (hc1 k (by omega))
      have HI:=Lh hI
      have Hx:=Lh hx
      have Hy:=Lh hy
      clear hI hx hy hc1
      go_wp2_with fail
      have hd1:(digs x)[k]?.getD 0<4294967296:=by have:=(digs_wd x).getD k;rwa [List.getD_eq_getElem?_getD,BB_eq] at this
      refine (addClosure_any _ 0 c w.heap.size _ hd1 (by omega) HI.out.carry HI.out.row).mono ?_
      rintro e w2 ⟨rfl,hw⟩
      have hz2:DRow w2 (w.heap.size+1) zs:=by rw[<- hw];exact HI.out.z.far (p:=⟨w.heap.size,0,none⟩) (by simp) _
      have hzc:=hz2.cell (i:=k) (by rw[HI.out.len];omega)
      have hzf:=hz2.frozen k
      have Hw:=Lh hw
      clear hw hz2
      go_wp2
      go_roundw
      case rel =>
       have:=HI.out.step (w1:=w2) (digs_wd x) (digs_wd y) (by rw[Hd2.out];simp only[List.getD_eq_getElem?_getD];exact Hw.out) (by omega) (by omega) (Nat.le_refl _) (by omega)
       rw[Hd2.out] at this
       simp only[List.getD_eq_getElem?_getD] at this
       exact ⟨k+1,_,_,by omega,by omega,by go_num,this⟩
      case measure=>simp[intOf];omega
     ·have hk2:lx=k:=by omega
      subst hk2
      have hc0:_=some (Value.int .u32 (c:Int)):=hI.row.cell (i:=0) (by simp)
      have hzc:=hI.z.cell (i:=lx) (by rw[hI.len];omega)
      have hzf:=hI.z.frozen lx
      have HI:=Lh hI
      clear hI hlt
      go_wp2_with fail
      have hfin:=HI.out.fin (digs_wd x) hlx.out.symm (by have:=hly.out;unfold dlen at this;omega)
      rw[val_digs,val_digs,hxy.out] at hfin
      obtain ⟨_,ds,hdig,hval⟩:=hfin.2 (by have:=hlx.out;have:=dlen_mono (show x<=a+b by have:=hxy.out;omega);omega)
      refine (trim_dig _ _ _ _ _ _ hdig hval (by omega)).mono ?_
      rintro e w3 ⟨l3,rfl,h3,rfl⟩
      have H3:=Lh h3
      have Hf:=Lh hfin.1
      clear h3 hfin hdig hval
      go_wp2
      go_ret
      exact ⟨_,_,_,rfl,H3.out,Hf.out⟩
theorem add_any (A B:Option Addr) (la ca lb cb a b:Nat) (w:World) (ha:NatAt w A la ca a) (hb:NatAt w B lb cb b) (hs:Sm (a+b)) :
  Calls Tryz.prog 33 #[.slice A la ca,.slice B lb cb] w fun e w'=>∃ A' len' cap',e=.returned (.slice A' len' cap')/\NatN w' A' len' cap' (a+b)/\Below w.heap.size w w':=by
 have hsa:Sm a:=hs.mono (Nat.le_add_right _ _)
 have hsb:Sm b:=hs.mono (Nat.le_add_left _ _)
 obtain ⟨hsh,ds,hd,hv⟩:=ha
 obtain ⟨hsh2,ds2,hd2,hv2⟩:=hb
 exact add_dig A B la ca lb cb a b ds ds2 w hd hd2 hv hv2 (by unfold Sm at hsa;omega) (by unfold Sm at hsb;omega)
end Go.Proofs.YtpeiiomjnjemjaaGreat
namespace Go.Proofs.YtpeiiomjnjemjaaGreat
open Go.RowKit
structure SubInv (w wr:World) (Bc g n:Nat) (dx dy:List Nat) (k c:Nat) (zs:List Nat):Prop where
 carry:c<=1
 row:DRow wr Bc [c]
 z:DRow wr g zs
 len:zs.length=n
 wd:Wd zs
 sum:val (zs.take k)+val (dy.take k)=val (dx.take k)+BB^k*c
 below:Below w.heap.size w wr
theorem dLo_lt (x y c:Nat):dLo x y c<BB:=Nat.mod_lt _ BB_pos
theorem dHi_le (x y c:Nat):dHi x y c<=1:=by unfold dHi;split<;>omega
theorem d_eq_gen (B x y c:Nat) (hx:x<B) (hy:y<B) (hc:c<=1):(x+B-y-c) % B+y+c=x+B*(if x<y+c then 1 else 0):=by
 by_cases h:x<y+c
 ·rw[if_pos h,Nat.mod_eq_of_lt (by omega)];omega
 ·rw[if_neg h]
  have e:x+B-y-c=(x-y-c)+B:=by omega
  rw[e,Nat.add_mod_right,Nat.mod_eq_of_lt (by omega)];omega
theorem d_eq {x y c:Nat} (hx:x<BB) (hy:y<BB) (hc:c<=1):dLo x y c+y+c=x+BB*dHi x y c:=d_eq_gen BB x y c hx hy hc
theorem sub_arith (P B zk lo hi xk yk c X Y:Nat) (e2:lo+yk+c=xk+B*hi) (e3:zk+Y=X+P*c):zk+P*lo+(Y+P*yk)=X+P*xk+P*B*hi:=by
 have e4:P*lo+P*yk+P*c=P*xk+P*B*hi:=by
  rw[Nat.mul_assoc,<- Nat.mul_add,<- Nat.mul_add,<- Nat.mul_add,e2]
 omega
theorem SubInv.step {w wr w1:World} {Bc g n:Nat} {dx dy:List Nat} {k c:Nat} {zs:List Nat} (h:SubInv w wr Bc g n dx dy k c zs) (hx:Wd dx) (hy:Wd dy)
  (hw:wr.setCell ⟨Bc,0,none⟩ (.int .u32 (dHi (dx.getD k 0) (dy.getD k 0) c:Nat))=w1) (hk:k<n) (hg:g≠Bc) (hwB:w.heap.size<=Bc) (hwg:w.heap.size<=g) :
  SubInv w (w1.setCell ⟨g,k,none⟩ (.int .u32 (dLo (dx.getD k 0) (dy.getD k 0) c:Nat))) Bc g n dx dy (k+1) (dHi (dx.getD k 0) (dy.getD k 0) c) (zs.set k (dLo (dx.getD k 0) (dy.getD k 0) c)):=by
 subst hw
 have h1:DRow (wr.setCell ⟨Bc,0,none⟩ (.int .u32 (dHi (dx.getD k 0) (dy.getD k 0) c:Nat))) Bc [dHi (dx.getD k 0) (dy.getD k 0) c]:=h.row.set_ 0 _
 have h2:=h.z.far (p:=⟨Bc,0,none⟩) hg (.int .u32 (dHi (dx.getD k 0) (dy.getD k 0) c:Nat))
 refine ⟨dHi_le _ _ _,h1.far (p:=⟨g,k,none⟩) (fun e=>hg e.symm) _,h2.set_ k _,by rw[List.length_set,h.len],h.wd.set (dLo_lt _ _ _),?_,((h.below.setCell (p:=⟨Bc,0,none⟩) hwB _).setCell (p:=⟨g,k,none⟩) hwg _)⟩
 rw[take_set_succ zs (by rw[h.len];exact hk),val_append,val_take_succ' dx,val_take_succ' dy]
 have e1:(zs.take k).length=k:=by rw[List.length_take,h.len];omega
 have e2:=d_eq (hx.getD k) (hy.getD k) h.carry
 have e3:=h.sum
 rw[e1,Nat.pow_succ]
 simp only[val,Nat.mul_zero,Nat.add_zero]
 exact sub_arith _ _ _ _ _ _ _ _ _ _ e2 e3
theorem SubInv.fin {w wr:World} {Bc g m:Nat} {dx dy:List Nat} {c:Nat} {zs:List Nat} (h:SubInv w wr Bc g m dx dy m c zs) (hxl:dx.length=m) (hyl:dy.length<=m) (hle:val dy<=val dx) :
  DigAt wr (some ⟨g,0,none⟩) m m zs/\val zs=val dx-val dy:=by
 have e3:=h.sum
 rw[List.take_of_length_le (l:=dx) (by omega),List.take_of_length_le (l:=dy) hyl,List.take_of_length_le (l:=zs) (by rw[h.len];omega)] at e3
 have e4:=val_lt h.wd
 rw[h.len] at e4
 have e5:=h.carry
 have e6:c=0:=by
  rcases Nat.eq_zero_or_pos c with h0 | h0
  ·exact h0
  ·have:c=1:=by omega
   rw[this,Nat.mul_one] at e3
   omega
 rw[e6,Nat.mul_zero] at e3
 refine ⟨?_,by omega⟩
 have:=h.z.dig h.wd (cap:=m) (by rw[h.len];omega)
 rw[h.len] at this
 exact this
set_option maxHeartbeats 1000000 in
theorem sub_ge_fresh (A B:Option Addr) (la ca lb cb a b:Nat) (da db:List Nat) (w:World) (ha:DigAt w A la ca da) (hb:DigAt w B lb cb db) (hva:val da=a) (hvb:val db=b) (hsa:la<=2199023255552) (hsb:lb<=2199023255552) (hle:b<=a) :
  Calls Tryz.prog 35 #[.slice A la ca,.slice B lb cb] w fun e w'=>∃ A' len' cap',e=.returned (.tuple #[.slice A' len' cap',.bool true])/\NatN w' A' len' cap' (a-b)/\Below w.heap.size w w'/\(∀ b off,A'=some ⟨b,off,none⟩->w.heap.size<=b):=by
 have hc:0<=cmpn a b:=by unfold cmpn;rw[if_neg (by omega)];split<;>omega
 go_enter Tryz.func35,Tryz.ntmps35
 go_wp2_with fail
 refine (trim_dig _ _ _ _ _ _ ha hva (by omega)).mono ?_
 rintro e w1 ⟨la',rfl,ha',rfl⟩
 go_wp2_with fail
 refine (trim_dig _ _ _ _ _ _ hb hvb (by omega)).mono ?_
 rintro e w1 ⟨lb',rfl,hb',rfl⟩
 have hma:la'<=2199023255552:=by have h2:=dlen_val_le ha.wd;have h3:=ha.length;rw[hva] at h2;have:=ha'.len;omega
 have hmb:lb'<=2199023255552:=by have h2:=dlen_val_le hb.wd;have h3:=hb.length;rw[hvb] at h2;have:=hb'.len;omega
 clear ha hb hva hvb hsa hsb
 go_wp2_with fail
 refine (cmp_dig _ _ _ _ _ _ _ _ _ _ _ ha'.digits hb'.digits (val_digs _) (val_digs _) hma hmb).mono ?_
 rintro e w1 ⟨rfl,nq,rfl⟩
 have hbd:Below w.heap.size w (w.drewN nq):=⟨rfl,rfl,rfl,Nat.le_refl _,fun _ _=>rfl⟩
 have hx:NatN (w.drewN nq) A la' ca a:=ha'.below hbd
 have hy:NatN (w.drewN nq) B lb' cb b:=hb'.below hbd
 obtain ⟨w0,hw0⟩:∃ w0,w0=w.drewN nq:=⟨_,rfl⟩
 have hs0:w0.heap.size=w.heap.size:=by rw[hw0];rfl
 rw[<- hw0] at hbd hx hy ⊢
 have Hbd:=Lh hbd
 have Hs0:=Lh hs0
 clear hw0 hbd ha' hb' hs0
 have hlx:=Lh hx.len
 have hly:=Lh hy.len
 have hyx:lb'<=la':=by have:=hlx.out;have:=hly.out;have:=dlen_mono hle;omega
 have Hle:=Lh hle
 clear hmb hle
 go_wp2_with (at_make;refine wpList_make_dig _ rfl (.tmp 22) (.tmp 22) rfl la' rfl rfl (by omega) ?_)
 clear hc
 intro w1 hz hb1 hsz
 have hinv:SubInv w0 w1 w0.heap.size (w0.heap.size+1) la' (digs a) (digs b) 0 0 (List.replicate la' 0):=by
  refine ⟨by omega,?_,by simpa using hz,by simp,Wd.replicate _,by simp[val],((Below.refl _ w0).alloc (Nat.le_refl _) _).trans (hb1.mono (by simp))⟩
  have h0:DRow (w0.alloc (.cells #[.int .u32 0] 93)) w0.heap.size [0]:=Blk.new w0 _ _
  exact h0.below hb1 (by simp)
 clear hz hb1 hsz
 go_wp2
 go_loopw [26] (fun i wr=>∃ k c zs,k<=lb'/\i=.int .i64 (k:Nat)/\SubInv w0 wr w0.heap.size (w0.heap.size+1) la' (digs a) (digs b) k c zs) (fun i _=>lb'-(intOf i).toNat)
 case atStart=>exact ⟨0,_,_,Nat.zero_le _,rfl,hinv⟩
 case round =>
  obtain ⟨k,c,zs,hk,rfl,hI⟩:=hrel
  clear hinv
  by_cases hlt:k<lb'
  ·obtain ⟨b1,o1,rfl,hb1,hc1⟩:=hx.digits.at_ (by omega)
   obtain ⟨b2,o2,rfl,hb2,hc2⟩:=hy.digits.at_ (by omega)
   have hcell1:=(hI.below.cell (p:=⟨b1,o1+k,none⟩) hb1).trans (hc1 k (by omega))
   have hcell2:=(hI.below.cell (p:=⟨b2,o2+k,none⟩) hb2).trans (hc2 k (by omega))
   have HI:=Lh hI
   have Hx:=Lh hx
   have Hy:=Lh hy
   clear hI hx hy hc1 hc2
   go_wp2_with fail
   have hd1:(digs a)[k]?.getD 0<4294967296:=by have:=(digs_wd a).getD k;rwa [List.getD_eq_getElem?_getD,BB_eq] at this
   have hd2:(digs b)[k]?.getD 0<4294967296:=by have:=(digs_wd b).getD k;rwa [List.getD_eq_getElem?_getD,BB_eq] at this
   refine (subClosure_any _ _ c w0.heap.size _ hd1 hd2 HI.out.carry HI.out.row).mono ?_
   rintro e w2 ⟨rfl,hw⟩
   have hz2:DRow w2 (w0.heap.size+1) zs:=by rw[<- hw];exact HI.out.z.far (p:=⟨w0.heap.size,0,none⟩) (by simp) _
   have hzc:=hz2.cell (i:=k) (by rw[HI.out.len];omega)
   have hzf:=hz2.frozen k
   have Hw:=Lh hw
   clear hw hz2
   go_wp2
   go_roundw
   case rel =>
    have:=HI.out.step (w1:=w2) (digs_wd a) (digs_wd b) (by simp only[List.getD_eq_getElem?_getD];exact Hw.out) (by omega) (by omega) (Nat.le_refl _) (by omega)
    simp only[List.getD_eq_getElem?_getD] at this
    exact ⟨k+1,_,_,by omega,by go_num,this⟩
   case measure=>simp[intOf];omega
  ·have hk2:lb'=k:=by omega
   subst hk2
   have HI:=Lh hI
   clear hI hlt hk
   go_wp2
   go_loopw [11] (fun i wq=>∃ k c zs,lb'<=k/\k<=la'/\i=.int .i64 (k:Nat)/\SubInv w0 wq w0.heap.size (w0.heap.size+1) la' (digs a) (digs b) k c zs) (fun i _=>la'-(intOf i).toNat)
   case atStart=>exact ⟨lb',_,_,Nat.le_refl _,hyx,rfl,HI.out⟩
   case round =>
    clear HI
    obtain ⟨k,c,zs,hk1,hk,rfl,hI⟩:=hrel
    have hd2:(digs b).getD k 0=0:=by
     rw[List.getD_eq_getElem?_getD,List.getElem?_eq_none (by have:=hly.out;unfold dlen at this;omega)];rfl
    have Hd2:=Lh hd2
    clear hd2
    by_cases hlt:k<la'
    ·obtain ⟨b1,o1,rfl,hb1,hc1⟩:=hx.digits.at_ (by omega)
     have hcell1:=(hI.below.cell (p:=⟨b1,o1+k,none⟩) hb1).trans (hc1 k (by omega))
     have HI:=Lh hI
     have Hx:=Lh hx
     have Hy:=Lh hy
     clear hI hx hy hc1
     go_wp2_with fail
     have hd1:(digs a)[k]?.getD 0<4294967296:=by have:=(digs_wd a).getD k;rwa [List.getD_eq_getElem?_getD,BB_eq] at this
     refine (subClosure_any _ 0 c w0.heap.size _ hd1 (by omega) HI.out.carry HI.out.row).mono ?_
     rintro e w2 ⟨rfl,hw⟩
     have hz2:DRow w2 (w0.heap.size+1) zs:=by rw[<- hw];exact HI.out.z.far (p:=⟨w0.heap.size,0,none⟩) (by simp) _
     have hzc:=hz2.cell (i:=k) (by rw[HI.out.len];omega)
     have hzf:=hz2.frozen k
     have Hw:=Lh hw
     clear hw hz2
     go_wp2
     go_roundw
     case rel =>
      have:=HI.out.step (w1:=w2) (digs_wd a) (digs_wd b) (by rw[Hd2.out];simp only[List.getD_eq_getElem?_getD];exact Hw.out) (by omega) (by omega) (Nat.le_refl _) (by omega)
      rw[Hd2.out] at this
      simp only[List.getD_eq_getElem?_getD] at this
      exact ⟨k+1,_,_,by omega,by omega,by go_num,this⟩
     case measure=>simp[intOf];omega
    ·have hk2:la'=k:=by omega
     subst hk2
     have HI:=Lh hI
     clear hI hlt
     go_wp2_with fail
     obtain ⟨hdig,hval⟩:=HI.out.fin hlx.out.symm (by have:=hly.out;unfold dlen at this;omega) (by rw[val_digs,val_digs];exact Hle.out)
     rw[val_digs,val_digs] at hval
     refine (trim_dig _ _ _ _ _ _ hdig hval (by omega)).mono ?_
     rintro e w3 ⟨l3,rfl,h3,rfl⟩
     have H3:=Lh h3
     clear h3 hdig hval
     go_wp2
     go_ret2
     exact ⟨_,_,_,rfl,H3.out,Hbd.out.trans (HI.out.below.mono (by rw[Hs0.out];exact Nat.le_refl _)),fun b off e=>by injection e with e;injection e with e1 _ _;have:=Hs0.out;omega⟩
theorem sub_ge_dig (A B:Option Addr) (la ca lb cb a b:Nat) (da db:List Nat) (w:World) (ha:DigAt w A la ca da) (hb:DigAt w B lb cb db) (hva:val da=a) (hvb:val db=b) (hsa:la<=2199023255552) (hsb:lb<=2199023255552) (hle:b<=a) :
  Calls Tryz.prog 35 #[.slice A la ca,.slice B lb cb] w fun e w'=>∃ A' len' cap',e=.returned (.tuple #[.slice A' len' cap',.bool true])/\NatN w' A' len' cap' (a-b)/\Below w.heap.size w w' :=
 (sub_ge_fresh A B la ca lb cb a b da db w ha hb hva hvb hsa hsb hle).mono fun _ _ ⟨A',l,c,h1,h2,h3,_⟩=>⟨A',l,c,h1,h2,h3⟩
theorem sub_ge (A B:Option Addr) (la ca lb cb a b:Nat) (w:World) (ha:NatAt w A la ca a) (hb:NatAt w B lb cb b) (hsa:Sm a) (hle:b<=a) :
  Calls Tryz.prog 35 #[.slice A la ca,.slice B lb cb] w fun e w'=>∃ A' len' cap',e=.returned (.tuple #[.slice A' len' cap',.bool true])/\NatN w' A' len' cap' (a-b)/\Below w.heap.size w w':=by
 have hsb:Sm b:=hsa.mono hle
 obtain ⟨hsh,ds,hd,hv⟩:=ha
 obtain ⟨hsh2,ds2,hd2,hv2⟩:=hb
 exact sub_ge_dig A B la ca lb cb a b ds ds2 w hd hd2 hv hv2 (by unfold Sm at hsa;omega) (by unfold Sm at hsb;omega) hle
end Go.Proofs.YtpeiiomjnjemjaaGreat
namespace Go.Proofs.YtpeiiomjnjemjaaGreat
open Go.RowKit
noncomputable def pLo (x y r c:Nat):Nat:=sLo (sLo (mLo x y) r 0) c 0
noncomputable def pHi1 (x y r:Nat):Nat:=mHi x y+sHi (mLo x y) r 0
noncomputable def pHi (x y r c:Nat):Nat:=pHi1 x y r+sHi (sLo (mLo x y) r 0) c 0
theorem mLo_lt (x y:Nat):mLo x y<BB:=Nat.mod_lt _ BB_pos
theorem m_eq (x y:Nat):mLo x y+BB*mHi x y=x*y:=Nat.mod_add_div _ _
theorem pLo_lt (x y r c:Nat):pLo x y r c<BB:=sLo_lt _ _ _
theorem p_eq1 (x y r:Nat):sLo (mLo x y) r 0+BB*pHi1 x y r=x*y+r:=by
 have h1:=m_eq x y
 have h2:=s_eq (mLo x y) r 0
 unfold pHi1
 rw[Nat.mul_add];omega
theorem p_eq (x y r c:Nat):pLo x y r c+BB*pHi x y r c=x*y+r+c:=by
 have h1:=p_eq1 x y r
 have h2:=s_eq (sLo (mLo x y) r 0) c 0
 unfold pHi pLo
 rw[Nat.mul_add];omega
theorem sq_bound {B x y r c:Nat} (hx:x<B) (hy:y<B) (hr:r<B) (hc:c<B):x*y+r+c<B*B:=by
 obtain ⟨k,rfl⟩:∃ k,B=k+1:=⟨B-1,by omega⟩
 have h1:x*y<=k*k:=Nat.mul_le_mul (by omega) (by omega)
 have h2:(k+1)*(k+1)=k*k+k+k+1:=by rw[Nat.mul_add,Nat.add_mul];omega
 omega
theorem pHi_lt {x y r c:Nat} (hx:x<BB) (hy:y<BB) (hr:r<BB) (hc:c<BB):pHi x y r c<BB:=by
 have h1:=p_eq x y r c
 have h2:=sq_bound hx hy hr hc
 exact Nat.lt_of_mul_lt_mul_left (a:=BB) (by omega)
theorem pHi1_lt {x y r:Nat} (hx:x<BB) (hy:y<BB) (hr:r<BB):pHi1 x y r<BB:=by
 have h1:=p_eq1 x y r
 have h2:=sq_bound hx hy hr BB_pos
 exact Nat.lt_of_mul_lt_mul_left (a:=BB) (by omega)
def Zf (k:Nat) (zs:List Nat):Prop:=∀ m,k<=m->zs.getD m 0=0
theorem Zf.set {k i x:Nat} {zs:List Nat} (h:Zf k zs) (hi:i<k):Zf k (zs.set i x):=by
 intro m hm
 have:=h m hm
 rw[List.getD_eq_getElem?_getD] at *
 rw[List.getElem?_set_ne (by omega)];exact this
theorem Zf.mono {k k':Nat} {zs:List Nat} (h:Zf k zs) (hk:k<=k'):Zf k' zs:=fun m hm=>h m (by omega)
theorem Zf.replicate (k n:Nat):Zf k (List.replicate n 0):=by
 intro m _
 rw[List.getD_eq_getElem?_getD,List.getElem?_replicate];split<;>rfl
theorem row_arith (V P B lo hi x y r c T V':Nat) (e:lo+B*hi=x*y+r+c) (h:V+P*c=T) (hs:V'+P*r=V+P*lo):V'+P*B*hi=T+P*(x*y):=by
 have e2:P*lo+P*B*hi=P*(x*y)+P*r+P*c:=by
  rw[Nat.mul_assoc,<- Nat.mul_add,e,Nat.mul_add,Nat.mul_add]
 omega
structure RowInv (w wr:World) (g i lb n x T:Nat) (db:List Nat) (j c:Nat) (zs:List Nat):Prop where
 carry:c<BB
 z:DRow wr g zs
 len:zs.length=n
 wd:Wd zs
 zero:Zf (i+lb) zs
 sum:val zs+BB^(i+j)*c=T+BB^i*(x*val (db.take j))
 below:Below w.heap.size w wr
theorem RowInv.step {w wr:World} {g i lb n x T:Nat} {db:List Nat} {j c:Nat} {zs:List Nat} (h:RowInv w wr g i lb n x T db j c zs) (hx:x<BB) (hb:Wd db) (hj:j<lb) (hn:i+lb<n) (hg:w.heap.size<=g) :
  RowInv w (wr.setCell ⟨g,i+j,none⟩ (.int .u32 (pLo x (db.getD j 0) (zs.getD (i+j) 0) c:Nat))) g i lb n x T db (j+1) (pHi x (db.getD j 0) (zs.getD (i+j) 0) c) (zs.set (i+j) (pLo x (db.getD j 0) (zs.getD (i+j) 0) c)):=by
 refine ⟨pHi_lt hx (hb.getD _) (h.wd.getD _) h.carry,h.z.set_ _ _,by rw[List.length_set,h.len],h.wd.set (pLo_lt _ _ _ _),h.zero.set (by omega),?_,h.below.setCell (p:=⟨g,i+j,none⟩) hg _⟩
 have h1:=val_set zs (k:=i+j) (by rw[h.len];omega) (pLo x (db.getD j 0) (zs.getD (i+j) 0) c)
 have h2:=row_arith _ _ _ _ _ _ _ _ _ _ _ (p_eq x (db.getD j 0) (zs.getD (i+j) 0) c) h.sum h1
 rw[<- Nat.add_assoc,Nat.pow_succ,h2,val_take_succ' db,Nat.mul_add x,Nat.mul_add (BB^i),Nat.add_assoc,Nat.pow_add,Nat.mul_assoc]
 congr 2
 rw[<- Nat.mul_assoc (BB^j),<- Nat.mul_assoc x,Nat.mul_comm x (BB^j)]
structure SchInv (w wr:World) (g lb n:Nat) (da db:List Nat) (i:Nat) (zs:List Nat):Prop where
 z:DRow wr g zs
 len:zs.length=n
 wd:Wd zs
 zero:Zf (i+lb) zs
 sum:val zs=val (da.take i)*val db
 below:Below w.heap.size w wr
theorem SchInv.start {w wr:World} {g lb n:Nat} {da db:List Nat} {i:Nat} {zs:List Nat} (h:SchInv w wr g lb n da db i zs):RowInv w wr g i lb n (da.getD i 0) (val (da.take i)*val db) db 0 0 zs :=
 ⟨BB_pos,h.z,h.len,h.wd,h.zero,by simp[val,h.sum],h.below⟩
theorem RowInv.done {w wr:World} {g i lb n:Nat} {da db:List Nat} {c:Nat} {zs:List Nat} (h:RowInv w wr g i lb n (da.getD i 0) (val (da.take i)*val db) db lb c zs) (hb:db.length=lb) (hn:i+lb<n) (hg:w.heap.size<=g) :
  SchInv w (wr.setCell ⟨g,i+lb,none⟩ (.int .u32 (c:Nat))) g lb n da db (i+1) (zs.set (i+lb) c):=by
 refine ⟨h.z.set_ _ _,by rw[List.length_set,h.len],h.wd.set h.carry,?_,?_,h.below.setCell (p:=⟨g,i+lb,none⟩) hg _⟩
 ·intro m hm
  have:=h.zero m (by omega)
  rw[List.getD_eq_getElem?_getD] at *
  rw[List.getElem?_set_ne (by omega)];exact this
 ·have h1:=val_set zs (k:=i+lb) (by rw[h.len];omega) c
  have h2:=h.sum
  have h3:=h.zero (i+lb) (Nat.le_refl _)
  rw[h3,Nat.mul_zero,Nat.add_zero] at h1
  rw[List.take_of_length_le (l:=db) (by omega)] at h2
  rw[h1,h2,val_take_succ',Nat.add_mul,Nat.mul_assoc]
theorem SchInv.skip {w wr:World} {g lb n:Nat} {da db:List Nat} {i:Nat} {zs:List Nat} (h:SchInv w wr g lb n da db i zs) (h0:da.getD i 0=0):SchInv w wr g lb n da db (i+1) zs :=
 ⟨h.z,h.len,h.wd,h.zero.mono (by omega),by rw[h.sum,val_take_succ',h0];simp,h.below⟩
set_option maxHeartbeats 2000000 in
theorem schoolbook_any (A B:Option Addr) (la ca lb cb:Nat) (da db:List Nat) (w:World) (ha:DigAt w A la ca da) (hb:DigAt w B lb cb db) (hm:la+lb<=8796093022208) :
  Calls Tryz.prog 84 #[.slice A la ca,.slice B lb cb] w fun e w'=>∃ g zs,e=.returned (.slice (some ⟨g,0,none⟩) (la+lb) (la+lb))/\DRow w' g zs/\zs.length=la+lb/\Wd zs/\val zs=val da*val db/\w.heap.size<=g/\Below w.heap.size w w':=by
 have hla:=Lh ha.length
 have hlb:=Lh hb.length
 go_enter Tryz.func84,Tryz.ntmps84
 go_wp2_with (at_make;refine wpList_make_dig _ rfl (.tmp 19) (.tmp 19) rfl (la+lb) rfl rfl (by omega) ?_)
 intro w1 hz hb1 hsz
 have hinv:SchInv w w1 w.heap.size lb (la+lb) da db 0 (List.replicate (la+lb) 0) :=
  ⟨hz,by simp,Wd.replicate _,Zf.replicate _ _,by simp[val,val_replicate],hb1⟩
 clear hz hb1 hsz
 go_wp2
 go_loopw [23] (fun i wr=>∃ k zs,k<=la/\i=.int .i64 (k:Nat)/\SchInv w wr w.heap.size lb (la+lb) da db k zs) (fun i _=>la-(intOf i).toNat)
 case atStart=>exact ⟨0,_,Nat.zero_le _,rfl,hinv⟩
 case round =>
  clear hinv
  obtain ⟨i,zs,hi,rfl,hI⟩:=hrel
  have HI:=Lh hI
  clear hI
  by_cases hlt:i<la
  ·obtain ⟨b1,o1,rfl,hb1,hc1⟩:=ha.at_ (by omega)
   have hcell1:=(HI.out.below.cell (p:=⟨b1,o1+i,none⟩) hb1).trans (hc1 i hlt)
   have Ha:=Lh ha
   clear ha hc1
   by_cases h0:((da[i]?.getD 0:Nat):Int)=0
   ·have h0':(((da[i]?.getD 0:Nat):Int) == 0)=true:=by rw[h0];rfl
    have H0:=Lh h0
    clear h0
    go_wp2
    go_roundw
    case rel=>exact ⟨i+1,zs,by omega,by go_num,HI.out.skip (by rw[List.getD_eq_getElem?_getD];have:=H0.out;omega)⟩
    case measure=>simp[intOf];omega
   ·have h0':(((da[i]?.getD 0:Nat):Int) == 0)=false:=by rw[beq_eq_false_iff_ne];exact h0
    clear h0
    have hcap:i<la+lb:=by omega
    have hd1:da[i]?.getD 0<4294967296:=by have:=Ha.out.wd.getD i;rwa [List.getD_eq_getElem?_getD,BB_eq] at this
    have hR:=HI.out.start
    have HR:=Lh hR
    clear hR
    go_wp2
    go_loopw [9,35] (fun c j wq=>∃ j' c' zs',j'<=lb/\j=.int .i64 (j':Nat)/\c=.int .u32 (c':Nat)/\RowInv w wq w.heap.size i lb (la+lb) (da.getD i 0) (val (da.take i)*val db) db j' c' zs') (fun _ j _=>lb-(intOf j).toNat)
    case atStart=>exact ⟨0,0,zs,Nat.zero_le _,rfl,rfl,HR.out⟩
    case round =>
     clear HR
     obtain ⟨j,c,zs',hj,rfl,rfl,hI2⟩:=hrel
     have HI2:=Lh hI2
     clear hI2
     by_cases hlt2:j<lb
     ·obtain ⟨b2,o2,rfl,hb2,hc2⟩:=hb.at_ (by omega)
      have hcell2:=(HI2.out.below.cell (p:=⟨b2,o2+j,none⟩) hb2).trans (hc2 j hlt2)
      have hd2:db[j]?.getD 0<4294967296:=by have:=hb.wd.getD j;rwa [List.getD_eq_getElem?_getD,BB_eq] at this
      have hzc:=HI2.out.z.cell (i:=i+j) (by rw[HI2.out.len];omega)
      have hzf:=HI2.out.z.frozen (i+j)
      have hd3:zs'[i+j]?.getD 0<4294967296:=by have:=HI2.out.wd.getD (i+j);rwa [List.getD_eq_getElem?_getD,BB_eq] at this
      have hd4:c<4294967296:=by have:=HI2.out.carry;rwa [BB_eq] at this
      have hm1:mLo (da[i]?.getD 0) (db[j]?.getD 0)<4294967296:=by have:=mLo_lt (da[i]?.getD 0) (db[j]?.getD 0);rwa [BB_eq] at this
      have hm2:sLo (mLo (da[i]?.getD 0) (db[j]?.getD 0)) (zs'[i+j]?.getD 0) 0<4294967296:=by have:=sLo_lt (mLo (da[i]?.getD 0) (db[j]?.getD 0)) (zs'[i+j]?.getD 0) 0;rwa [BB_eq] at this
      have hm3:mHi (da[i]?.getD 0) (db[j]?.getD 0)+sHi (mLo (da[i]?.getD 0) (db[j]?.getD 0)) (zs'[i+j]?.getD 0) 0<4294967296:=by
       have:=pHi1_lt (x:=da[i]?.getD 0) (y:=db[j]?.getD 0) (r:=zs'[i+j]?.getD 0) (by rw[BB_eq];exact hd1) (by rw[BB_eq];exact hd2) (by rw[BB_eq];exact hd3)
       rwa [BB_eq] at this
      have hm4:mHi (da[i]?.getD 0) (db[j]?.getD 0)+sHi (mLo (da[i]?.getD 0) (db[j]?.getD 0)) (zs'[i+j]?.getD 0) 0+sHi (sLo (mLo (da[i]?.getD 0) (db[j]?.getD 0)) (zs'[i+j]?.getD 0) 0) c 0<4294967296:=by
       have:=pHi_lt (x:=da[i]?.getD 0) (y:=db[j]?.getD 0) (r:=zs'[i+j]?.getD 0) (c:=c) (by rw[BB_eq];exact hd1) (by rw[BB_eq];exact hd2) (by rw[BB_eq];exact hd3) (by rw[BB_eq];exact hd4)
       rwa [BB_eq] at this
      have Hb:=Lh hb
      clear hb hc2
      go_wp2_with fail
      refine (mul32_any _ _ _ hd1 hd2).mono ?_
      rintro e w2 ⟨rfl,rfl⟩
      go_wp2_with fail
      refine (add32_any _ _ 0 _ hm1 hd3 (by omega)).mono ?_
      rintro e w2 ⟨rfl,rfl⟩
      go_wp2_with fail
      refine (add32_any _ _ 0 _ hm2 hd4 (by omega)).mono ?_
      rintro e w2 ⟨rfl,rfl⟩
      go_wp2
      go_roundw
      case rel =>
       have:=HI2.out.step (by rw[List.getD_eq_getElem?_getD,BB_eq];exact hd1) Hb.out.wd hlt2 (by omega) (Nat.le_refl _)
       simp only[List.getD_eq_getElem?_getD] at this ⊢
       exact ⟨j+1,_,_,by omega,by go_num,rfl,this⟩
      case measure=>simp[intOf];omega
     ·have hk2:lb=j:=by omega
      subst hk2
      have hzc:=HI2.out.z.cell (i:=i+lb) (by rw[HI2.out.len];omega)
      have hzf:=HI2.out.z.frozen (i+lb)
      go_wp2
      go_roundw
      case rel=>exact ⟨i+1,_,by omega,by go_num,HI2.out.done hlb.out (by omega) (Nat.le_refl _)⟩
      case measure=>simp[intOf];omega
  ·have hk2:la=i:=by omega
   subst hk2
   go_wp2
   go_ret
   refine ⟨_,_,rfl,HI.out.z,HI.out.len,HI.out.wd,?_,Nat.le_refl _,HI.out.below⟩
   rw[HI.out.sum,List.take_of_length_le (by rw[hla.out];exact Nat.le_refl _)]
end Go.Proofs.YtpeiiomjnjemjaaGreat
namespace Go.Proofs.YtpeiiomjnjemjaaGreat
open Go.RowKit
structure Only (g:Nat) (w w':World):Prop where
 os:w'.os=w.os
 tape:w'.tape=w.tape
 output:w'.output=w.output
 size:w'.heap.size=w.heap.size
 block:∀ k,k≠g->w'.heap[k]?=w.heap[k]?
theorem Only.refl (g:Nat) (w:World):Only g w w:=⟨rfl,rfl,rfl,rfl,fun _ _=>rfl⟩
theorem Only.trans {g:Nat} {a b c:World} (h:Only g a b) (k:Only g b c):Only g a c :=
 ⟨k.os.trans h.os,k.tape.trans h.tape,k.output.trans h.output,k.size.trans h.size,fun i hi=>(k.block i hi).trans (h.block i hi)⟩
theorem Only.setCell {g:Nat} {a w:World} (h:Only g a w) (i:Nat) (u:Value):Only g a (w.setCell ⟨g,i,none⟩ u) :=
 h.trans ⟨rfl,rfl,rfl,by simp[World.setCell],fun k hk=>Below.heap_setCell w ⟨g,i,none⟩ u k hk⟩
theorem Only.drewN {g:Nat} {a w:World} (h:Only g a w) (n:Nat):Only g a (w.drewN n):=⟨h.os,h.tape,h.output,h.size,h.block⟩
theorem Only.cell {g:Nat} {w w':World} (h:Only g w w') {p:Addr} (hp:p.block≠g):w'.cell? p=w.cell? p:=World.cell?_of_block (w:=w) (h.block p.block hp)
theorem Only.below {g B:Nat} {w w':World} (h:Only g w w') (hg:B<=g):Below B w w' :=
 ⟨h.os,h.tape,h.output,by rw[h.size];exact Nat.le_refl _,fun k hk=>h.block k (by omega)⟩
theorem Only.row {g g':Nat} {w w':World} {zs:List Nat} (h:Only g w w') (hr:DRow w g' zs) (hg:g'≠g):DRow w' g' zs:=(h.block g' hg).trans hr
def Off (g:Nat) (A:Option Addr):Prop:=∀ b off,A=some ⟨b,off,none⟩->b≠g
theorem DigAt.only {w w':World} {g:Nat} {A:Option Addr} {len cap:Nat} {ds:List Nat} (h:DigAt w A len cap ds) (ho:Only g w w') (hg:Off g A):DigAt w' A len cap ds:=by
 refine ⟨h.length,h.cap,h.wd,?_⟩
 rcases h.cells with h0 | ⟨b,off,hA,hlt,hc⟩
 ·exact .inl h0
 ·exact .inr ⟨b,off,hA,by rw[ho.size];exact hlt,fun j hj=>(ho.cell (p:=⟨b,off+j,none⟩) (hg b off hA)).trans (hc j hj)⟩
structure IntoInv (w wr:World) (g off n V:Nat) (dx:List Nat) (k c:Nat) (zs:List Nat):Prop where
 carry:c<=1
 z:DRow wr g zs
 len:zs.length=n
 wd:Wd zs
 sum:val zs+BB^(off+k)*c=V+BB^off*val (dx.take k)
 only:Only g w wr
theorem into_arith (V P B lo hi x r c T V':Nat) (e:lo+B*hi=r+x+c) (h:V+P*c=T) (hs:V'+P*r=V+P*lo):V'+P*B*hi=T+P*x:=by
 have e2:P*lo+P*B*hi=P*r+P*x+P*c:=by
  rw[Nat.mul_assoc,<- Nat.mul_add,e,Nat.mul_add,Nat.mul_add]
 omega
theorem IntoInv.step {w wr:World} {g off n V:Nat} {dx:List Nat} {k c:Nat} {zs:List Nat} (h:IntoInv w wr g off n V dx k c zs) (hx:Wd dx) (hk:off+k<n) :
  IntoInv w (wr.setCell ⟨g,off+k,none⟩ (.int .u32 (sLo (zs.getD (off+k) 0) (dx.getD k 0) c:Nat))) g off n V dx (k+1) (sHi (zs.getD (off+k) 0) (dx.getD k 0) c) (zs.set (off+k) (sLo (zs.getD (off+k) 0) (dx.getD k 0) c)):=by
 refine ⟨sHi_le (h.wd.getD _) (hx.getD _) h.carry,h.z.set_ _ _,by rw[List.length_set,h.len],h.wd.set (sLo_lt _ _ _),?_,h.only.setCell _ _⟩
 have h1:=val_set zs (k:=off+k) (by rw[h.len];exact hk) (sLo (zs.getD (off+k) 0) (dx.getD k 0) c)
 have h2:=into_arith _ _ _ _ _ _ _ _ _ _ (s_eq (zs.getD (off+k) 0) (dx.getD k 0) c) h.sum h1
 rw[<- Nat.add_assoc,Nat.pow_succ,h2,val_take_succ' dx,Nat.mul_add,Nat.add_assoc,Nat.pow_add,Nat.mul_assoc]
set_option maxHeartbeats 1000000 in
theorem addInto_any (g off zl zc lx cx:Nat) (X:Option Addr) (zs dx:List Nat) (w:World) (hz:DRow w g zs) (hzl:zs.length=off+zl) (hwz:Wd zs) (hx:DigAt w X lx cx dx) (hX:Off g X) (hlz:lx<=zl)
  (hroom:val zs+BB^off*val dx<BB^(off+zl)) (hm:off+zl<=17592186044416) :
  Calls Tryz.prog 85 #[.slice (some ⟨g,off,none⟩) zl zc,.slice X lx cx] w fun e w'=>e=.returned (.tuple #[])/\∃ zs',DRow w' g zs'/\zs'.length=off+zl/\Wd zs'/\val zs'=val zs+BB^off*val dx/\Only g w w':=by
 have hlx:=Lh hx.length
 have hinv:IntoInv w w g off (off+zl) (val zs) dx 0 0 zs:=⟨by omega,hz,hzl,hwz,by simp[val],Only.refl _ _⟩
 have Hroom:=Lh hroom
 clear hz hzl hwz hroom
 go_enter Tryz.func85,Tryz.ntmps85
 go_wp2
 go_loopw [4,10] (fun c i wr=>∃ k c' zs',k<=lx/\i=.int .i64 (k:Nat)/\c=.int .u32 (c':Nat)/\IntoInv w wr g off (off+zl) (val zs) dx k c' zs') (fun _ i _=>lx-(intOf i).toNat)
 case atStart=>exact ⟨0,0,_,Nat.zero_le _,rfl,rfl,hinv⟩
 case round =>
  clear hinv
  obtain ⟨k,c,zs',hk,rfl,rfl,hI⟩:=hrel
  have HI:=Lh hI
  clear hI
  by_cases hlt:k<lx
  ·obtain ⟨b1,o1,rfl,hb1,hc1⟩:=hx.at_ (by omega)
   have hcell1:=(HI.out.only.cell (p:=⟨b1,o1+k,none⟩) (hX b1 o1 rfl)).trans (hc1 k hlt)
   have hd1:dx[k]?.getD 0<4294967296:=by have:=hx.wd.getD k;rwa [List.getD_eq_getElem?_getD,BB_eq] at this
   have hzc:=HI.out.z.cell (i:=off+k) (by rw[HI.out.len];omega)
   have hzf:=HI.out.z.frozen (off+k)
   have hd2:zs'[off+k]?.getD 0<4294967296:=by have:=HI.out.wd.getD (off+k);rwa [List.getD_eq_getElem?_getD,BB_eq] at this
   have Hx:=Lh hx
   clear hx hc1
   go_wp2_with (go_at_call 62;refine (add32_any _ _ c _ hd2 hd1 HI.out.carry).mono ?_;rintro e w2 ⟨rfl,rfl⟩)
   go_roundw
   case rel =>
    have:=HI.out.step Hx.out.wd (by omega)
    simp only[List.getD_eq_getElem?_getD] at this
    exact ⟨k+1,_,_,by omega,by go_num,rfl,this⟩
   case measure=>simp[intOf];omega
  ·have hk2:lx=k:=by omega
   subst hk2
   go_wp2
   go_loopw [4,7] (fun c i wq=>∃ k c' zs',lx<=k/\k<=zl/\i=.int .i64 (k:Nat)/\c=.int .u32 (c':Nat)/\IntoInv w wq g off (off+zl) (val zs) dx k c' zs') (fun _ i _=>zl-(intOf i).toNat)
   case atStart=>exact ⟨lx,c,zs',Nat.le_refl _,hlz,rfl,rfl,HI.out⟩
   case round =>
    clear HI
    obtain ⟨k,c,zs',hk1,hk,rfl,rfl,hI⟩:=hrel
    have HI:=Lh hI
    clear hI
    have Hd1:Hid (dx.getD k 0=0):=by
     show _=_
     rw[List.getD_eq_getElem?_getD,List.getElem?_eq_none (by have:=hlx.out;omega)];rfl
    have Htk:Hid (dx.take k=dx):=List.take_of_length_le (by have:=hlx.out;omega)
    rcases Nat.eq_zero_or_pos c with h0 | h0
    ·subst h0
     go_wp2
     go_end0
     refine ⟨rfl,zs',HI.out.z,HI.out.len,HI.out.wd,?_,HI.out.only⟩
     have:=HI.out.sum
     rw[Htk.out] at this
     simpa using this
    ·have h1:c=1:=by have:=HI.out.carry;omega
     subst h1
     by_cases hlt:k<zl
     ·have hzc:=HI.out.z.cell (i:=off+k) (by rw[HI.out.len];omega)
      have hzf:=HI.out.z.frozen (off+k)
      have hd2:zs'[off+k]?.getD 0<4294967296:=by have:=HI.out.wd.getD (off+k);rwa [List.getD_eq_getElem?_getD,BB_eq] at this
      go_wp2_with (go_at_call 62;refine (add32_any _ 0 1 _ hd2 (by omega) (by omega)).mono ?_;rintro e w2 ⟨rfl,rfl⟩)
      go_roundw
      case rel =>
       have:=HI.out.step hx.wd (by omega)
       rw[Hd1.out] at this
       simp only[List.getD_eq_getElem?_getD] at this
       exact ⟨k+1,_,_,by omega,by omega,by go_num,rfl,this⟩
      case measure=>simp[intOf];omega
     ·exfalso
      have hk2:zl=k:=by omega
      subst hk2
      have h1:=HI.out.sum
      rw[Htk.out,Nat.mul_one] at h1
      have h2:=Hroom.out
      omega
end Go.Proofs.YtpeiiomjnjemjaaGreat
namespace Go.Proofs.YtpeiiomjnjemjaaGreat
open Go.RowKit
theorem DigAt.drop' {w:World} {A:Option Addr} {len cap:Nat} {ds:List Nat} (h:DigAt w A len cap ds) {k:Nat} (hk:k<len):DigAt w (A.map (·.add k)) (len-k) (cap-k) (ds.drop k):=by
 have hc:=h.cap
 refine ⟨by rw[List.length_drop,h.length],by omega,h.wd.drop k,?_⟩
 obtain ⟨b,off,rfl,hlt,hcell⟩:=h.at_ (by omega)
 refine .inr ⟨b,off+k,by simp[Addr.add_lit],hlt,fun j hj=>?_⟩
 rw[Nat.add_assoc,hcell (k+j) (by omega)]
 simp[List.getD_eq_getElem?_getD,List.getElem?_drop]
theorem DigAt.drew {w:World} {A:Option Addr} {len cap:Nat} {ds:List Nat} (h:DigAt w A len cap ds):DigAt w.drew A len cap ds:=h.below (Below.refl _ w).drew
theorem Off.of_lt {g b off:Nat} (h:g<b):Off g (some ⟨b,off,none⟩):=by
 intro b' off' e
 injection e with e
 injection e with e1 _ _
 omega
def ProdPost (w:World) (n v:Nat) (e:Ending) (w':World):Prop :=
 ∃ g zs,e=.returned (.slice (some ⟨g,0,none⟩) n n)/\DRow w' g zs/\zs.length=n/\Wd zs/\val zs=v/\w.heap.size<=g/\Below w.heap.size w w'
def MulOK (_a _b:Nat):Prop:=True
theorem MulOK.symm {a b:Nat} (_h:MulOK a b):MulOK b a:=trivial
end Go.Proofs.YtpeiiomjnjemjaaGreat
