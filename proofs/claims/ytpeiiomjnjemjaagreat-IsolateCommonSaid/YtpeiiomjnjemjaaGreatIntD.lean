/- The walks of package integer, fourth part: Mul. -/
import Derived.Test.YtpeiiomjnjemjaaGreatNatK
import Derived.Deep.RegionWith
import Derived.Deep.RegionHeld3
namespace Go.Proofs.YtpeiiomjnjemjaaGreat
open Go.RowKit
def sg (z:Int):Int:=if z<0 then -1 else if z=0 then 0 else 1
theorem sg_neg {z:Int} (h:z<0):sg z=-1:=if_pos h
theorem sg_pos {z:Int} (h:0<z):sg z=1:=by unfold sg;rw[if_neg (by omega),if_neg (by omega)]
def cmpz (a b:Int):Int:=if a<b then -1 else if a=b then 0 else 1
theorem NatN.intN {w:World} {neg:Bool} {A:Option Addr} {len cap n:Nat} (h:NatN w A len cap n):IntN w (neg && decide (0<len)) A len cap (sgn neg n):=by
 have hl:=h.len
 refine ⟨by rw[sgn_natAbs];exact h,?_⟩
 cases neg
 ·simp[sgn]
 ·rcases Nat.eq_zero_or_pos n with h0 | h0
  ·subst h0
   rw[dlen_zero] at hl
   subst hl
   simp[sgn]
  ·have:0<len:=by
    rcases Nat.eq_zero_or_pos len with h1 | h1
    ·have:=dlen_eq_zero (by omega:dlen n=0);omega
    ·exact h1
   simp[sgn,this];omega
def NoDigit (v:Value):Prop:=∀ k:Int,v≠.int .u32 k
theorem noDigit_bool (b:Bool):NoDigit (.bool b):=fun _ h=>by cases h
theorem noDigit_slice (A:Option Addr) (l c:Nat):NoDigit (.slice A l c):=fun _ h=>by cases h
theorem DigAt.store {w:World} {A:Option Addr} {len cap:Nat} {ds:List Nat} (h:DigAt w A len cap ds) {p:Addr} {v:Value} (u:Value) (hp:w.cell? p=some v) (hv:NoDigit v):DigAt (w.setCell p u) A len cap ds:=by
 refine ⟨h.length,h.cap,h.wd,?_⟩
 rcases h.cells with h0 | ⟨b,off,hA,hlt,hc⟩
 ·exact .inl h0
 ·refine .inr ⟨b,off,hA,by simpa [World.setCell] using hlt,fun j hj=>?_⟩
  rw[World.cell?_setCell_other w p ⟨b,off+j,none⟩ u ?_]
  ·exact hc j hj
  ·intro e
   rw[e,hc j hj] at hp
   injection hp with hp
   exact hv _ hp.symm
theorem NatAt.store {w:World} {A:Option Addr} {len cap n:Nat} (h:NatAt w A len cap n) {p:Addr} {v:Value} (u:Value) (hp:w.cell? p=some v) (hv:NoDigit v):NatAt (w.setCell p u) A len cap n:=by
 obtain ⟨h1,ds,h2,h3⟩:=h
 exact ⟨h1,ds,h2.store u hp hv,h3⟩
theorem NatN.store {w:World} {A:Option Addr} {len cap n:Nat} (h:NatN w A len cap n) {p:Addr} {v:Value} (u:Value) (hp:w.cell? p=some v) (hv:NoDigit v):NatN (w.setCell p u) A len cap n:=⟨h.digits.store u hp hv⟩
theorem IntN.store {w:World} {neg:Bool} {A:Option Addr} {len cap:Nat} {z:Int} (h:IntN w neg A len cap z) {p:Addr} {v:Value} (u:Value) (hp:w.cell? p=some v) (hv:NoDigit v):IntN (w.setCell p u) neg A len cap z:=⟨h.nat.store u hp hv,h.sign⟩
theorem IntAt.store {w:World} {neg:Bool} {A:Option Addr} {len cap:Nat} {z:Int} (h:IntAt w neg A len cap z) {p:Addr} {v:Value} (u:Value) (hp:w.cell? p=some v) (hv:NoDigit v):IntAt (w.setCell p u) neg A len cap z:=⟨h.nat.store u hp hv,h.sign⟩
theorem IntN.ret {w:World} {neg:Bool} {A:Option Addr} {len cap:Nat} {z:Int} (h:IntN w neg A len cap z) {g:Nat} {b0:Bool} {A0:Option Addr} {l0 c0:Nat} (u v:Value) (h0:w.cell? ⟨g,0,none⟩=some (.bool b0)) (h1:w.cell? ⟨g,1,none⟩=some (.slice A0 l0 c0)) :
  IntN ((w.setCell ⟨g,0,none⟩ u).setCell ⟨g,1,none⟩ v) neg A len cap z:=by
 refine (h.store u h0 (noDigit_bool _)).store v (v:=.slice A0 l0 c0) ?_ (noDigit_slice _ _ _)
 rw[World.cell?_setCell_other w _ _ _ (by simp)]
 exact h1
set_option maxHeartbeats 400000 in
theorem signed_any (neg:Bool) (A:Option Addr) (len cap n:Nat) (w:World) (h:NatN w A len cap n) :
  Calls Tryz.prog 32 #[.bool neg,.slice A len cap] w fun e w'=>∃ neg',e=.returned (.agg #[.bool neg',.slice A len cap])/\IntN w' neg' A len cap (sgn neg n)/\Below w.heap.size w w':=by
 have hi:=h.intN (neg:=neg)
 have Hi:=Lh hi
 clear hi h
 cases neg
 ·go_enter Tryz.func32,Tryz.ntmps32
  go_wp2
  exact bodyPost_ret (v:=.agg #[.bool false,.slice A len cap]) (by simp[results,Tryz.results32,go_sem]) rfl ⟨_,rfl,by simpa using Hi.out.below ((Below.refl _ _).alloc (Nat.le_refl _) _),(Below.refl _ _).alloc (Nat.le_refl _) _⟩
 ·go_enter Tryz.func32,Tryz.ntmps32
  go_wp2
  exact bodyPost_ret (v:=.agg #[.bool (decide (0<len)),.slice A len cap]) (by simp[results,Tryz.results32,go_sem]) rfl ⟨_,rfl,by simpa using Hi.out.below ((Below.refl _ _).alloc (Nat.le_refl _) _),(Below.refl _ _).alloc (Nat.le_refl _) _⟩
set_option maxHeartbeats 400000 in
theorem from_any (neg:Bool) (A:Option Addr) (len cap n:Nat) (w:World) (h:NatAt w A len cap n) (hs:Sm n) :
  Calls Tryz.prog 79 #[.bool neg,.slice A len cap] w fun e w'=>∃ neg' A' len' cap',e=.returned (.agg #[.bool neg',.slice A' len' cap'])/\IntN w' neg' A' len' cap' (sgn neg n)/\Below w.heap.size w w':=by
 go_enter Tryz.func79,Tryz.ntmps79
 go_wp2_with fail
 refine (normal_any _ _ _ _ _ (h.below ((Below.refl _ _).alloc (Nat.le_refl _) _)) hs).mono ?_
 rintro e w1 ⟨A1,l1,c1,rfl,h1,hb1⟩
 go_wp2_with fail
 refine (signed_any _ _ _ _ _ _ h1).mono ?_
 rintro e w2 ⟨neg2,rfl,h2,hb2⟩
 have hb3:=hb1.trans (hb2.mono hb1.size)
 obtain ⟨hc,hf⟩:=bcell hb3
 have hz:=hb3.size
 simp only[World.size_alloc] at hz
 have H2:=Lh h2
 have Hb3:=Lh hb3
 clear h2 hb3 hb1 hb2 h1
 have Hc:=Lh hc
 go_wp2
 refine bodyPost_ret (v:=.agg #[.bool neg2,.slice A1 l1 c1]) (by simp[results,Tryz.results79,go_sem,hc]) rfl ⟨_,_,_,_,rfl,H2.out.ret _ _ (b0:=false) (A0:=none) (l0:=0) (c0:=0) ?_ ?_,?_⟩
 ·rw[Hc.out _ _ (by simp)];exact World.cell?_alloc_new _ _ _ _
 ·rw[Hc.out _ _ (by simp)];exact World.cell?_alloc_new _ _ _ _
 ·exact (((Below.refl _ _).alloc (Nat.le_refl _) _).trans (Hb3.out.mono (by simp))).setCell (Nat.le_refl _) _ |>.setCell (Nat.le_refl _) _
set_option maxHeartbeats 400000 in
theorem inormal_any (neg:Bool) (A:Option Addr) (len cap:Nat) (z:Int) (w:World) (h:IntAt w neg A len cap z) (hs:SmI z) :
  Calls Tryz.prog 47 #[.agg #[.bool neg,.slice A len cap]] w fun e w'=>∃ neg' A' len' cap',e=.returned (.agg #[.bool neg',.slice A' len' cap'])/\IntN w' neg' A' len' cap' z/\Below w.heap.size w w':=by
 have hz:=Lh h.sign
 go_enter Tryz.func47,Tryz.ntmps47
 go_wp2_with fail
 have hb0:Below w.heap.size w ((w.alloc (Obj.cells #[Value.bool neg,Value.slice A len cap] 38)).alloc (Obj.cells #[Value.bool false,Value.slice none 0 0] 38)):=((Below.refl _ _).alloc (Nat.le_refl _) _).alloc (by simp) _
 refine (from_any _ _ _ _ _ _ (h.nat.below hb0) hs).mono ?_
 rintro e w1 ⟨neg1,A1,l1,c1,rfl,h1,hb1⟩
 obtain ⟨hc,hf⟩:=bcell hb1
 have hsz:=hb1.size
 simp only[World.size_alloc] at hsz
 rw[<- hz.out] at h1
 have H1:=Lh h1
 have Hb1:=Lh hb1
 have Hb0:=Lh hb0
 have Hc:=Lh hc
 clear h1 hb1 hb0 h
 go_wp2
 refine bodyPost_ret (v:=.agg #[.bool neg1,.slice A1 l1 c1]) (by simp[results,Tryz.results47,go_sem,hc]) rfl ⟨_,_,_,_,rfl,H1.out.ret _ _ (b0:=false) (A0:=none) (l0:=0) (c0:=0) ?_ ?_,?_⟩
 ·rw[Hc.out _ _ (by simp)];simp
 ·rw[Hc.out _ _ (by simp)];simp
 ·exact ((Hb0.out.trans (Hb1.out.mono Hb0.out.size)).setCell (Nat.le_succ _) _).setCell (Nat.le_succ _) _
set_option maxHeartbeats 400000 in
theorem iabs_any (neg:Bool) (A:Option Addr) (len cap:Nat) (z:Int) (w:World) (h:IntAt w neg A len cap z) (hs:SmI z) :
  Calls Tryz.prog 50 #[.agg #[.bool neg,.slice A len cap]] w fun e w'=>∃ neg' A' len' cap',e=.returned (.agg #[.bool neg',.slice A' len' cap'])/\IntN w' neg' A' len' cap' (z.natAbs:Int)/\Below w.heap.size w w':=by
 go_enter Tryz.func50,Tryz.ntmps50
 go_wp2_with fail
 have hb0:Below w.heap.size w ((w.alloc (Obj.cells #[Value.bool neg,Value.slice A len cap] 38)).alloc (Obj.cells #[Value.bool false,Value.slice none 0 0] 38)):=((Below.refl _ _).alloc (Nat.le_refl _) _).alloc (by simp) _
 refine (from_any _ _ _ _ _ _ (h.nat.below hb0) hs).mono ?_
 rintro e w1 ⟨neg1,A1,l1,c1,rfl,h1,hb1⟩
 obtain ⟨hc,hf⟩:=bcell hb1
 have hsz:=hb1.size
 simp only[World.size_alloc] at hsz
 rw[sgn_false] at h1
 have H1:=Lh h1
 have Hb1:=Lh hb1
 have Hb0:=Lh hb0
 have Hc:=Lh hc
 clear h1 hb1 hb0 h
 go_wp2
 refine bodyPost_ret (v:=.agg #[.bool neg1,.slice A1 l1 c1]) (by simp[results,Tryz.results50,go_sem,hc]) rfl ⟨_,_,_,_,rfl,H1.out.ret _ _ (b0:=false) (A0:=none) (l0:=0) (c0:=0) ?_ ?_,?_⟩
 ·rw[Hc.out _ _ (by simp)];simp
 ·rw[Hc.out _ _ (by simp)];simp
 ·exact ((Hb0.out.trans (Hb1.out.mono Hb0.out.size)).setCell (Nat.le_succ _) _).setCell (Nat.le_succ _) _
set_option maxHeartbeats 400000 in
theorem ineg_any (neg:Bool) (A:Option Addr) (len cap:Nat) (z:Int) (w:World) (h:IntAt w neg A len cap z) (hs:SmI z) :
  Calls Tryz.prog 53 #[.agg #[.bool neg,.slice A len cap]] w fun e w'=>∃ neg' A' len' cap',e=.returned (.agg #[.bool neg',.slice A' len' cap'])/\IntN w' neg' A' len' cap' (-z)/\Below w.heap.size w w':=by
 have hz:=Lh h.sign
 go_enter Tryz.func53,Tryz.ntmps53
 go_wp2_with fail
 have hb0:Below w.heap.size w ((w.alloc (Obj.cells #[Value.bool neg,Value.slice A len cap] 38)).alloc (Obj.cells #[Value.bool false,Value.slice none 0 0] 38)):=((Below.refl _ _).alloc (Nat.le_refl _) _).alloc (by simp) _
 refine (from_any _ _ _ _ _ _ (h.nat.below hb0) hs).mono ?_
 rintro e w1 ⟨neg1,A1,l1,c1,rfl,h1,hb1⟩
 obtain ⟨hc,hf⟩:=bcell hb1
 have hsz:=hb1.size
 simp only[World.size_alloc] at hsz
 have e1:sgn (!neg) z.natAbs=-z:=by have:=hz.out;cases neg<;>simp only[sgn_true,sgn_false,Bool.not_true,Bool.not_false] at *<;>omega
 rw[e1] at h1
 have H1:=Lh h1
 have Hb1:=Lh hb1
 have Hb0:=Lh hb0
 have Hc:=Lh hc
 clear h1 hb1 hb0 h
 go_wp2
 refine bodyPost_ret (v:=.agg #[.bool neg1,.slice A1 l1 c1]) (by simp[results,Tryz.results53,go_sem,hc]) rfl ⟨_,_,_,_,rfl,H1.out.ret _ _ (b0:=false) (A0:=none) (l0:=0) (c0:=0) ?_ ?_,?_⟩
 ·rw[Hc.out _ _ (by simp)];simp
 ·rw[Hc.out _ _ (by simp)];simp
 ·exact ((Hb0.out.trans (Hb1.out.mono Hb0.out.size)).setCell (Nat.le_succ _) _).setCell (Nat.le_succ _) _
set_option maxHeartbeats 400000 in
theorem isign_any (neg:Bool) (A:Option Addr) (len cap:Nat) (z:Int) (w:World) (h:IntAt w neg A len cap z) (hs:SmI z) :
  Calls Tryz.prog 31 #[.agg #[.bool neg,.slice A len cap]] w fun e w'=>e=.returned (.int .i64 (sg z))/\w'=w.alloc (Obj.cells #[Value.bool neg,Value.slice A len cap] 38):=by
 have hz:=Lh h.sign
 go_enter Tryz.func31,Tryz.ntmps31
 go_wp2_with fail
 refine (isZero_any _ _ _ _ _ (h.nat.below ((Below.refl _ _).alloc (Nat.le_refl _) _)) hs).mono ?_
 rintro e w1 ⟨rfl,rfl⟩
 clear h
 by_cases h0:z.natAbs=0
 ·rw[show decide (z.natAbs=0)=true from decide_eq_true h0]
  have e0:sg z=0:=by have:z=0:=by omega
                     rw[this];rfl
  have E0:=Lh e0
  clear e0 h0
  go_wp2
  go_ret
  exact ⟨by rw[E0.out];rfl,rfl⟩
 ·rw[show decide (z.natAbs=0)=false from decide_eq_false h0]
  cases neg
  ·have e0:sg z=1:=sg_pos (by have:=hz.out;rw[sgn_false] at this;omega)
   have E0:=Lh e0
   clear e0 h0
   go_wp2
   go_ret
   exact ⟨by rw[E0.out];rfl,rfl⟩
  ·have e0:sg z=-1:=sg_neg (by have:=hz.out;rw[sgn_true] at this;omega)
   have E0:=Lh e0
   clear e0 h0
   go_wp2
   go_ret
   exact ⟨by rw[E0.out];rfl,rfl⟩
def I64 (n:Int):Prop:=-9223372036854775808<=n/\n<=9223372036854775807
theorem u64_neg {n:Int} (h:I64 n) (hn:n<0):IntKind.u64.wrap (-IntKind.u64.wrap n)=((n.natAbs:Nat):Int):=by
 unfold I64 at h
 rw[IntKind.wrap_u64,IntKind.wrap_u64]
 omega
theorem u64_pos {n:Int} (h:I64 n) (hn:¬ n<0):IntKind.u64.wrap n=((n.natAbs:Nat):Int):=by
 unfold I64 at h
 rw[IntKind.wrap_u64]
 omega
theorem u64_abs {n:Int} (h:I64 n):U64 n.natAbs:=by
 unfold I64 at h
 unfold U64
 rw[BB_eq]
 omega
set_option maxHeartbeats 400000 in
theorem iof_any (n:Int) (w:World) (h:I64 n) :
  Calls Tryz.prog 13 #[.int .i64 n] w fun e w'=>∃ neg' A' len' cap',e=.returned (.agg #[.bool neg',.slice A' len' cap'])/\IntN w' neg' A' len' cap' n/\Below w.heap.size w w':=by
 have hu:=u64_abs h
 by_cases hn:n<0
 ·have hw:=Lh (u64_neg h hn)
  have hs:true=decide (n<0):=by simp[hn]
  have Hs:=Lh hs
  clear hs h
  go_enter Tryz.func13,Tryz.ntmps13
  go_wp2_with fail
  rw[hw.out]
  refine (of_any _ _ hu).mono ?_
  rintro e w1 ⟨A1,l1,c1,rfl,h1,hb1⟩
  obtain ⟨hc,hf⟩:=bcell hb1
  have hsz:=hb1.size
  simp only[World.size_alloc] at hsz
  have H1:Hid (IntN w1 true A1 l1 c1 n):=⟨h1,Hs.out⟩
  have Hb1:=Lh hb1
  have Hc:=Lh hc
  clear h1 hb1 hu
  go_wp2
  refine bodyPost_ret (v:=.agg #[.bool true,.slice A1 l1 c1]) (by simp[results,Tryz.results13,go_sem,hc]) rfl ⟨_,_,_,_,rfl,H1.out.ret _ _ (b0:=false) (A0:=none) (l0:=0) (c0:=0) ?_ ?_,?_⟩
  ·rw[Hc.out _ _ (by simp)];simp
  ·rw[Hc.out _ _ (by simp)];simp
  ·exact (((Below.refl _ _).alloc (Nat.le_refl _) _).trans (Hb1.out.mono (by simp))).setCell (Nat.le_refl _) _ |>.setCell (Nat.le_refl _) _
 ·have hw:=Lh (u64_pos h hn)
  have hs:false=decide (n<0):=by simp;omega
  have Hs:=Lh hs
  clear hs h
  go_enter Tryz.func13,Tryz.ntmps13
  go_wp2_with fail
  rw[hw.out]
  refine (of_any _ _ hu).mono ?_
  rintro e w1 ⟨A1,l1,c1,rfl,h1,hb1⟩
  obtain ⟨hc,hf⟩:=bcell hb1
  have hsz:=hb1.size
  simp only[World.size_alloc] at hsz
  have H1:Hid (IntN w1 false A1 l1 c1 n):=⟨h1,Hs.out⟩
  have Hb1:=Lh hb1
  have Hc:=Lh hc
  clear h1 hb1 hu
  go_wp2
  refine bodyPost_ret (v:=.agg #[.bool false,.slice A1 l1 c1]) (by simp[results,Tryz.results13,go_sem,hc]) rfl ⟨_,_,_,_,rfl,H1.out.ret _ _ (b0:=false) (A0:=none) (l0:=0) (c0:=0) ?_ ?_,?_⟩
  ·rw[Hc.out _ _ (by simp)];simp
  ·rw[Hc.out _ _ (by simp)];simp
  ·exact (((Below.refl _ _).alloc (Nat.le_refl _) _).trans (Hb1.out.mono (by simp))).setCell (Nat.le_refl _) _ |>.setCell (Nat.le_refl _) _
end Go.Proofs.YtpeiiomjnjemjaaGreat
namespace Go.Proofs.YtpeiiomjnjemjaaGreat
open Go.RowKit
abbrev ibox (neg:Bool) (A:Option Addr) (len cap:Nat):Obj:=.cells #[.bool neg,.slice A len cap] 38
theorem sg_cases (z:Int):(z<0/\sg z=-1)∨(z=0/\sg z=0)∨(0<z/\sg z=1):=by
 rcases Int.lt_trichotomy z 0 with h | h | h
 ·exact .inl ⟨h,sg_neg h⟩
 ·subst h;exact .inr (.inl ⟨rfl,rfl⟩)
 ·exact .inr (.inr ⟨h,sg_pos h⟩)
theorem cmpz_of_sg_lt {a b:Int} (h:sg a<sg b):cmpz a b=-1:=by
 rcases sg_cases a with ⟨h1,h2⟩ | ⟨h1,h2⟩ | ⟨h1,h2⟩<;>rcases sg_cases b with ⟨h3,h4⟩ | ⟨h3,h4⟩ | ⟨h3,h4⟩<;>rw[h2,h4] at h<;>first | omega | (unfold cmpz;rw[if_pos (by omega)])
theorem cmpz_of_sg_gt {a b:Int} (h:sg b<sg a):cmpz a b=1:=by
 rcases sg_cases a with ⟨h1,h2⟩ | ⟨h1,h2⟩ | ⟨h1,h2⟩<;>rcases sg_cases b with ⟨h3,h4⟩ | ⟨h3,h4⟩ | ⟨h3,h4⟩<;>rw[h2,h4] at h<;>first | omega | (unfold cmpz;rw[if_neg (by omega),if_neg (by omega)])
theorem cmpz_eq_cmpn {a b:Int} {x y:Nat} (h1:a<b↔x<y) (h2:a=b↔x=y):cmpz a b=cmpn x y:=by
 unfold cmpz cmpn
 by_cases c1:a<b
 ·rw[if_pos c1,if_pos (h1.1 c1)]
 ·rw[if_neg c1,if_neg (fun h=>c1 (h1.2 h))]
  by_cases c2:a=b
  ·rw[if_pos c2,if_pos (h2.1 c2)]
  ·rw[if_neg c2,if_neg (fun h=>c2 (h2.2 h))]
theorem cmpz_of_neg {a b:Int} (h:sg a=sg b) (hn:sg a<0):cmpz a b=cmpn b.natAbs a.natAbs:=by
 rcases sg_cases a with ⟨h1,h2⟩ | ⟨h1,h2⟩ | ⟨h1,h2⟩<;>rcases sg_cases b with ⟨h3,h4⟩ | ⟨h3,h4⟩ | ⟨h3,h4⟩<;>rw[h2] at hn<;>rw[h2,h4] at h<;>first | omega | exact cmpz_eq_cmpn (by omega) (by omega)
theorem cmpz_of_pos {a b:Int} (h:sg a=sg b) (hn:¬ sg a<0):cmpz a b=cmpn a.natAbs b.natAbs:=by
 rcases sg_cases a with ⟨h1,h2⟩ | ⟨h1,h2⟩ | ⟨h1,h2⟩<;>rcases sg_cases b with ⟨h3,h4⟩ | ⟨h3,h4⟩ | ⟨h3,h4⟩<;>rw[h2] at hn<;>rw[h2,h4] at h<;>first | omega | exact cmpz_eq_cmpn (by omega) (by omega)
theorem below_two {B:Nat} (w:World) (o1 o2:Obj) (h:B<=w.heap.size):Below B w ((w.alloc o1).alloc o2):=((Below.refl _ _).alloc h _).alloc (by simp;omega) _
set_option maxHeartbeats 1000000 in
theorem icmp_any (na:Bool) (A:Option Addr) (la ca:Nat) (a:Int) (nb:Bool) (B:Option Addr) (lb cb:Nat) (b:Int) (w:World) (ha:IntAt w na A la ca a) (hb:IntAt w nb B lb cb b) (hsa:SmI a) (hsb:SmI b) :
  Calls Tryz.prog 42 #[.agg #[.bool na,.slice A la ca],.agg #[.bool nb,.slice B lb cb]] w fun e w'=>e=.returned (.int .i64 (cmpz a b))/\Below w.heap.size w w':=by
 go_enter Tryz.func42,Tryz.ntmps42
 go_wp2_with fail
 go_cut [5,6] (fun s5 s6 wx=>s5=.int .i64 (sg a)/\s6=.int .i64 (sg b)/\wx.cell? ⟨w.heap.size,1,none⟩=some (.slice A la ca)/\wx.cell? ⟨w.heap.size+1,1,none⟩=some (.slice B lb cb)/\Below w.heap.size w wx)
 case first =>
  go_region_with (first
   | (go_at_call_of 31 (Value.slice A la ca);go_must (refine (isign_any _ _ _ _ _ _ ?_ hsa).mono ?_;(exact ha.below (by repeat (first | exact Below.refl _ _ | refine Below.drew ?_ | refine Below.alloc ?_ (by simp;try omega) _)));rintro e w' ⟨rfl,rfl⟩))
   | (go_at_call_of 31 (Value.slice B lb cb);go_must (refine (isign_any _ _ _ _ _ _ ?_ hsb).mono ?_;(exact hb.below (by repeat (first | exact Below.refl _ _ | refine Below.drew ?_ | refine Below.alloc ?_ (by simp;try omega) _)));rintro e w' ⟨rfl,rfl⟩)))
  all_goals go_wp2_with fail
  all_goals go_meet
  all_goals
   refine ⟨rfl,rfl,by go_simp,by go_simp,?_⟩
   repeat (first | exact Below.refl _ _ | refine Below.drew ?_ | refine Below.alloc ?_ (by simp;try omega) _)
 case rest =>
  obtain ⟨rfl,rfl,hcA,hcB,hbw⟩:=hcut
  rcases Int.lt_trichotomy (sg a) (sg b) with h | h | h
  ·have hfin:=Lh (cmpz_of_sg_lt h)
   have Hb:=Lh hbw
   clear ha hb hbw
   go_wp2
   go_ret
   exact ⟨by rw[hfin.out];rfl,Hb.out⟩
  ·have HA:=Lh (ha.nat.below hbw)
   have HB:=Lh (hb.nat.below hbw)
   have H:=Lh h
   have Hb:=Lh hbw
   clear ha hb hbw
   have h1:¬ sg a<sg b:=by omega
   have h2:¬ sg b<sg a:=by omega
   clear h
   by_cases hn:sg a<0
   ·have hfin:=Lh (cmpz_of_neg H.out hn)
    go_wp2_with fail
    refine (cmp_any _ _ _ _ _ _ _ _ _ HB.out HA.out hsb hsa).mono ?_
    rintro e w1 ⟨rfl,nq,rfl⟩
    go_wp2
    go_ret
    exact ⟨by rw[hfin.out];rfl,Hb.out.trans ⟨rfl,rfl,rfl,Nat.le_refl _,fun _ _=>rfl⟩⟩
   ·have hfin:=Lh (cmpz_of_pos H.out hn)
    go_wp2_with fail
    refine (cmp_any _ _ _ _ _ _ _ _ _ HA.out HB.out hsa hsb).mono ?_
    rintro e w1 ⟨rfl,nq,rfl⟩
    go_wp2
    go_ret
    exact ⟨by rw[hfin.out];rfl,Hb.out.trans ⟨rfl,rfl,rfl,Nat.le_refl _,fun _ _=>rfl⟩⟩
  ·have hfin:=Lh (cmpz_of_sg_gt h)
   have Hb:=Lh hbw
   clear ha hb hbw
   go_wp2
   go_ret
   exact ⟨by rw[hfin.out];rfl,Hb.out⟩
set_option maxHeartbeats 400000 in
theorem isame_any (na:Bool) (A:Option Addr) (la ca:Nat) (a:Int) (nb:Bool) (B:Option Addr) (lb cb:Nat) (b:Int) (w:World) (ha:IntAt w na A la ca a) (hb:IntAt w nb B lb cb b) (hsa:SmI a) (hsb:SmI b) :
  Calls Tryz.prog 88 #[.agg #[.bool na,.slice A la ca],.agg #[.bool nb,.slice B lb cb]] w fun e w'=>e=.returned (.bool (decide (a=b)))/\Below w.heap.size w w':=by
 have hb0:Below w.heap.size w ((w.alloc (ibox na A la ca)).alloc (ibox nb B lb cb)):=below_two w _ _ (Nat.le_refl _)
 go_enter Tryz.func88,Tryz.ntmps88
 go_wp2_with fail
 refine (icmp_any _ _ _ _ _ _ _ _ _ _ _ (ha.below hb0) (hb.below hb0) hsa hsb).mono ?_
 rintro e w1 ⟨rfl,hb1⟩
 have Hb1:=Lh (hb0.trans (hb1.mono hb0.size))
 clear hb1 hb0 ha hb
 go_wp2
 go_ret
 refine ⟨?_,Hb1.out⟩
 have e1:(cmpz a b == 0)=decide (a=b):=by
  unfold cmpz
  by_cases h1:a<b
  ·rw[if_pos h1,decide_eq_false (by omega)];rfl
  ·rw[if_neg h1]
   by_cases h2:a=b
   ·rw[if_pos h2,decide_eq_true h2];rfl
   ·rw[if_neg h2,decide_eq_false h2];rfl
 rw[<- e1];rfl
end Go.Proofs.YtpeiiomjnjemjaaGreat
namespace Go.Proofs.YtpeiiomjnjemjaaGreat
open Go.RowKit
theorem add_same (neg:Bool) {a b:Int} (ha:a=sgn neg a.natAbs) (hb:b=sgn neg b.natAbs):sgn neg (a.natAbs+b.natAbs)=a+b:=by
 cases neg
 ·simp only[sgn_false] at *;omega
 ·simp only[sgn_true] at *;omega
theorem add_ge (na nb:Bool) {a b:Int} (hn:na≠nb) (ha:a=sgn na a.natAbs) (hb:b=sgn nb b.natAbs) (h:b.natAbs<=a.natAbs):sgn na (a.natAbs-b.natAbs)=a+b:=by
 cases na<;>cases nb<;>simp only[sgn_true,sgn_false,ne_eq,not_true,reduceCtorEq,not_false_eq_true] at *<;>omega
theorem add_lt (na nb:Bool) {a b:Int} (hn:na≠nb) (ha:a=sgn na a.natAbs) (hb:b=sgn nb b.natAbs) (h:a.natAbs<b.natAbs):sgn nb (b.natAbs-a.natAbs)=a+b:=by
 cases na<;>cases nb<;>simp only[sgn_true,sgn_false,ne_eq,not_true,reduceCtorEq,not_false_eq_true] at *<;>omega
theorem below_three {B:Nat} (w:World) (o1 o2 o3:Obj) (h:B<=w.heap.size):Below B w (((w.alloc o1).alloc o2).alloc o3):=(below_two w o1 o2 h).alloc (by simp;omega) _
set_option maxHeartbeats 2000000 in
theorem iadd_any (na:Bool) (A:Option Addr) (la ca:Nat) (a:Int) (nb:Bool) (B:Option Addr) (lb cb:Nat) (b:Int) (w:World) (ha:IntAt w na A la ca a) (hb:IntAt w nb B lb cb b) (hsa:SmI a) (hsb:SmI b) (hs:Sm (a.natAbs+b.natAbs)) :
  Calls Tryz.prog 16 #[.agg #[.bool na,.slice A la ca],.agg #[.bool nb,.slice B lb cb]] w fun e w'=>∃ neg' A' len' cap',e=.returned (.agg #[.bool neg',.slice A' len' cap'])/\IntN w' neg' A' len' cap' (a+b)/\Below w.heap.size w w':=by
 have hb0:Below w.heap.size w (((w.alloc (ibox na A la ca)).alloc (ibox nb B lb cb)).alloc (ibox false none 0 0)):=below_three w _ _ _ (Nat.le_refl _)
 have hA0:=ha.nat.below hb0
 have hB0:=hb.nat.below hb0
 by_cases hn:na=nb
 ·subst hn
  have hsum:=Lh (add_same na ha.sign hb.sign)
  have Hb0:=Lh hb0
  clear ha hb hb0
  have hd:(na == na)=true:=by simp
  go_enter Tryz.func16,Tryz.ntmps16
  go_wp2_with fail
  have hA1:=hA0.below (Below.refl _ _).drew
  have hB1:=hB0.below (Below.refl _ _).drew
  clear hA0 hB0
  go_region_held3 (fun w'=>w'.cell? ⟨w.heap.size,0,none⟩=some (.bool na)/\w'.cell? ⟨w.heap.size,1,none⟩=some (.slice A la ca)/\w'.cell? ⟨w.heap.size+1,1,none⟩=some (.slice B lb cb)) (refine ⟨?_,?_,?_⟩<;>go_simp) (first
   | (go_at_call 33;go_must (refine (add_any _ _ _ _ _ _ _ _ _ hA1 hB1 hs).mono ?_;rintro e w1 ⟨A1,l1,c1,rfl,h1,hb1⟩;obtain ⟨hc,hf⟩:=bcell hb1;have hsz:=hb1.size;simp only[World.size_alloc,World.size_drew] at hsz))
   | (go_at_call 32;go_must (refine (signed_any _ _ _ _ _ _ h1).mono ?_;rintro e w2 ⟨n2,rfl,h2,hb2⟩;clear hc hf;have hb3:=hb1.trans (hb2.mono hb1.size);obtain ⟨hc,hf⟩:=bcell hb3;have hsz2:=hb2.size)))
  have H2:=Lh h2
  have Hb3:=Lh hb3
  have Hc:=Lh hc
  rw[hsum.out] at H2
  clear h2 hb3 hb1 hb2 h1 hA1 hB1
  go_wp2
  refine bodyPost_ret (v:=.agg #[.bool n2,.slice A1 l1 c1]) (by simp[results,Tryz.results16,go_sem,hc]) rfl ⟨_,_,_,_,rfl,H2.out.ret _ _ (b0:=false) (A0:=none) (l0:=0) (c0:=0) ?_ ?_,?_⟩
  ·rw[Hc.out _ _ (by simp)];go_simp
  ·rw[Hc.out _ _ (by simp)];go_simp
  ·exact ((Hb0.out.trans (((Below.refl _ _).drew.trans Hb3.out).mono Hb0.out.size)).setCell (by simp;omega) _).setCell (by simp;omega) _
 ·have hd:(na == nb)=false:=by simpa using hn
  have Hn:=Lh hn
  have Hb0:=Lh hb0
  have hsa0:=ha.sign
  have hsb0:=hb.sign
  have Hsa:=Lh hsa0
  have Hsb:=Lh hsb0
  clear ha hb hb0 hn hsa0 hsb0
  by_cases hle:b.natAbs<=a.natAbs
  ·have hcm:0<=cmpn a.natAbs b.natAbs:=by unfold cmpn;rw[if_neg (by omega)];split<;>omega
   have hsum:=Lh (add_ge na nb Hn.out Hsa.out Hsb.out hle)
   go_enter Tryz.func16,Tryz.ntmps16
   go_wp2_with fail
   refine (cmp_any _ _ _ _ _ _ _ _ _ hA0 hB0 hsa hsb).mono ?_
   rintro e w1 ⟨rfl,nq,rfl⟩
   have hbq:Below (((w.alloc (ibox na A la ca)).alloc (ibox nb B lb cb)).alloc (ibox false none 0 0)).heap.size (((w.alloc (ibox na A la ca)).alloc (ibox nb B lb cb)).alloc (ibox false none 0 0)) ((((w.alloc (ibox na A la ca)).alloc (ibox nb B lb cb)).alloc (ibox false none 0 0)).drewN nq):=⟨rfl,rfl,rfl,Nat.le_refl _,fun _ _=>rfl⟩
   have hA1:=hA0.below hbq
   have hB1:=hB0.below hbq
   have Hbq:=Lh hbq
   clear hA0 hB0 hbq
   go_wp2_with fail
   refine (sub_ge _ _ _ _ _ _ _ _ _ hA1 hB1 hsa hle).mono ?_
   rintro e w2 ⟨A1,l1,c1,rfl,h1,hb1⟩
   clear hcm hA1 hB1
   obtain ⟨hc,hf⟩:=bcell (Hbq.out.trans (hb1.mono Hbq.out.size))
   have hsz:(((w.alloc (ibox na A la ca)).alloc (ibox nb B lb cb)).alloc (ibox false none 0 0)).heap.size<=w2.heap.size:=hb1.size
   simp only[World.size_alloc] at hsz
   go_wp2_with fail
   refine (signed_any _ _ _ _ _ _ h1).mono ?_
   rintro e w3 ⟨n2,rfl,h2,hb2⟩
   clear hc hf
   have hb3:=Hbq.out.trans ((hb1.trans (hb2.mono hb1.size)).mono Hbq.out.size)
   obtain ⟨hc,hf⟩:=bcell hb3
   have hsz2:=hb2.size
   have H2:=Lh h2
   have Hb3:=Lh hb3
   have Hc:=Lh hc
   rw[hsum.out] at H2
   clear h2 hb3 hb1 hb2 h1
   go_wp2
   refine bodyPost_ret (v:=.agg #[.bool n2,.slice A1 l1 c1]) (by simp[results,Tryz.results16,go_sem,hc]) rfl ⟨_,_,_,_,rfl,H2.out.ret _ _ (b0:=false) (A0:=none) (l0:=0) (c0:=0) ?_ ?_,?_⟩
   ·rw[Hc.out _ _ (by simp)];go_simp
   ·rw[Hc.out _ _ (by simp)];go_simp
   ·exact ((Hb0.out.trans (Hb3.out.mono Hb0.out.size)).setCell (by simp;omega) _).setCell (by simp;omega) _
  ·have hcm:cmpn a.natAbs b.natAbs<0:=by rw[cmpn_lt (by omega)];omega
   have hsum:=Lh (add_lt na nb Hn.out Hsa.out Hsb.out (by omega))
   go_enter Tryz.func16,Tryz.ntmps16
   go_wp2_with fail
   refine (cmp_any _ _ _ _ _ _ _ _ _ hA0 hB0 hsa hsb).mono ?_
   rintro e w1 ⟨rfl,nq,rfl⟩
   have hbq:Below (((w.alloc (ibox na A la ca)).alloc (ibox nb B lb cb)).alloc (ibox false none 0 0)).heap.size (((w.alloc (ibox na A la ca)).alloc (ibox nb B lb cb)).alloc (ibox false none 0 0)) ((((w.alloc (ibox na A la ca)).alloc (ibox nb B lb cb)).alloc (ibox false none 0 0)).drewN nq):=⟨rfl,rfl,rfl,Nat.le_refl _,fun _ _=>rfl⟩
   have hA1:=hA0.below hbq
   have hB1:=hB0.below hbq
   have Hbq:=Lh hbq
   clear hA0 hB0 hbq
   go_wp2_with fail
   refine (sub_ge _ _ _ _ _ _ _ _ _ hB1 hA1 hsb (by omega)).mono ?_
   rintro e w2 ⟨A1,l1,c1,rfl,h1,hb1⟩
   clear hcm hA1 hB1
   obtain ⟨hc,hf⟩:=bcell (Hbq.out.trans (hb1.mono Hbq.out.size))
   have hsz:(((w.alloc (ibox na A la ca)).alloc (ibox nb B lb cb)).alloc (ibox false none 0 0)).heap.size<=w2.heap.size:=hb1.size
   simp only[World.size_alloc] at hsz
   go_wp2_with fail
   refine (signed_any _ _ _ _ _ _ h1).mono ?_
   rintro e w3 ⟨n2,rfl,h2,hb2⟩
   clear hc hf
   have hb3:=Hbq.out.trans ((hb1.trans (hb2.mono hb1.size)).mono Hbq.out.size)
   obtain ⟨hc,hf⟩:=bcell hb3
   have hsz2:=hb2.size
   have H2:=Lh h2
   have Hb3:=Lh hb3
   have Hc:=Lh hc
   rw[hsum.out] at H2
   clear h2 hb3 hb1 hb2 h1
   go_wp2
   refine bodyPost_ret (v:=.agg #[.bool n2,.slice A1 l1 c1]) (by simp[results,Tryz.results16,go_sem,hc]) rfl ⟨_,_,_,_,rfl,H2.out.ret _ _ (b0:=false) (A0:=none) (l0:=0) (c0:=0) ?_ ?_,?_⟩
   ·rw[Hc.out _ _ (by simp)];go_simp
   ·rw[Hc.out _ _ (by simp)];go_simp
   ·exact ((Hb0.out.trans (Hb3.out.mono Hb0.out.size)).setCell (by simp;omega) _).setCell (by simp;omega) _
theorem IntAt.neg {w:World} {neg:Bool} {A:Option Addr} {len cap:Nat} {z:Int} (h:IntAt w neg A len cap z):IntAt w (!neg) A len cap (-z):=by
 refine ⟨by rw[Int.natAbs_neg];exact h.nat,?_⟩
 have:=h.sign
 rw[Int.natAbs_neg]
 cases neg<;>simp only[sgn_true,sgn_false,Bool.not_true,Bool.not_false] at *<;>omega
set_option maxHeartbeats 1000000 in
theorem isub_any (na:Bool) (A:Option Addr) (la ca:Nat) (a:Int) (nb:Bool) (B:Option Addr) (lb cb:Nat) (b:Int) (w:World) (ha:IntAt w na A la ca a) (hb:IntAt w nb B lb cb b) (hsa:SmI a) (hsb:SmI b) (hs:Sm (a.natAbs+b.natAbs)) :
  Calls Tryz.prog 54 #[.agg #[.bool na,.slice A la ca],.agg #[.bool nb,.slice B lb cb]] w fun e w'=>∃ neg' A' len' cap',e=.returned (.agg #[.bool neg',.slice A' len' cap'])/\IntN w' neg' A' len' cap' (a-b)/\Below w.heap.size w w':=by
 have hb0:Below w.heap.size w (((w.alloc (ibox na A la ca)).alloc (ibox nb B lb cb)).alloc (ibox false none 0 0)):=below_three w _ _ _ (Nat.le_refl _)
 have hA0:=ha.below hb0
 have hB0:=(hb.below hb0).neg
 have Hb0:=Lh hb0
 clear ha hb hb0
 go_enter Tryz.func54,Tryz.ntmps54
 go_wp2_with fail
 refine (iadd_any _ _ _ _ _ _ _ _ _ _ _ hA0 hB0 hsa (by unfold SmI at *;rw[Int.natAbs_neg];exact hsb) (by rw[Int.natAbs_neg];exact hs)).mono ?_
 rintro e w1 ⟨n1,A1,l1,c1,rfl,h1,hb1⟩
 obtain ⟨hc,hf⟩:=bcell hb1
 have hsz:=hb1.size
 simp only[World.size_alloc] at hsz
 have H1:Hid (IntN w1 n1 A1 l1 c1 (a-b)):=by rw[<- Int.sub_eq_add_neg] at h1;exact h1
 have Hb1:=Lh hb1
 have Hc:=Lh hc
 clear h1 hb1 hA0 hB0
 go_wp2
 refine bodyPost_ret (v:=.agg #[.bool n1,.slice A1 l1 c1]) (by simp[results,Tryz.results54,go_sem,hc]) rfl ⟨_,_,_,_,rfl,H1.out.ret _ _ (b0:=false) (A0:=none) (l0:=0) (c0:=0) ?_ ?_,?_⟩
 ·rw[Hc.out _ _ (by simp)];go_simp
 ·rw[Hc.out _ _ (by simp)];go_simp
 ·exact ((Hb0.out.trans (Hb1.out.mono Hb0.out.size)).setCell (by simp;omega) _).setCell (by simp;omega) _
end Go.Proofs.YtpeiiomjnjemjaaGreat
namespace Go.Proofs.YtpeiiomjnjemjaaGreat
open Go.RowKit
theorem mul_sgn (na nb:Bool) {a b:Int} (ha:a=sgn na a.natAbs) (hb:b=sgn nb b.natAbs):sgn (!(na == nb)) (a.natAbs*b.natAbs)=a*b:=by
 have h1:((a.natAbs*b.natAbs:Nat):Int)=(a.natAbs:Int)*(b.natAbs:Int):=Int.natCast_mul _ _
 generalize a.natAbs=x at *
 generalize b.natAbs=y at *
 subst ha hb
 cases na<;>cases nb<;>simp[sgn,h1,Int.neg_mul,Int.mul_neg]
set_option maxHeartbeats 1000000 in
theorem imul_any (na:Bool) (A:Option Addr) (la ca:Nat) (a:Int) (nb:Bool) (B:Option Addr) (lb cb:Nat) (b:Int) (w:World) (ha:IntAt w na A la ca a) (hb:IntAt w nb B lb cb b) (hsa:SmI a) (hsb:SmI b) (hk:MulOK a.natAbs b.natAbs) :
  Calls Tryz.prog 17 #[.agg #[.bool na,.slice A la ca],.agg #[.bool nb,.slice B lb cb]] w fun e w'=>∃ neg' A' len' cap',e=.returned (.agg #[.bool neg',.slice A' len' cap'])/\IntN w' neg' A' len' cap' (a*b)/\Below w.heap.size w w':=by
 have hb0:Below w.heap.size w (((w.alloc (ibox na A la ca)).alloc (ibox nb B lb cb)).alloc (ibox false none 0 0)):=below_three w _ _ _ (Nat.le_refl _)
 have hA1:=(ha.nat.below hb0).below (Below.refl _ _).drew
 have hB1:=(hb.nat.below hb0).below (Below.refl _ _).drew
 have hsum:=Lh (mul_sgn na nb ha.sign hb.sign)
 have Hb0:=Lh hb0
 clear ha hb hb0
 go_enter Tryz.func17,Tryz.ntmps17
 go_wp2_with fail
 go_region_held3 (fun w'=>w'.cell? ⟨w.heap.size,0,none⟩=some (.bool na)/\w'.cell? ⟨w.heap.size,1,none⟩=some (.slice A la ca)/\w'.cell? ⟨w.heap.size+1,0,none⟩=some (.bool nb)/\w'.cell? ⟨w.heap.size+1,1,none⟩=some (.slice B lb cb)) (refine ⟨?_,?_,?_,?_⟩<;>go_simp) (first
   | (go_at_call 36;go_must (refine (mul_any _ _ _ _ _ _ _ _ _ hA1 hB1 hsa hsb hk).mono ?_;rintro e w1 ⟨A1,l1,c1,rfl,h1,hb1⟩;obtain ⟨hc,hf⟩:=bcell hb1;have hsz:=hb1.size;simp only[World.size_alloc,World.size_drew] at hsz))
   | (go_at_call 32;go_must (refine (signed_any _ _ _ _ _ _ h1).mono ?_;rintro e w2 ⟨n2,rfl,h2,hb2⟩;clear hc hf;have hb3:=hb1.trans (hb2.mono hb1.size);obtain ⟨hc,hf⟩:=bcell hb3;have hsz2:=hb2.size)))
 have H2:=Lh h2
 have Hb3:=Lh hb3
 have Hc:=Lh hc
 rw[hsum.out] at H2
 clear h2 hb3 hb1 hb2 h1 hA1 hB1
 go_wp2
 refine bodyPost_ret (v:=.agg #[.bool n2,.slice A1 l1 c1]) (by simp[results,Tryz.results17,go_sem,hc]) rfl ⟨_,_,_,_,rfl,H2.out.ret _ _ (b0:=false) (A0:=none) (l0:=0) (c0:=0) ?_ ?_,?_⟩
 ·rw[Hc.out _ _ (by simp)];go_simp
 ·rw[Hc.out _ _ (by simp)];go_simp
 ·exact ((Hb0.out.trans (((Below.refl _ _).drew.trans Hb3.out).mono Hb0.out.size)).setCell (by simp;omega) _).setCell (by simp;omega) _
end Go.Proofs.YtpeiiomjnjemjaaGreat
