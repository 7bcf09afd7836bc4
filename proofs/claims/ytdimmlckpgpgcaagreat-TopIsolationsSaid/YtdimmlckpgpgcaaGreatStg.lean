/- The walks of cylinderlaw15.changes and of sturm.Variations. -/
import Derived.Test.YtdimmlckpgpgcaaGreatSte
namespace Go.Proofs.YtdimmlckpgpgcaaGreat
open Go.RowKit
end Go.Proofs.YtdimmlckpgpgcaaGreat
namespace Go.Proofs.YtdimmlckpgpgcaaGreat
end Go.Proofs.YtdimmlckpgpgcaaGreat
namespace Go.Proofs.YtdimmlckpgpgcaaGreat
open Go.RowKit
def sat (z:Int) (q:Nat) (f:List Int):Int:=sg (aoH f (z.tdiv (Nat.gcd z.natAbs q)) ((q / Nat.gcd z.natAbs q:Nat):Int))
theorem amY (z:Int) (q:Nat) (f:List Int):sat z q f=-1∨sat z q f=0∨sat z q f=1:=by
 unfold sat
 rcases aar (aoH f (z.tdiv (Nat.gcd z.natAbs q)) ((q / Nat.gcd z.natAbs q:Nat):Int)) with ⟨_,e⟩ | ⟨_,e⟩ | ⟨_,e⟩<;>omega
structure avr (z:Int) (q:Nat):Prop where
 u:Fit z
 v:Fit (q:Int)
 pos:0<q
 fz:Fit (z.tdiv (Nat.gcd z.natAbs q))
 fq:Fit ((q / Nat.gcd z.natAbs q:Nat):Int)
structure alN (z:Int) (q:Nat) (p:List Int):Prop where
 fit:abH p
 len:p.length<=1000000
 ok:axj p (z.tdiv (Nat.gcd z.natAbs q)) ((q / Nat.gcd z.natAbs q:Nat):Int)
theorem arS (A:Option Addr) (len cap:Nat) (p:List Int) (gm:Nat) (n:Bool) (N:Option Addr) (nl nc:Nat) (B:Option Addr) (m d q:Nat) (z:Int) (w:World) (h:acG w A len cap p) (hR:abV w gm n N nl nc B m d z q) (ha:avr z q) (hp:alN z q p) :
  Calls Tryz.prog 76 #[.slice A len cap,.pointer (some ⟨gm,0,none⟩)] w fun e w'=>e=.returned (.int .i64 (sat z q p))/\Below w.heap.size w w':=by
 have r0:=hR.c0
 have r1:=hR.c1
 have r2:=hR.c2
 have HR:=Lh hR
 clear hR
 go_enter Tryz.func76,Tryz.ntmps76
 go_wp2_with fail
 refine (acA afR _ _ _ _ _ _ _ _ _ _ _ _ _ _ h hp.fit (by rw[<- h.length];exact hp.len) HR.out.hz HR.out.hq ha.u ha.v ha.pos hp.ok ha.fz ha.fq).mono ?_
 rintro e w1 ⟨rfl,hb⟩
 have Hb:=Lh hb
 clear h hb HR r0 r1 r2
 go_wp2
 go_ret
 exact ⟨rfl,Hb.out⟩
set_option maxHeartbeats 400000 in
theorem ajf (A:Option Addr) (len cap:Nat) (ps:List (List Int)) (n:Bool) (N:Option Addr) (nl nc:Nat) (B:Option Addr) (m d q:Nat) (z:Int) (w:World) (h:ajX w A len cap ps) (hz:aaE w n N nl nc z) (hq:aaW w B m d q) (ha:avr z q) (hs:∀ p∈ps,alN z q p) (hl:len<=1000000) :
  Calls Tryz.prog 47 #[.slice A len cap,.agg #[.bool n,.slice N nl nc,.slice B m d]] w fun e w'=>e=.returned (.int .i64 ((vst (ps.map (sat z q)) len).1:Nat))/\Below w.heap.size w w':=by
 have hba:Below w.heap.size w (w.alloc (aaV n N nl nc B m d)):=(Below.refl _ _).alloc (Nat.le_refl _) _
 have h1:=h.below hba
 have hlen:=h.length
 have HR:=Lh (abV.make hz hq)
 have Hba:=Lh hba
 have hcall:∀ k,k<len->∀ Aj lj cj w',acG w' Aj lj cj (ps.getD k [])->Below (w.alloc (aaV n N nl nc B m d)).heap.size (w.alloc (aaV n N nl nc B m d)) w'->Calls Tryz.prog 76 #[.slice Aj lj cj,.pointer (some ⟨w.heap.size,0,none⟩)] w' fun e w''=>e=.returned (.int .i64 ((ps.map (sat z q)).getD k 0))/\Below w'.heap.size w' w'':=by
  intro k hk Aj lj cj w' hp hb
  have hmem:ps.getD k []∈ps:=by rw[List.getD_eq_getElem?_getD,List.getElem?_eq_getElem (by omega)];exact List.getElem_mem _
  rw[amS _ _ (by omega)]
  exact arS _ _ _ _ _ _ _ _ _ _ _ _ _ _ _ hp (HR.out.move hb) ha (hs _ hmem)
 clear h hba
 go_enter Tryz.func47,Tryz.ntmps47
 go_wp2_with fail
 refine (akt _ (ps.map (sat z q)) _ _ _ ps _ h1 (asW _ (amY z q) ps) hl hcall).mono ?_
 rintro e w1 ⟨rfl,hb⟩
 have Hb:=Lh (Hba.out.trans (hb.mono Hba.out.size))
 clear h1 hb hcall
 go_wp2
 go_ret
 exact ⟨rfl,Hb.out⟩
noncomputable def ZK:Nat:=Classical.choose (⟨1000,rfl⟩:∃ n:Nat,n=1000)
theorem ajg:ZK=1000:=Classical.choose_spec (⟨1000,rfl⟩:∃ n:Nat,n=1000)
noncomputable def ZB:Nat:=BB^ZK
theorem asY:128<=ZB:=by
 have h1:BB^1<=BB^ZK:=Nat.pow_le_pow_right aaI (by rw[ajg];decide)
 rw[Nat.pow_one] at h1
 have h2:128<=BB:=by rw[aao];decide
 exact Nat.le_trans h2 h1
theorem ahu {z:Int} (h:z.natAbs<=ZB):Fit z:=Nat.lt_of_le_of_lt h (Nat.pow_lt_pow_right (by rw[aao];decide) (by rw[ajg,ach];decide))
end Go.Proofs.YtdimmlckpgpgcaaGreat
