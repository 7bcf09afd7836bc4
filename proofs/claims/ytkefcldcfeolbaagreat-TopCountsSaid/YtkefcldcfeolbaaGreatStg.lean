/- The walks of cylinderlaw15.changes and of sturm.Variations. -/
import Derived.Test.YtkefcldcfeolbaaGreatSte
namespace Go.Proofs.YtkefcldcfeolbaaGreat
open Go.RowKit
end Go.Proofs.YtkefcldcfeolbaaGreat
namespace Go.Proofs.YtkefcldcfeolbaaGreat
end Go.Proofs.YtkefcldcfeolbaaGreat
namespace Go.Proofs.YtkefcldcfeolbaaGreat
open Go.RowKit
def sat (z:Int) (q:Nat) (f:List Int):Int:=sg (ano f (z.tdiv (Nat.gcd z.natAbs q)) ((q / Nat.gcd z.natAbs q:Nat):Int))
theorem aml (z:Int) (q:Nat) (f:List Int):sat z q f=-1∨sat z q f=0∨sat z q f=1:=by
 unfold sat
 rcases aav (ano f (z.tdiv (Nat.gcd z.natAbs q)) ((q / Nat.gcd z.natAbs q:Nat):Int)) with ⟨_,e⟩ | ⟨_,e⟩ | ⟨_,e⟩<;>omega
structure aun (z:Int) (q:Nat):Prop where
 u:Fit z
 v:Fit (q:Int)
 pos:0<q
 fz:Fit (z.tdiv (Nat.gcd z.natAbs q))
 fq:Fit ((q / Nat.gcd z.natAbs q:Nat):Int)
structure ajf (z:Int) (q:Nat) (p:List Int):Prop where
 fit:abw p
 len:p.length<=1000000
 ok:avk p (z.tdiv (Nat.gcd z.natAbs q)) ((q / Nat.gcd z.natAbs q:Nat):Int)
theorem aqQ (A:Option Addr) (len cap:Nat) (p:List Int) (gm:Nat) (n:Bool) (N:Option Addr) (nl nc:Nat) (B:Option Addr) (m d q:Nat) (z:Int) (w:World) (h:acH w A len cap p) (hR:aci w gm n N nl nc B m d z q) (ha:aun z q) (hp:ajf z q p) :
  Calls Tryz.prog 79 #[.slice A len cap,.pointer (some ⟨gm,0,none⟩)] w fun e w'=>e=.returned (.int .i64 (sat z q p))/\Below w.heap.size w w':=by
 have r0:=hR.c0
 have r1:=hR.c1
 have r2:=hR.c2
 have HR:=Lh hR
 clear hR
 go_enter Tryz.func79,Tryz.ntmps79
 go_wp2_with fail
 refine (abz ae8 _ _ _ _ _ _ _ _ _ _ _ _ _ _ h hp.fit (by rw[<- h.length];exact hp.len) HR.out.hz HR.out.hq ha.u ha.v ha.pos hp.ok ha.fz ha.fq).mono ?_
 rintro e w1 ⟨rfl,hb⟩
 have Hb:=Lh hb
 clear h hb HR r0 r1 r2
 go_wp2
 go_ret
 exact ⟨rfl,Hb.out⟩
set_option maxHeartbeats 400000 in
theorem afS (A:Option Addr) (len cap:Nat) (ps:List (List Int)) (n:Bool) (N:Option Addr) (nl nc:Nat) (B:Option Addr) (m d q:Nat) (z:Int) (w:World) (h:aiX w A len cap ps) (hz:aaA w n N nl nc z) (hq:aaT w B m d q) (ha:aun z q) (hs:∀ p∈ps,ajf z q p) (hl:len<=1000000) :
  Calls Tryz.prog 48 #[.slice A len cap,.agg #[.bool n,.slice N nl nc,.slice B m d]] w fun e w'=>e=.returned (.int .i64 ((vst (ps.map (sat z q)) len).1:Nat))/\Below w.heap.size w w':=by
 have hba:Below w.heap.size w (w.alloc (aa0 n N nl nc B m d)):=(Below.refl _ _).alloc (Nat.le_refl _) _
 have h1:=h.below hba
 have hlen:=h.length
 have HR:=Lh (aci.make hz hq)
 have Hba:=Lh hba
 have hcall:∀ k,k<len->∀ Aj lj cj w',acH w' Aj lj cj (ps.getD k [])->Below (w.alloc (aa0 n N nl nc B m d)).heap.size (w.alloc (aa0 n N nl nc B m d)) w'->Calls Tryz.prog 79 #[.slice Aj lj cj,.pointer (some ⟨w.heap.size,0,none⟩)] w' fun e w''=>e=.returned (.int .i64 ((ps.map (sat z q)).getD k 0))/\Below w'.heap.size w' w'':=by
  intro k hk Aj lj cj w' hp hb
  have hmem:ps.getD k []∈ps:=by rw[List.getD_eq_getElem?_getD,List.getElem?_eq_getElem (by omega)];exact List.getElem_mem _
  rw[amg _ _ (by omega)]
  exact aqQ _ _ _ _ _ _ _ _ _ _ _ _ _ _ _ hp (HR.out.move hb) ha (hs _ hmem)
 clear h hba
 go_enter Tryz.func48,Tryz.ntmps48
 go_wp2_with fail
 refine (aki _ (ps.map (sat z q)) _ _ _ ps _ h1 (arU _ (aml z q) ps) hl hcall).mono ?_
 rintro e w1 ⟨rfl,hb⟩
 have Hb:=Lh (Hba.out.trans (hb.mono Hba.out.size))
 clear h1 hb hcall
 go_wp2
 go_ret
 exact ⟨rfl,Hb.out⟩
noncomputable def ZK:Nat:=Classical.choose (⟨1000,rfl⟩:∃ n:Nat,n=1000)
theorem akm:ZK=1000:=Classical.choose_spec (⟨1000,rfl⟩:∃ n:Nat,n=1000)
noncomputable def ZB:Nat:=BB^ZK
theorem arW:128<=ZB:=by
 have h1:BB^1<=BB^ZK:=Nat.pow_le_pow_right aaI (by rw[akm];decide)
 rw[Nat.pow_one] at h1
 have h2:128<=BB:=by rw[aan];decide
 exact Nat.le_trans h2 h1
theorem amm {z:Int} (h:z.natAbs<=ZB):Fit z:=Nat.lt_of_le_of_lt h (Nat.pow_lt_pow_right (by rw[aan];decide) (by rw[akm,abZ];decide))
end Go.Proofs.YtkefcldcfeolbaaGreat
