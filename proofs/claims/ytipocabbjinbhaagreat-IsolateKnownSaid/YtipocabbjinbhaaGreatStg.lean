/- The walks of cylinderlaw15.changes and of sturm.Variations. -/
import Derived.Test.YtipocabbjinbhaaGreatSte
namespace Go.Proofs.YtipocabbjinbhaaGreat
open Go.RowKit
end Go.Proofs.YtipocabbjinbhaaGreat
namespace Go.Proofs.YtipocabbjinbhaaGreat
end Go.Proofs.YtipocabbjinbhaaGreat
namespace Go.Proofs.YtipocabbjinbhaaGreat
open Go.RowKit
def sat (z:Int) (q:Nat) (f:List Int):Int:=sg (sval f (z.tdiv (Nat.gcd z.natAbs q)) ((q / Nat.gcd z.natAbs q:Nat):Int))
theorem sat_unit (z:Int) (q:Nat) (f:List Int):sat z q f=-1∨sat z q f=0∨sat z q f=1:=by
 unfold sat
 rcases sg_cases (sval f (z.tdiv (Nat.gcd z.natAbs q)) ((q / Nat.gcd z.natAbs q:Nat):Int)) with ⟨_,e⟩ | ⟨_,e⟩ | ⟨_,e⟩<;>omega
structure AtOK (z:Int) (q:Nat):Prop where
 u:Fit z
 v:Fit (q:Int)
 pos:0<q
 fz:Fit (z.tdiv (Nat.gcd z.natAbs q))
 fq:Fit ((q / Nat.gcd z.natAbs q:Nat):Int)
structure PoOK (z:Int) (q:Nat) (p:List Int):Prop where
 fit:FitP p
 len:p.length≤1000000
 ok:ScOK p (z.tdiv (Nat.gcd z.natAbs q)) ((q / Nat.gcd z.natAbs q:Nat):Int)
theorem var1_any (A:Option Addr) (len cap:Nat) (p:List Int) (gm:Nat) (n:Bool) (N:Option Addr) (nl nc:Nat) (B:Option Addr) (m d q:Nat) (z:Int) (w:World) (h:PolyAt w A len cap p) (hR:RBox w gm n N nl nc B m d z q) (ha:AtOK z q) (hp:PoOK z q p) :
  Calls Tryz.prog 127 #[.slice A len cap,.pointer (some ⟨gm,0,none⟩)] w fun e w'=>e=.returned (.int .i64 (sat z q p))∧Below w.heap.size w w':=by
 have r0:=hR.c0
 have r1:=hR.c1
 have r2:=hR.c2
 have HR:=Lib.hid hR
 clear hR
 go_enter Tryz.func127,Tryz.ntmps127
 go_wp2_with fail
 refine (signat_any ikAt _ _ _ _ _ _ _ _ _ _ _ _ _ _ h hp.fit (by rw [← h.length];exact hp.len) HR.out.hz HR.out.hq ha.u ha.v ha.pos hp.ok ha.fz ha.fq).mono ?_
 rintro e w1 ⟨rfl,hb⟩
 have Hb:=Lib.hid hb
 clear h hb HR r0 r1 r2
 go_wp2
 go_ret
 exact ⟨rfl,Hb.out⟩
set_option maxHeartbeats 400000 in
theorem vars_any (A:Option Addr) (len cap:Nat) (ps:List (List Int)) (n:Bool) (N:Option Addr) (nl nc:Nat) (B:Option Addr) (m d q:Nat) (z:Int) (w:World) (h:PLst w A len cap ps) (hz:IntN w n N nl nc z) (hq:NatN w B m d q) (ha:AtOK z q) (hs:∀ p∈ps,PoOK z q p) (hl:len≤1000000) :
  Calls Tryz.prog 77 #[.slice A len cap,.agg #[.bool n,.slice N nl nc,.slice B m d]] w fun e w'=>e=.returned (.int .i64 ((vst (ps.map (sat z q)) len).1:Nat))∧Below w.heap.size w w':=by
 have hba:Below w.heap.size w (w.alloc (rbox n N nl nc B m d)):=(Below.refl _ _).alloc (Nat.le_refl _) _
 have h1:=h.below hba
 have hlen:=h.length
 have HR:=Lib.hid (RBox.make hz hq)
 have Hba:=Lib.hid hba
 have hcall:∀ k,k<len→∀ Aj lj cj w',PolyAt w' Aj lj cj (ps.getD k [])→Below (w.alloc (rbox n N nl nc B m d)).heap.size (w.alloc (rbox n N nl nc B m d)) w'→Calls Tryz.prog 127 #[.slice Aj lj cj,.pointer (some ⟨w.heap.size,0,none⟩)] w' fun e w''=>e=.returned (.int .i64 ((ps.map (sat z q)).getD k 0))∧Below w'.heap.size w' w'':=by
  intro k hk Aj lj cj w' hp hb
  have hmem:ps.getD k []∈ps:=by rw [List.getD_eq_getElem?_getD,List.getElem?_eq_getElem (by omega)];exact List.getElem_mem _
  rw [mapF_get _ _ (by omega)]
  exact var1_any _ _ _ _ _ _ _ _ _ _ _ _ _ _ _ hp (HR.out.move hb) ha (hs _ hmem)
 clear h hba
 go_enter Tryz.func77,Tryz.ntmps77
 go_wp2_with fail
 refine (changesV_any _ (ps.map (sat z q)) _ _ _ ps _ h1 (sgnMap _ (sat_unit z q) ps) hl hcall).mono ?_
 rintro e w1 ⟨rfl,hb⟩
 have Hb:=Lib.hid (Hba.out.trans (hb.mono Hba.out.size))
 clear h1 hb hcall
 go_wp2
 go_ret
 exact ⟨rfl,Hb.out⟩
noncomputable def ZK:Nat:=Classical.choose (⟨1000,rfl⟩:∃ n:Nat,n=1000)
theorem ZK_eq:ZK=1000:=Classical.choose_spec (⟨1000,rfl⟩:∃ n:Nat,n=1000)
noncomputable def ZB:Nat:=BB^ZK
theorem zb_128:128≤ZB:=by
 have h1:BB^1≤BB^ZK:=Nat.pow_le_pow_right BB_pos (by rw [ZK_eq];decide)
 rw [Nat.pow_one] at h1
 have h2:128≤BB:=by rw [BB_eq];decide
 exact Nat.le_trans h2 h1
theorem zb_fit {z:Int} (h:z.natAbs≤ZB):Fit z:=Nat.lt_of_le_of_lt h (Nat.pow_lt_pow_right (by rw [BB_eq];decide) (by rw [ZK_eq,FW_eq];decide))
end Go.Proofs.YtipocabbjinbhaaGreat
