/- The walks of squarefree.Part at any small polynomial, rootbound.power and rootbound.Separation. -/
import Derived.Test.YtjmglmgokfcgoaaApt
import Derived.Test.YtjmglmgokfcgoaaGcx
import Derived.Test.YtjmglmgokfcgoaaPart
import Derived.Test.YtjmglmgokfcgoaaLgb
namespace Go.Proofs.Ytjmglmgokfcgoaa
open Go.RowKit
set_option maxRecDepth 100000 in
set_option maxHeartbeats 4000000 in
theorem rpower_any (na:Bool) (A:Option Addr) (la ca:Nat) (a:Int) (n:Nat) (w:World) (h:IntN w na A la ca a) (h0:a≠0) (hf:Fit (a^n)) (hn:n≤1000000000) (hfa:Fit a) :
  Calls Try.prog 68 #[.agg #[.bool na,.slice A la ca],.int .i64 (n:Int)] w fun e w'=>∃ n1 A1 l1 c1,e=.returned (.agg #[.bool n1,.slice A1 l1 c1])∧IntN w' n1 A1 l1 c1 (a^n)∧Below w.heap.size w w':=by
 have hba:Below w.heap.size w (w.alloc (ibox na A la ca)):=(Below.refl _ _).alloc (Nat.le_refl _) _
 have hbb:Below (w.alloc (ibox na A la ca)).heap.size (w.alloc (ibox na A la ca)) ((w.alloc (ibox na A la ca)).alloc (ibox false none 0 0)):=(Below.refl _ _).alloc (Nat.le_refl _) _
 have hab:=hba.trans (hbb.mono hba.size)
 have hR:=IBox.nil (w.alloc (ibox na A la ca))
 simp only [World.size_alloc] at hR
 have h1:=h.below hab
 have hp:=poly_ibox h1
 have hbc:Below ((w.alloc (ibox na A la ca)).alloc (ibox false none 0 0)).heap.size ((w.alloc (ibox na A la ca)).alloc (ibox false none 0 0)) (((w.alloc (ibox na A la ca)).alloc (ibox false none 0 0)).alloc (ibox na A la ca)):=(Below.refl _ _).alloc (Nat.le_refl _) _
 have HR:=Lib.hid (hR.move hbc)
 have Hb:=Lib.hid (hab.trans (hbc.mono hab.size))
 simp only [World.size_alloc] at hp
 have Hp:=Lib.hid hp
 clear h hba hbb hab hR h1 hp hbc
 go_enter Try.func68,Try.ntmps68
 go_wp2_with fail
 refine (cpow_any _ _ _ _ _ Hp.out h0 hf hn hfa).mono ?_
 rintro e w1 ⟨A1,c1,rfl,h2,hb1⟩
 have HR1:=Lib.hid (HR.out.move hb1)
 have Hb1:=Lib.hid (Hb.out.trans (hb1.mono Hb.out.size))
 have hpn:a^n≠0:=Int.pow_ne_zero h0
 clear hb1 Hp HR Hb
 go_wp2_with fail
 refine (lead_any _ _ _ _ _ (h2.at_ ikN) (fitp_const hf).smp (by omega)).mono ?_
 rintro e w2 ⟨n2,A2,l2,c2,rfl,h3,hb2⟩
 rw [plead_const hpn] at h3
 have hR2:=HR1.out.move hb2
 have HP:=Lib.hid (hR2.put h3)
 have Hb2:=Lib.hid (((Hb1.out.trans (hb2.mono Hb1.out.size)).setCell (p:=⟨w.heap.size+1,0,none⟩) (by first | (simp;done) | (simp;omega) | omega) (.bool n2)).setCell (p:=⟨w.heap.size+1,1,none⟩) (by first | (simp;done) | (simp;omega) | omega) (.slice A2 l2 c2))
 have d0:=hR2.c0
 have d1:=hR2.c1
 have d2:=hR2.f0
 have d3:=hR2.f1
 clear h2 h3 hb2 hR2 HR1 Hb1
 go_wp2
 refine bodyPost_ret (v:=.agg #[.bool n2,.slice A2 l2 c2]) (by simp [results,Try.results68,go_sem,d0,d1]) rfl ⟨_,_,_,_,rfl,HP.out.hz,Hb2.out⟩
end Go.Proofs.Ytjmglmgokfcgoaa
