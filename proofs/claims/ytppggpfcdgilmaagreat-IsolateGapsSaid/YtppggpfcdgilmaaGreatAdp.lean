/- The law SturmAdds, plain: counts and queries add up over neighbouring intervals; the signs at the roots; the roots below a number. No program. -/
import Derived.Test.YtppggpfcdgilmaaGreatTkr
namespace Go.Proofs.YtppggpfcdgilmaaGreat
open Go.RowKit
end Go.Proofs.YtppggpfcdgilmaaGreat
namespace Go.Proofs.YtppggpfcdgilmaaGreat
open Go.RowKit
section
variable {f g:List Int} {za zb zc:Int} {qa qb qc:Nat}
noncomputable def nbelow (f:List Int) (z:Int) (q:Nat):Int :=
 if plen f=0 then 0 else chE true (pchain 12 (qpart f) (pder (qpart f)))-chv (pchain 12 (qpart f) (pder (qpart f))) (Pt.of ((z:Rat) / (q:Rat)))-(if sat z q (qpart f)=0 then 1 else 0)
theorem nbelow_len (h:P9 f) (h0:plen f≠0) {z:Int} {q:Nat} (hq:0<q) {xs:List Pt} (hx:Lst (fun x=>sgp f x=0∧x<Pt.of ((z:Rat) / (q:Rat))) xs):nbelow f z q=xs.length:=by
 have hf:=q_facts h.q h0
 unfold nbelow
 rw [if_neg h0]
 have hsat:=sat_eq (z:=z) hq (qpart f)
 rw [hsat]
 generalize Pt.of ((z:Rat) / (q:Rat))=b at *
 obtain ⟨ys,hy⟩:=roots_lst hf.q0 (fun x=>x<b∨x=b)
 rw [low_count hf.q0 hf.simple (chain_all h.part h.pder).1 hy]
 by_cases c:sgp f b=0
 ·rw [if_pos ((hf.root b).2 c)]
  have hy3:=(hx.add_top c).congr (Q:=fun x=>sgp (qpart f) x=0∧(x<b∨x=b)) fun x=>by rw [hf.root]
  rw [hy.uniq hy3,List.length_append,List.length_singleton]
  omega
 ·rw [if_neg (fun e=>c ((hf.root b).1 e))]
  have:xs=ys:=hx.uniq (hy.congr fun x=>by
   rw [hf.root]
   constructor
   ·rintro ⟨h1,h2 | h2⟩
    ·exact ⟨h1,h2⟩
    ·exact absurd (h2 ▸ h1) c
   ·rintro ⟨h1,h2⟩;exact ⟨h1,.inl h2⟩)
  rw [this]
  omega
end
end Go.Proofs.YtppggpfcdgilmaaGreat
