/- unidiv.Xgcd, plain: what its two rows are in every round. -/
import Derived.Test.YtjmglmgokfcgoaaXfl
namespace Go.Proofs.Ytjmglmgokfcgoaa
theorem xcont_swap (a ua va b ub vb:List Int):xcont a ua va b ub vb=xcont a va ua b vb ub:=by
 unfold xcont
 rw [Nat.gcd_assoc,Nat.gcd_comm (pcont (xun a b ua ub)),← Nat.gcd_assoc]
theorem xdv_one (p:List Int):xdv 1 p=p:=by
 unfold xdv
 rw [show (fun x:Int=>x.tdiv ((1:Nat):Int))=id from funext fun x=>Int.tdiv_one x,List.map_id]
theorem psr_small {f g:List Int} (tf:ptrim f=f) (h:plen f≤plen g-1):psr f g=f:=by unfold psr;rw [if_pos h,tf]
theorem psq_small {f g:List Int} (h:plen f≤plen g-1):psq f g=[]:=by unfold psq;rw [if_pos h]
theorem xun_small {f g:List Int} (h:plen f≤plen g-1):xun f g [1] []=[1]∧xun f g [] [1]=[]:=by
 unfold xun
 rw [psq_small h,show plen f-(plen g-1)=0 by omega,Int.pow_zero]
 exact ⟨by decide,by decide⟩
theorem xcont_small {f g:List Int} (h:plen f≤plen g-1):xcont f [1] [] g [] [1]=1:=by
 unfold xcont
 rw [(xun_small h).1,(xun_small h).2,show pcont [1]=1 from by decide,show pcont []=0 from rfl,Nat.gcd_one_right]
 rfl
theorem IsGcd.swap {f g D:List Int} (h:IsGcd f g D):IsGcd g f D:=⟨h.trim,h.lead,by rw [h.cont,Nat.gcd_comm],h.r,h.l,by
 obtain ⟨c,s,t,hc,e⟩:=h.c
 exact ⟨c,t,s,hc,fun x=>by rw [e,Int.add_comm]⟩⟩
def XG (f g a ua va b ub vb:List Int):Prop:=XZ f g a ua va b ub vb∨XZ g f a va ua b vb ub
structure XR (f g a ua va b ub vb:List Int):Prop where
 z:(XG f g a ua va b ub vb∧(plen b<plen a∨plen ub≤1∧plen vb≤1))∨((plen f<plen g∨plen f=0∧plen g=0)∧a=f∧ua=[1]∧va=[]∧b=g∧ub=[]∧vb=[1])
 du:plen ua≤1∨plen ua+plen a≤plen g
 dv:plen va≤1∨plen va+plen a≤plen f
 len:(a.length≤8∧ua.length≤8∧va.length≤8)∧b.length≤8∧ub.length≤8∧vb.length≤8
structure XOK (f g:List Int):Prop where
 tf:ptrim f=f
 tg:ptrim g=g
 f6:plen f≤6
 g6:plen g≤6
 hf:∀ k,(f.getD k 0).natAbs≤xH
 hg:∀ k,(g.getD k 0).natAbs≤xH
theorem len_trim {p:List Int} (h:ptrim p=p):p.length=plen p:=by
 have:=congrArg List.length h
 rw [ptrim_length] at this
 exact this.symm
theorem xH_fit {p:List Int} (h:∀ k,(p.getD k 0).natAbs≤xH):FitP p:=fun k=>Nat.lt_of_le_of_lt (Nat.le_trans (h k) (xB_pos 0)) (xB_fit (by omega))
theorem one_fit:FitP [1]:=xH_fit fun k=>by
 match k with
 | 0=>decide
 | k+1=>simp
theorem nil_fit:FitP []:=xH_fit fun k=>by simp
theorem XR.start {f g:List Int} (h:XOK f g):XR f g f [1] [] g [] [1] where
 z:=by
  by_cases c:plen g≤plen f∧plen f≠0
  ·exact .inl ⟨.inl (XZ.start h.tf h.tg c.2 c.1 h.hf h.hg),.inr ⟨by decide,by decide⟩⟩
  ·exact .inr ⟨by omega,rfl,rfl,rfl,rfl,rfl,rfl⟩
 du:=.inl (by decide)
 dv:=.inl (by decide)
 len:=by
  have h1:=len_trim h.tf
  have h2:=len_trim h.tg
  have h3:=h.f6
  have h4:=h.g6
  exact ⟨⟨by omega,by decide,by decide⟩,by omega,by decide,by decide⟩
theorem XR.trim {f g a ua va b ub vb:List Int} (h:XR f g a ua va b ub vb) (ok:XOK f g):ptrim a=a∧ptrim b=b:=by
 rcases h.z with ⟨h1 | h1,_⟩ | ⟨h1,rfl,rfl,rfl,rfl,rfl,rfl⟩
 ·exact ⟨h1.xs.ta,h1.xs.tb⟩
 ·exact ⟨h1.xs.ta,h1.xs.tb⟩
 ·exact ⟨ok.tf,ok.tg⟩
theorem XR.inn {f g a ua va b ub vb:List Int} (h:XR f g a ua va b ub vb) (ok:XOK f g) (b0:plen b≠0):FoIn a ua va b ub vb:=by
 rcases h.z with ⟨h1 | h1,_⟩ | ⟨h1,rfl,rfl,rfl,rfl,rfl,rfl⟩
 ·exact ⟨h1.xs.ta,h1.xs.tb,h1.fits b0 ok.f6,h1.xs.cont b0⟩
 ·obtain ⟨y1,y2,⟨y3,y4,y5⟩,y6,y7,y8⟩:=h1.fits b0 ok.g6
  exact ⟨h1.xs.ta,h1.xs.tb,⟨y1,y2,⟨y3,y5,y4⟩,y6,y8,y7⟩,by rw [xcont_swap];exact h1.xs.cont b0⟩
 ·have hs:plen a≤plen b-1:=by omega
  refine ⟨ok.tf,ok.tg,⟨?_,?_,⟨xH_fit ok.hf,one_fit,nil_fit⟩,xH_fit ok.hg,nil_fit,one_fit⟩,by rw [xcont_small hs];decide⟩
  ·rw [show plen a-(plen b-1)=0 by omega,Int.pow_zero];exact one_fit 0
  ·rw [psq_small hs];exact nil_fit
theorem xlen {f g a ua va b ub vb:List Int} (h:XS f g a ua va b ub vb) (f6:plen f≤6) (g6:plen g≤6):(xun a b ua ub).length≤8∧(xun a b va vb).length≤8:=by
 have h1:=h.lu1
 have h2:=h.lu2
 have h3:=h.lv1
 have h4:=h.lv2
 have h5:=h.lf
 rw [len_trim (xun_trim a b ua ub),len_trim (xun_trim a b va vb)]
 exact ⟨xun_len (n:=8) (by omega) (by omega),xun_len (n:=8) (by omega) (by omega)⟩
theorem xdv_length (c:Nat) (p:List Int):(xdv c p).length=p.length:=by unfold xdv;rw [List.length_map]
theorem XR.step {f g a ua va b ub vb:List Int} (h:XR f g a ua va b ub vb) (ok:XOK f g) (b0:plen b≠0) :
  XR f g b ub vb (xdv (xcont a ua va b ub vb) (psr a b)) (xdv (xcont a ua va b ub vb) (xun a b ua ub)) (xdv (xcont a ua va b ub vb) (xun a b va vb))∧plen (xdv (xcont a ua va b ub vb) (psr a b))<plen b:=by
 have hb:=h.len.2
 have hrl:(psr a b).length≤8:=Nat.le_trans (psr_len a b) (Nat.le_trans (plen_le a) h.len.1.1)
 rcases h.z with ⟨h1 | h1,hs⟩ | ⟨h1,rfl,rfl,rfl,rfl,rfl,rfl⟩
 ·have lt:=(h1.xs.step b0).2
  have l1:=xlen h1.xs ok.f6 ok.g6
  have h2:=h1.xs.lu2
  have h4:=h1.xs.lv2
  exact ⟨⟨.inl ⟨.inl (h1.step b0 ok.f6 ok.g6 ok.hf ok.hg),.inl lt⟩,by omega,by omega,⟨hb.1,hb.2.1,hb.2.2⟩,by rw [xdv_length];exact hrl,by rw [xdv_length];exact l1.1,by rw [xdv_length];exact l1.2⟩,lt⟩
 ·rw [xcont_swap]
  have lt:=(h1.xs.step b0).2
  have l1:=xlen h1.xs ok.g6 ok.f6
  have h2:=h1.xs.lu2
  have h4:=h1.xs.lv2
  exact ⟨⟨.inl ⟨.inr (h1.step b0 ok.g6 ok.f6 ok.hg ok.hf),.inl lt⟩,by omega,by omega,⟨hb.1,hb.2.1,hb.2.2⟩,by rw [xdv_length];exact hrl,by rw [xdv_length];exact l1.2,by rw [xdv_length];exact l1.1⟩,lt⟩
 ·have hs:plen a≤plen b-1:=by omega
  rw [xcont_small hs,xdv_one,xdv_one,xdv_one,psr_small ok.tf hs,(xun_small hs).1,(xun_small hs).2]
  have h3:=len_trim ok.tf
  have h5:=ok.f6
  exact ⟨⟨.inl ⟨.inr (XZ.start ok.tg ok.tf b0 (by omega) ok.hg ok.hf),.inl (by omega)⟩,.inl (by decide),.inl (by decide),⟨hb.1,by decide,by decide⟩,by omega,by decide,by decide⟩,by omega⟩
structure XE (f g a ua va:List Int):Prop where
 ev:∀ x,ev a x=ev ua x*ev f x+ev va x*ev g x
 fit:FitP a∧FitP ua∧FitP va
 du:plen ua≤1∨plen ua+plen a≤plen g
 dv:plen va≤1∨plen va+plen a≤plen f
 ta:ptrim a=a
 last:∀ D,IsGcd f g D→pprim a=pprim D∧plen a=plen D
 zero:plen f=0→plen g=0→plen a=0
 len:a.length≤8∧ua.length≤8∧va.length≤8
theorem XR.fin {f g a ua va b ub vb:List Int} (h:XR f g a ua va b ub vb) (ok:XOK f g) (b0:plen b=0):XE f g a ua va:=by
 have hl:=h.len.1
 have hdu:=h.du
 have hdv:=h.dv
 rcases h.z with ⟨h1 | h1,_⟩ | ⟨h1,rfl,rfl,rfl,rfl,rfl,rfl⟩
 ·exact ⟨h1.xs.ea,h1.ba.fit (by omega),hdu,hdv,h1.xs.ta,fun D hD=>h1.xs.last b0 hD,fun f0 g0=>by have:=h1.xs.lf;omega,hl⟩
 ·obtain ⟨y1,y2,y3⟩:=h1.ba.fit (by omega)
  exact ⟨fun x=>by rw [h1.xs.ea,Int.add_comm],⟨y1,y3,y2⟩,hdu,hdv,h1.xs.ta,fun D hD=>h1.xs.last b0 hD.swap,fun f0 g0=>by have:=h1.xs.lf;omega,hl⟩
 ·refine ⟨fun x=>by rw [ev_const,ev_nil];omega,⟨xH_fit ok.hf,one_fit,nil_fit⟩,hdu,hdv,ok.tf,fun D hD=>?_,fun f0 _=>f0,hl⟩
  exfalso
  have a0:plen a=0:=by omega
  obtain ⟨c,s,t,hc,e⟩:=hD.c
  have e1:∀ x,ev D x=0:=fun x=>by
   have:=e x
   rw [ev_zero_of a0,ev_zero_of b0,Int.mul_zero,Int.mul_zero,Int.add_zero] at this
   rcases Int.mul_eq_zero.1 this with h | h
   ·exact absurd h hc
   ·exact h
  have e2:=ev_inj (p:=D) (q:=[]) (fun x=>by rw [e1,ev_nil]) (plen D-1)
  have h3:=hD.lead
  unfold plead at h3
  rw [e2] at h3
  simp at h3
end Go.Proofs.Ytjmglmgokfcgoaa
