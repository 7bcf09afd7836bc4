/- The loop of unidiv.Xgcd, plain: sizes of the two rows. -/
import Derived.Test.YtjmglmgokfcgoaaXst
import Derived.Test.YtjmglmgokfcgoaaDvc
import Derived.Test.YtjmglmgokfcgoaaRga
namespace Go.Proofs.Ytjmglmgokfcgoaa
theorem Sc.plen {p q:List Int} (h:Sc p q):plen p=plen q:=by
 obtain ⟨c,d,hc,hd,h⟩:=h
 exact plen_scale hc hd h
theorem psr_sc {a b a' b':List Int} (ta:ptrim a=a) (tb:ptrim b=b) (ta':ptrim a'=a') (tb':ptrim b'=b') (ha:Sc a a') (hb:Sc b b') (b1:1≤plen b):Sc (psr a b) (psr a' b'):=by
 have la:=ha.plen
 have lb:=hb.plen
 obtain ⟨c,d,hc,hd,ea⟩:=ha
 obtain ⟨c',d',hc',hd',eb⟩:=hb
 have tr:∀ {p:List Int} {x:Int},x≠0→ptrim p=p→ptrim (psc x p)=psc x p:=fun {p x} hx hp=>by
  have h1:Go.Proofs.Ytjmglmgokfcgoaa.plen (psc x p)=Go.Proofs.Ytjmglmgokfcgoaa.plen p:=plen_scale (c:=1) (d:=x) (by decide) hx (fun k=>by rw [psc_get,Int.one_mul])
  unfold ptrim
  rw [h1,List.take_of_length_le]
  have:=congrArg List.length hp
  rw [ptrim_length] at this
  unfold psc
  rw [List.length_map];omega
 have e1:psc c a=psc d a':=eq_of_trim (tr hc ta) (tr hd ta') fun k=>by rw [psc_get,psc_get,ea]
 have e2:psc c' b=psc d' b':=eq_of_trim (tr hc' tb) (tr hd' tb') fun k=>by rw [psc_get,psc_get,eb]
 have p1:Go.Proofs.Ytjmglmgokfcgoaa.plen (psc c' b)=Go.Proofs.Ytjmglmgokfcgoaa.plen b:=plen_scale (c:=1) (d:=c') (by decide) hc' (fun k=>by rw [psc_get,Int.one_mul])
 obtain ⟨x,hx,h1⟩:=psr_scale (f:=psc c a) (f':=a) (g:=psc c' b) (g':=b) hc hc' (fun k=>psc_get _ _ _) (fun k=>psc_get _ _ _) (by omega)
 obtain ⟨y,hy,h2⟩:=psr_scale (f:=psc d a') (f':=a') (g:=psc d' b') (g':=b') hd hd' (fun k=>psc_get _ _ _) (fun k=>psc_get _ _ _) (by rw [← e2];omega)
 exact ⟨x,y,hx,hy,fun k=>by rw [← h1,← h2,e1,e2]⟩
abbrev xH:Nat:=4294967296
abbrev xG:Nat:=18446744073709551616*32
def xB (e:Nat):Nat:=(10*xH)^(max 2 e)
theorem xB_mono {a b:Nat} (h:a≤b):xB a≤xB b:=Nat.pow_le_pow_right (by decide) (by omega)
def RB (K:Nat) (r u v:List Int):Prop:=(∀ k,(r.getD k 0).natAbs≤K)∧(∀ k,(u.getD k 0).natAbs≤K)∧∀ k,(v.getD k 0).natAbs≤K
theorem RB.mono {K L:Nat} {r u v:List Int} (h:RB K r u v) (hk:K≤L):RB L r u v:=⟨fun k=>Nat.le_trans (h.1 k) hk,fun k=>Nat.le_trans (h.2.1 k) hk,fun k=>Nat.le_trans (h.2.2 k) hk⟩
structure XZ (f g a ua va b ub vb:List Int):Prop where
 xs:XS f g a ua va b ub vb
 sq:plen b≠0→∃ m n t C,plen f=m+1∧plen g=n+1∧SInv f g m n xG 0 t C∧Sc a t.a∧Sc b t.b
 ba:RB (xB (12-2*plen a)) a ua va
 bb:plen b≠0→RB (xB (14-2*plen a)) b ub vb
 be:plen b=plen a→RB (xB 0) b ub vb
 fg:plen g≤plen f
theorem XZ.step {f g a ua va b ub vb:List Int} (h:XZ f g a ua va b ub vb) (b0:plen b≠0) (f6:plen f≤6) (g6:plen g≤6) (hf:∀ k,(f.getD k 0).natAbs≤xH) (hg:∀ k,(g.getD k 0).natAbs≤xH) :
  XZ f g b ub vb (xdv (xcont a ua va b ub vb) (psr a b)) (xdv (xcont a ua va b ub vb) (xun a b ua ub)) (xdv (xcont a ua va b ub vb) (xun a b va vb)):=by
 obtain ⟨hs,hlt⟩:=h.xs.step b0
 have c0:=h.xs.cont b0
 obtain ⟨t1,t2,t3,t4⟩:=take_out c0
 rw [show Nat.gcd (Nat.gcd (pcont (psr a b)) (pcont (xun a b ua ub))) (pcont (xun a b va vb))=xcont a ua va b ub vb from rfl] at t1 t2 t3 t4
 obtain ⟨c,hc⟩:∃ c,c=xcont a ua va b ub vb:=⟨_,rfl⟩
 rw [← hc] at t1 t2 t3 t4 c0 hs hlt ⊢
 have ci:(c:Int)≠0:=by omega
 obtain ⟨r,hr⟩:∃ r,r=xdv c (psr a b):=⟨_,rfl⟩
 obtain ⟨u,hu⟩:∃ u,u=xdv c (xun a b ua ub):=⟨_,rfl⟩
 obtain ⟨v,hv⟩:∃ v,v=xdv c (xun a b va vb):=⟨_,rfl⟩
 rw [show (psr a b).map (·.tdiv (c:Int))=r from hr.symm] at t1 t4
 rw [show (xun a b ua ub).map (·.tdiv (c:Int))=u from hu.symm] at t2 t4
 rw [show (xun a b va vb).map (·.tdiv (c:Int))=v from hv.symm] at t3 t4
 rw [← hr,← hu,← hv] at hs ⊢
 rw [← hr] at hlt
 obtain ⟨m,n,t,C,hm,hn,hi,sa,sb⟩:=h.sq b0
 have lab:=h.xs.lab
 have lb:=h.xs.lg
 have hfg:=h.fg
 have lla:=sa.plen
 have llb:=sb.plen
 have tta:ptrim t.a=t.a:=by unfold ptrim;rw [hi.ta,List.take_length]
 have ttb:ptrim t.b=t.b:=by unfold ptrim;rw [hi.tb,List.take_length]
 have hsc:=psr_sc h.xs.ta h.xs.tb tta ttb sa sb (by omega)
 have ok:GOK xG m n 0 18:=gok18 (by omega) (by omega) (by decide) (by rw [BB_eq];first | decide +kernel | (rw [FW_eq];decide +kernel))
 have hfs:∀ k,(f.getD k 0).natAbs*(m+n)≤xG:=fun k=>Nat.le_trans (Nat.mul_le_mul (hf k) (show m+n≤10 by omega)) (by decide)
 have hgs:∀ k,(g.getD k 0).natAbs*(m+n)≤xG:=fun k=>Nat.le_trans (Nat.mul_le_mul (hg k) (show m+n≤10 by omega)) (by decide)
 have bb:=h.bb b0
 have hrp:∀ r0:plen r≠0,psr t.a t.b≠[]:=fun r0 e=>by
  have h1:=hsc.plen
  rw [e] at h1
  have h2:plen (psr a b)=plen r:=plen_scale (c:=1) (d:=(c:Int)) (by decide) ci (fun k=>by rw [Int.one_mul];exact t1 k)
  rw [h2] at h1
  exact r0 h1
 refine ⟨hs,fun r0=>?_,?_,fun r0=>?_,fun e=>by omega,hfg⟩
 ·obtain ⟨_,h2,_⟩:=hi.step ok (fun p _ h=>by omega) hfs hgs (hrp r0)
  refine ⟨m,n,t.next,_,hm,hn,h2,sb,?_⟩
  obtain ⟨x,y,hx,hy,hxy⟩:=hsc
  refine ⟨x*c,y*t.dv,Int.mul_ne_zero hx ci,Int.mul_ne_zero hy hi.dv0,fun k=>?_⟩
  show x*c*r.getD k 0=y*t.dv*t.rest.getD k 0
  rw [Int.mul_assoc,← t1,hxy,(hi.rest (hrp r0) k).2,Int.mul_assoc]
 ·by_cases hlt2:plen b<plen a
  ·exact bb.mono (xB_mono (by omega))
  ·exact (h.be (by omega)).mono (xB_mono (by omega))
 · -- the new row
   have hps:=hrp r0
   obtain ⟨j,hj⟩:∃ j,j=plen b-2:=⟨_,rfl⟩
   obtain ⟨U,V,lU,lV,bU,bV,eS⟩:=sres_uv (f:=f) (g:=g) (m:=m) (n:=n) (j:=j) (H:=xH) hf hg
   obtain ⟨R,hR⟩:∃ R,R=padd (polymul U f) (polymul V g):=⟨_,rfl⟩
   have hRk:∀ k,R.getD k 0=sres (fn f) m (fn g) n j k:=fun k=>by rw [hR,padd_get,polymul_getD,polymul_getD,eS]
   have hjb:t.b.length-1-1=j:=by rw [← hi.tb,← llb];omega
   have hRn:∀ k,(R.getD k 0).natAbs=(t.rest.getD k 0).natAbs:=fun k=>by rw [hRk,(hi.rest hps k).1,hjb]
   have hlr:=hi.restLen
   have hrz:=hi.rz
   have lR:plen R<plen b:=by
    have:plen R≤plen b-1:=plen_le_of fun k hk=>by
     have h1:=hRn k
     rw [getD_out t.rest (by rw [hlr];have:=hi.tb;omega)] at h1
     simpa using h1
    omega
   have eR:∀ x,ev R x=ev U x*ev f x+ev V x*ev g x:=fun x=>by rw [hR,ev_padd,ev_mul,ev_mul]
   have R0:plen R≠0:=fun e=>by
    have h1:=hi.restTrim hps
    have h2:0<t.rest.length:=by rw [hlr];exact List.length_pos_iff.2 hps
    have h3:=hRn (plen t.rest-1)
    rw [getD_ge_plen R _ (by omega)] at h3
    have h4:plead t.rest≠0:=plead_ne (by omega)
    exact h4 (Int.natAbs_eq_zero.1 h3.symm)
   obtain ⟨κ,k0,hk⟩:=h.xs.kap
   have lv2:=h.xs.lv2
   have lv2':=hs.lv2
   have pU:=plen_le U
   have pV:=plen_le V
   have hb2:2≤plen b:=by omega
   have nz:∀ {p u v:List Int},plen p≠0→(∀ x,ev p x=ev u x*ev f x+ev v x*ev g x)→plen u≠0∨plen v≠0:=fun {p u v} hp he=>by
    refine Classical.byContradiction fun hn=>hp ?_
    exact zero_of_ev fun x=>by rw [he,ev_zero_of (by omega:plen u=0),ev_zero_of (by omega:plen v=0)];simp
   obtain ⟨x,y,hx,hy,z1,z2,z3⟩:=row_unique k0 (by omega) h.xs.eb hs.eb eR hk hlt lR (by omega) (by omega) (by omega) (nz r0 hs.eb) (nz R0 eR)
   obtain ⟨e,e0,y1,y2,y3⟩:=prim_div hx hy z1 z2 z3 t4
   have hN:n-j+(m-j)≤14-2*plen b:=by omega
   have hN1:1≤n-j+(m-j):=by omega
   have hN10:n-j+(m-j)≤10:=by omega
   have hK:((n-j+(m-j))*xH)^(n-j+(m-j))≤xB (14-2*plen b) :=
    Nat.le_trans (Nat.pow_le_pow_left (Nat.mul_le_mul_right _ hN10) _) (Nat.pow_le_pow_right (by decide) (by omega))
   have hK2:((n-j+(m-j))*xH)^(n-j+(m-j)-1)≤xB (14-2*plen b) :=
    Nat.le_trans (Nat.pow_le_pow_left (Nat.mul_le_mul_right _ hN10) _) (Nat.pow_le_pow_right (by decide) (by omega))
   refine ⟨bd_of_mul e0 y1 fun k=>?_,bd_of_mul e0 y2 fun k=>Nat.le_trans (bU k) hK2,bd_of_mul e0 y3 fun k=>Nat.le_trans (bV k) hK2⟩
   rw [hRk]
   exact Nat.le_trans (sres_le hf hg (by omega)) hK
theorem Sc.refl (p:List Int):Sc p p:=⟨1,1,by decide,by decide,fun _=>rfl⟩
theorem xB_pos (e:Nat):xH≤xB e:=Nat.le_trans (show xH≤(10*xH)^2 by decide) (Nat.pow_le_pow_right (by decide) (Nat.le_max_left _ _))
theorem XZ.start {f g:List Int} (tf:ptrim f=f) (tg:ptrim g=g) (f0:plen f≠0) (hfg:plen g≤plen f) (hf:∀ k,(f.getD k 0).natAbs≤xH) (hg:∀ k,(g.getD k 0).natAbs≤xH):XZ f g f [1] [] g [] [1]:=by
 have one:∀ e k,(([1]:List Int).getD k 0).natAbs≤xB e:=fun e k=>Nat.le_trans (by
  match k with
  | 0=>exact (by decide:(1:Int).natAbs≤xH)
  | k+1=>simp) (xB_pos e)
 have nil:∀ e k,(([]:List Int).getD k 0).natAbs≤xB e:=fun e k=>by simp
 have lf:=congrArg List.length tf
 have lg:=congrArg List.length tg
 rw [ptrim_length] at lf lg
 refine ⟨XS.start tf tg f0 hfg,fun g0=>?_,⟨fun k=>Nat.le_trans (hf k) (xB_pos _),one _,nil _⟩,fun _=>⟨fun k=>Nat.le_trans (hg k) (xB_pos _),nil _,one _⟩,fun _=>⟨fun k=>Nat.le_trans (hg k) (xB_pos _),nil _,one _⟩,hfg⟩
 have h2:∀ {p:List Int},(∀ k,(p.getD k 0).natAbs≤xH)→∀ k,(p.getD k 0).natAbs≤xG:=fun h k=>Nat.le_trans (h k) (by decide)
 exact ⟨plen f-1,plen g-1,_,_,by omega,by omega,sinv_start (m:=plen f-1) (n:=plen g-1) (G:=xG) (e:=0) (Nat.zero_le _) (by omega) (by omega) lf lg (by omega) (by decide) (h2 hf) (h2 hg),Sc.refl _,Sc.refl _⟩
theorem XS.last {f g a ua va b ub vb D:List Int} (h:XS f g a ua va b ub vb) (b0:plen b=0) (hD:IsGcd f g D):pprim a=pprim D∧plen a=plen D:=by
 have dv:∀ {p:List Int},Comb a b p→Dvq a p:=fun {p} hp=>by
  obtain ⟨c,s,t,hc,e⟩:=hp
  exact ⟨c,s,hc,fun x=>by rw [e,ev_zero_of b0,Int.mul_zero,Int.add_zero]⟩
 have d1:=dv h.cf
 have d2:=dv h.cg
 have hca:Comb f g a:=⟨1,ua,va,by decide,fun x=>by rw [Int.one_mul,h.ea]⟩
 have e1:Dvq D a:=Dvq.comb hD.l hD.r hca
 have e2:Dvq a D:=Dvq.comb d1 d2 hD.c
 have p1:=dvq_plen e1 h.a0
 have p2:=dvq_plen e2 hD.ne
 exact ⟨pprim_assoc h.a0 hD.ne e2 e1,by omega⟩
end Go.Proofs.Ytjmglmgokfcgoaa
