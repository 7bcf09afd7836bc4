/- For any slice of int16s and any int16 the law IsolateParts returns true and its arguments read as before: the intervals of the roots of f isolate those of n f^2 (x^2 + 1), and the other way round. No condition. -/
import Derived.Test.YtjmglmgokfcgoaaGreatRowP
import Derived.OpenShut
import Derived.Test.YtjmglmgokfcgoaaGreatSqw
import Derived.Test.YtjmglmgokfcgoaaGreatCof
import Derived.Test.YtjmglmgokfcgoaaGreatSrc
import Derived.Test.YtjmglmgokfcgoaaGreatStg
import Derived.Test.YtjmglmgokfcgoaaGreatRbH
import Derived.Test.YtjmglmgokfcgoaaGreatQuo
import Derived.Test.YtjmglmgokfcgoaaGreatLes
import Derived.Test.YtjmglmgokfcgoaaGreatFcp
import Derived.Test.YtjmglmgokfcgoaaGreatApt
namespace Go.Proofs.YtjmglmgokfcgoaaGreat
open Go.ChangeShapes Go.WideShapes Go.ChangeAt Go.RowKit
set_option maxRecDepth 100000 in
theorem lifted_s16n (f:Nat) (fn:Func) (hp:fn.params=#[37,60]) (hr:fn.resultTypes=#[4]) {H:Type} (enc:TypeId×Value→H) (spec:ChangeSpec) (hsv:spec.vars=[]) (hsf:∀ d d',spec.fn H [d,d']={ results:=[.lit (.bool true)],args:=[d,d'] })
 (walk:∀ A len cap p n w,I16At w A len cap p→len≤9223372036854775807→(-32768≤n∧n≤32767)→Calls Tryz.prog f #[.slice A len cap,.int .i16 n] w fun e w'=>e=.returned (.bool true)∧Below w.heap.size w w')
 (W:World) (args:Array Value) (ds gs:List (DataW H)) (before:List MemPlace)
 (hval:∀ (j:Nat) t v,fn.params[j]?=some t→args[j]?=some v→Value.okWide Tryz.prog W .any 0 t v)
 (hW:DataW.Whole enc Tryz.prog fn.params.toList spec.vars false W args.toList ds gs before) :
 Calls Tryz.prog f args W fun e W'=>∃ v,e=Ending.returned v∧spec.post enc Tryz.prog fn false true false false W args v W':=by
 have hW':=hW
 obtain ⟨p,q,hA0,hV,rfl,_,_⟩:=hW
 have hA:DataW.TrodAll enc Tryz.prog W 0 (fun _=>true) true fn.params.toList args.toList ds p:=hA0
 rw [hp] at hA hval
 obtain ⟨v0,v1,d0,d1,p0,p1,rfl,rfl,rfl,h0,h1⟩:=trodAll_two hA
 rw [hsv] at hV
 obtain ⟨rfl,rfl⟩:=trodVars_none hV
 obtain ⟨a0,len,cap,rfl⟩:=okWide_slice Tryz.underlying37 (hval 0 37 v0 rfl rfl)
 obtain ⟨n,rfl,rfl,rfl,wn⟩:=open_int Tryz.underlying60 (hval 1 60 v1 rfl rfl) h1
 simp only [List.append_nil] at hW'
 have hlt:∀ x∈p0,x.block<W.heap.size:=fun x hx=>by simpa using hW'.lt x hx
 obtain ⟨hlm,zs,hat⟩:=open_i16 h0 hlt
 refine (walk a0 len cap zs n W hat hlm (i16_wf wn)).mono fun e W' ⟨he,hb⟩=>?_
 subst he
 refine ⟨_,rfl,post_below (pa:=p0) (pv:=[]) hW' (fun _ _ _=>?_) (fun sp hs=>?_) (fun _ _=>?_) (by simp) hb ?_⟩
 ·rw [List.append_nil,hsf,hr]
  exact trodAll_mk1 (shut_bool Tryz.underlying4 _)
 ·rw [List.append_nil,hsf,hp]
  have h3:=trodAll_mk2 (Go.WideElems.Trod_stays Tryz.laidOut (by kernel_rfl) (of_decide_eq_true (by kernel_rfl)) h0 (fun x hx=>hb.same (hlt x hx)) hs) (shut_int (enc:=enc) (w:=W') (base:=0) (spare:=sp) (held:=true) Tryz.underlying60 wn)
  simpa using h3
 ·rw [hsv,List.append_nil,hsf]
  rfl
 ·exact ok_one hr rfl (okWide_bool_mk Tryz.underlying4 _)
end Go.Proofs.YtjmglmgokfcgoaaGreat
namespace Go.Proofs.YtjmglmgokfcgoaaGreat
open Go.RowKit
theorem pv_bd {H M:Rat} (hH:0≤H) (hM:1≤M):∀ (p:List Int),(∀ c∈p,-H≤(c:Rat)∧(c:Rat)≤H)→∀ q,-M≤q→q≤M→-((p.length:Rat)*H*M^p.length)≤pv p q∧pv p q≤(p.length:Rat)*H*M^p.length
 | [],_,q,_,_=>by
   show -(((0:Nat):Rat)*H*M^0)≤0∧(0:Rat)≤((0:Nat):Rat)*H*M^0
   have:((0:Nat):Rat)=0:=rfl
   rw [this]
   constructor<;>grind
 | a :: t,h,q,h1,h2=>by
   obtain ⟨ih1,ih2⟩:=pv_bd hH hM t (fun c hc=>h c (List.mem_cons_of_mem _ hc)) q h1 h2
   obtain ⟨a1,a2⟩:=h a (List.mem_cons_self ..)
   have hp:1≤M^t.length:=by
    have:∀ n:Nat,1≤M^n:=by
     intro n
     induction n with
     | zero=>rw [Rat.pow_zero];exact Rat.le_refl
     | succ n ih =>
       rw [Rat.pow_succ]
       have:=Rat.mul_le_mul_of_nonneg_left hM (show 0≤M^n by grind)
       grind
    exact this _
   show -(((t.length+1:Nat):Rat)*H*M^(t.length+1))≤(a:Rat)+q*pv t q∧(a:Rat)+q*pv t q≤((t.length+1:Nat):Rat)*H*M^(t.length+1)
   have e:((t.length+1:Nat):Rat)=(t.length:Rat)+1:=by push_cast;rfl
   rw [e,Rat.pow_succ]
   have hn:(0:Rat)≤(t.length:Rat):=by exact_mod_cast Nat.zero_le _
   generalize M^t.length=P at *
   generalize (t.length:Rat)=n at *
   generalize (a:Rat)=u at *
   generalize pv t q=v at *
   have hB:0≤n*H*P:=Rat.mul_nonneg (Rat.mul_nonneg hn hH) (by grind)
   have hb:=rmul_bd h1 h2 ih1 ih2
   have hHP:H≤H*(P*M):=by
    have h3:1≤P*M:=by
     have:=Rat.mul_le_mul_of_nonneg_left hM (show 0≤P by grind)
     grind
    have:=Rat.mul_le_mul_of_nonneg_left h3 hH
    grind
   constructor<;>grind
theorem pv_lip {H M:Rat} (hH:0≤H) (hM:1≤M):∀ (p:List Int),(∀ c∈p,-H≤(c:Rat)∧(c:Rat)≤H)→∀ q r,-M≤q→q≤M→-M≤r→r≤M→r≤q→-((p.length:Rat)*(p.length:Rat)*H*M^p.length*(q-r))≤pv p q-pv p r∧pv p q-pv p r≤(p.length:Rat)*(p.length:Rat)*H*M^p.length*(q-r)
 | [],_,q,r,_,_,_,_,_=>by
   show -(((0:Nat):Rat)*((0:Nat):Rat)*H*M^0*(q-r))≤0-0∧(0:Rat)-0≤((0:Nat):Rat)*((0:Nat):Rat)*H*M^0*(q-r)
   have:((0:Nat):Rat)=0:=rfl
   rw [this]
   constructor<;>grind
 | a :: t,h,q,r,h1,h2,h3,h4,h5=>by
   have ht:∀ c∈t,-H≤(c:Rat)∧(c:Rat)≤H:=fun c hc=>h c (List.mem_cons_of_mem _ hc)
   obtain ⟨ih1,ih2⟩:=pv_lip hH hM t ht q r h1 h2 h3 h4 h5
   obtain ⟨b1,b2⟩:=pv_bd hH hM t ht r h3 h4
   have hp:0≤M^t.length:=Rat.pow_nonneg (by grind)
   show -(((t.length+1:Nat):Rat)*((t.length+1:Nat):Rat)*H*M^(t.length+1)*(q-r))≤(a:Rat)+q*pv t q-((a:Rat)+r*pv t r)∧(a:Rat)+q*pv t q-((a:Rat)+r*pv t r)≤((t.length+1:Nat):Rat)*((t.length+1:Nat):Rat)*H*M^(t.length+1)*(q-r)
   have e:((t.length+1:Nat):Rat)=(t.length:Rat)+1:=by push_cast;rfl
   rw [e,Rat.pow_succ]
   have hn:(0:Rat)≤(t.length:Rat):=by exact_mod_cast Nat.zero_le _
   generalize M^t.length=P at *
   generalize (t.length:Rat)=n at *
   generalize (a:Rat)=u at *
   generalize pv t q=v at *
   generalize pv t r=s at *
   obtain ⟨d,hd⟩:∃ d,d=q-r:=⟨_,rfl⟩
   have hd0:0≤d:=by grind
   have c1:=rmul_bd h1 h2 ih1 ih2
   have c2:-(n*H*P*d)≤s*d∧s*d≤n*H*P*d:=by
    have x1:=Rat.mul_le_mul_of_nonneg_right b1 hd0
    have x2:=Rat.mul_le_mul_of_nonneg_right b2 hd0
    constructor<;>grind
   have hHP:0≤H*P*d:=Rat.mul_nonneg (Rat.mul_nonneg hH hp) hd0
   have hMd:H*P*d≤M*(H*P*d):=by
    have:=Rat.mul_le_mul_of_nonneg_right hM hHP
    grind
   have hn2:n*(H*P*d)≤n*(M*(H*P*d)):=Rat.mul_le_mul_of_nonneg_left hMd hn
   have hn3:0≤n*(M*(H*P*d)):=Rat.mul_nonneg hn (by grind)
   have e2:u+q*v-(u+r*s)=q*(v-s)+s*d:=by rw [hd];grind
   rw [e2,← hd]
   rw [← hd] at c1
   constructor<;>grind
section
variable {f g:List Int} {m n G e N H:Nat}
theorem SInv.uv (ok:GOK G m n e N) (hlow:∀ p,Comb f g p→1≤plen p→e+1≤plen p) (hf:∀ k,(f.getD k 0).natAbs*(m+n)≤G) (hg:∀ k,(g.getD k 0).natAbs*(m+n)≤G) (bf:∀ k,(f.getD k 0).natAbs≤H) (bg:∀ k,(g.getD k 0).natAbs≤H):∀ (k:Nat) (t:RS) (C:Int),SInv f g m n G e t C→t.b.length≤k→2≤t.b.length→plen (lst t.b (rsq k t))=1 →
 ∃ (U V:List Int) (c:Int),c≠0∧U.length≤n∧V.length≤m∧(∀ t,(U.getD t 0).natAbs≤((n+m)*H+1)^(n+m))∧(∀ t,(V.getD t 0).natAbs≤((n+m)*H+1)^(n+m))∧∀ x,ev U x*ev f x+ev V x*ev g x=c
 | 0,t,C,h,hk,h2,_=>by omega
 | k+1,t,C,h,hk,h2,hl=>by
   by_cases hr:psr t.a t.b=[]
   ·have e1:rsq (k+1) t=[]:=by simp [rsq,hr]
    rw [e1] at hl
    have:plen t.b=1:=hl
    have:=h.tb
    omega
   ·obtain ⟨_,s2,s3⟩:=h.step ok hlow hf hg hr
    have e1:rsq (k+1) t=t.rest :: rsq k t.next:=by rw [rsq,if_neg hr]
    rw [e1] at hl
    have hl':plen (lst t.next.b (rsq k t.next))=1:=hl
    have hb0:1≤t.rest.length:=s2.b0
    by_cases h1:t.rest.length=1
    ·obtain ⟨U,V,u1,u2,u3,u4,u5⟩:=sres_uv (f:=f) (g:=g) (m:=m) (n:=n) (j:=t.b.length-1-1) (H:=H) bf bg
     have hrest:=fun k=>(h.rest hr k).1
     have tr:=h.restTrim hr
     have hbd:((n-(t.b.length-1-1)+(m-(t.b.length-1-1)))*H)^(n-(t.b.length-1-1)+(m-(t.b.length-1-1))-1)≤((n+m)*H+1)^(n+m):=by
      have x1:(n-(t.b.length-1-1)+(m-(t.b.length-1-1)))*H≤(n+m)*H+1:=Nat.le_succ_of_le (Nat.mul_le_mul_right _ (by omega))
      exact Nat.le_trans (Nat.pow_le_pow_left x1 _) (Nat.pow_le_pow_right (by omega) (by omega))
     refine ⟨U,V,sres (fn f) m (fn g) n (t.b.length-1-1) 0,?_,by omega,by omega,fun t=>Nat.le_trans (u3 t) hbd,fun t=>Nat.le_trans (u4 t) hbd,fun x=>?_⟩
     ·have x1:=hrest 0
      have x2:t.rest.getD 0 0≠0:=plen_lead t.rest 0 (by omega)
      omega
     ·have x1:∀ k,(polymul U f).getD k 0+(polymul V g).getD k 0=[sres (fn f) m (fn g) n (t.b.length-1-1) 0].getD k 0:=fun k=>by
       rw [polymul_getD,polymul_getD,← u5 k]
       match k with
       | 0=>rfl
       | k+1 =>
         have x2:=hrest (k+1)
         rw [getD_out t.rest (by omega)] at x2
         have x3:sres (fn f) m (fn g) n (t.b.length-1-1) (k+1)=0:=by
          have:(0:Int).natAbs=0:=rfl
          omega
         rw [x3];rfl
      have x2:ev (padd (polymul U f) (polymul V g)) x=ev [sres (fn f) m (fn g) n (t.b.length-1-1) 0] x:=ev_congr (fun k=>by rw [← x1 k,padd_get]) x
      rw [ev_padd,ev_mul,ev_mul,ev_const] at x2
      exact x2
    ·exact SInv.uv ok hlow hf hg bf bg k t.next _ s2 (by show t.rest.length≤k;omega) (by show 2≤t.rest.length;omega) hl'
end
theorem bez {S:List Int} {k:Nat} (tS:ptrim S=S) (l2:2≤plen S) (l10:plen S≤10) (hb:∀ j,(S.getD j 0).natAbs≤BB^k) (hk:k≤60) (hc:∀ p,Dvq p S→Dvq p (pder S)→plen p≤1) :
 ∃ (U V:List Int) (c:Int),c≠0∧U.length≤10∧V.length≤10∧(∀ j,(U.getD j 0).natAbs≤BB^(20*(k+3)))∧(∀ j,(V.getD j 0).natAbs≤BB^(20*(k+3)))∧∀ x,ev U x*ev S x+ev V x*ev (pder S) x=c:=by
 have lS:S.length=plen S:=by rw [← ptrim_length,tS]
 have pd:=pder_plen l2
 have ld:(pder S).length=plen S-1:=pder_length S
 have hd:∀ j,((pder S).getD j 0).natAbs≤BB^(k+1):=pder_abs (by omega) hb
 have hb':∀ j,(S.getD j 0).natAbs≤BB^(k+1):=fun j=>Nat.le_trans (hb j) (bbk_le (by omega))
 by_cases l3:plen S=2
 ·have e1:plen (pder S)=1:=by omega
  refine ⟨[],[1],(pder S).getD 0 0,plen_lead _ 0 (by omega),by decide,by decide,fun j=>by simp,fun j=>?_,fun x=>?_⟩
  ·have h1:1≤BB^(20*(k+3)):=Nat.pow_pos BB_pos
   match j with
   | 0=>exact h1
   | j+1=>simp
  ·rw [ev_nil,ev_const,Int.zero_mul,Int.zero_add,Int.one_mul]
   rw [ev_congr (p:=pder S) (q:=[(pder S).getD 0 0]) (fun j=>?_) x,ev_const]
   match j with
   | 0=>rfl
   | j+1=>rw [getD_ge_plen (pder S) (j+1) (by omega)];rfl
 ·obtain ⟨m,hm⟩:∃ m,plen S=m+1:=⟨plen S-1,by omega⟩
  obtain ⟨n,hn⟩:∃ n,m=n+1:=⟨m-1,by omega⟩
  have hG:1≤BB^(k+2):=Nat.pow_pos BB_pos
  have ok:GOK (BB^(k+2)) m n 0 1100:=gok_big (by omega) hG (Nat.pow_lt_pow_right (by rw [BB_eq];decide) (by omega))
  have up:∀ {x:Nat},x≤BB^(k+1)→x*(m+n)≤BB^(k+2):=fun hx=>by
   rw [Nat.pow_succ]
   exact Nat.mul_le_mul hx (by rw [BB_eq];omega)
  have hs:=sinv_start (f:=S) (g:=pder S) (m:=m) (n:=n) (G:=BB^(k+2)) (e:=0) (by omega) (by omega) (by omega) (by omega) (by omega) (by omega) hG (fun j=>Nat.le_trans (hb' j) (bbk_le (by omega))) (fun j=>Nat.le_trans (hd j) (bbk_le (by omega)))
  have hlow:∀ p,Comb S (pder S) p→1≤plen p→0+1≤plen p:=fun p _ h=>by omega
  obtain ⟨_,d1,d2⟩:=SInv.spec ok hlow (fun j=>up (hb' j)) (fun j=>up (hd j)) 20 _ _ hs (by show (pder S).length≤20;omega)
  obtain ⟨L,hL⟩:∃ L,L=lst (pder S) (rsq 20 ⟨S,pder S,-1,(-1)^(S.length-(pder S).length+1)⟩):=⟨_,rfl⟩
  have hl1:plen L≤1:=by rw [hL];exact hc _ d1 d2
  have hl0:plen L≠0:=by
   rw [hL]
   intro e0
   obtain ⟨c,q,hc0,e⟩:=d2
   have:plen (pder S)=0:=by
    refine Classical.byContradiction fun hn=>?_
    refine (plen_cmul (p:=pder S) (r:=psc c (pder S)) hc0 (fun t=>ev_psc _ _ _)).2 hn ?_
    rw [plen_ev (r:=polymul q (lst (pder S) (rsq 20 ⟨S,pder S,-1,(-1)^(S.length-(pder S).length+1)⟩))) fun t=>by rw [ev_psc,ev_mul,e]]
    exact rmul_zero (.inr e0)
   omega
  obtain ⟨U,V,c,c0,u1,u2,u3,u4,u5⟩:=SInv.uv ok hlow (fun j=>up (hb' j)) (fun j=>up (hd j)) hb' hd 20 _ _ hs (by show (pder S).length≤20;omega) (by show 2≤(pder S).length;omega) (by show plen (lst (pder S) _)=1;rw [← hL];omega)
  have hbd:((n+m)*BB^(k+1)+1)^(n+m)≤BB^(20*(k+3)):=by
   have x1:(n+m)*BB^(k+1)+1≤BB^(k+2):=by
    have:BB^(k+1)*20≤BB^(k+1)*BB:=Nat.mul_le_mul_left _ (by rw [BB_eq];decide)
    have h1:1≤BB^(k+1):=Nat.pow_pos BB_pos
    have h2:(n+m)*BB^(k+1)≤19*BB^(k+1):=Nat.mul_le_mul_right _ (by omega)
    have e9:BB^(k+2)=BB^(k+1)*BB:=Nat.pow_succ ..
    rw [e9]
    omega
   calc ((n+m)*BB^(k+1)+1)^(n+m)≤(BB^(k+2))^(n+m):=Nat.pow_le_pow_left x1 _
    _=BB^((k+2)*(n+m)):=by rw [← Nat.pow_mul]
    _≤BB^(20*(k+3)):=bbk_le (by
     have:(k+2)*(n+m)≤(k+2)*20:=Nat.mul_le_mul_left _ (by omega)
     omega)
  exact ⟨U,V,c,c0,by omega,by omega,fun j=>Nat.le_trans (u3 j) hbd,fun j=>Nat.le_trans (u4 j) hbd,u5⟩
end Go.Proofs.YtjmglmgokfcgoaaGreat
namespace Go.Proofs.YtjmglmgokfcgoaaGreat
open Go.RowKit
structure Core (Q S:List Int):Prop where
 t:ptrim S=S
 n:plen S≠0
 d:∃ T:List Int,∀ x,ev Q x=ev S x*ev T x
 r:∀ x,sgp S x=0↔sgp Q x=0
theorem core_ex {Q:List Int} {k:Nat} (h:SqF Q k):∀ (n:Nat) (S:List Int),plen S≤n→Core Q S→∃ S',Core Q S'∧∀ p,Dvq p S'→Dvq p (pder S')→plen p≤1:=by
 intro n
 induction n with
 | zero=>intro S hn hS;exact absurd hS.n (by omega)
 | succ n ih =>
   intro S hn hS
   by_cases hc:∀ p,Dvq p S→Dvq p (pder S)→plen p≤1
   ·exact ⟨S,hS,hc⟩
   ·obtain ⟨p,hp⟩:=Classical.not_forall.1 hc
    obtain ⟨p1,hp⟩:=Classical.not_imp.1 hp
    obtain ⟨p2,hp⟩:=Classical.not_imp.1 hp
    have p0:plen p≠0:=by omega
    obtain ⟨c,q,hc0,e⟩:=p1
    have hk:=gp_ne p0
    have e2:∀ x,ev p x=(sg (plead p)*(pcont p:Int))*ev (pprim p) x:=fun x=>by
     rw [← ev_psc]
     exact ev_congr (fun k=>by rw [psc_get];exact gp_get p0 k) x
    obtain ⟨s,hs⟩:=gauss_div (l:=pprim p) (f:=S) (r:=psc (sg (plead p)*(pcont p:Int)) q) (gp_cont p0) hc0 (fun x=>by rw [e,e2,ev_psc];grind)
    obtain ⟨T,hT⟩:∃ T,T=ptrim s:=⟨_,rfl⟩
    have hST:∀ x,ev S x=ev (pprim p) x*ev T x:=fun x=>by rw [hT,ev_ptrim];exact hs x
    have T0:plen T≠0:=fun e0=>hS.n (by rw [plen_ev (r:=polymul (pprim p) T) fun x=>by rw [ev_mul,hST]];exact rmul_zero (.inr e0))
    have q0:plen (pprim p)≠0:=by rw [gp_plen];exact p0
    have hl:plen S=plen (pprim p)+plen T-1:=by
     rw [plen_ev (r:=polymul (pprim p) T) fun x=>by rw [ev_mul,hST]]
     exact (plen_mul (by omega) (by omega)).1
    rw [gp_plen] at hl
    obtain ⟨W,hW⟩:=hS.d
    have hm:∀ x,mult x S=mult x (pprim p)+mult x T:=mult_ev_mul hST q0 T0
    have hpm:∀ x,mult x p=mult x (pprim p):=mult_cmul hk e2 q0
    refine ih T (by omega) ⟨by rw [hT,ptrim_ptrim],T0,⟨polymul (pprim p) W,fun x=>by rw [hW,hST,ev_mul];grind⟩,fun x=>?_⟩
    constructor
    ·intro hx
     rw [← hS.r,sgp_ev (r:=polymul (pprim p) T) (fun x=>by rw [ev_mul,hST]) x,sgp_mul,hx,Int.mul_zero]
    ·intro hx
     have hx':=(hS.r x).2 hx
     have h1:=h.s x
     have h2:mult x S≤mult x Q:=dvq_mult ⟨1,W,by decide,fun x=>by rw [Int.one_mul,hW,Int.mul_comm]⟩ h.q0 x
     obtain ⟨h3,h4⟩:=mult_pder hS.n hx'
     have h5:=dvq_mult p2 h4 x
     have h6:=hm x
     have h7:=hpm x
     refine Classical.byContradiction fun hn=>?_
     have h8:=(mult_zero T0).2 hn
     omega
theorem core {Q:List Int} {k:Nat} (h:SqF Q k):∃ S,Core Q S∧∀ p,Dvq p S→Dvq p (pder S)→plen p≤1 :=
 core_ex h (plen Q) Q (Nat.le_refl _) ⟨h.t,h.q0,⟨[1],fun x=>by rw [ev_const,Int.mul_one]⟩,fun _=>Iff.rfl⟩
theorem int_abs_rat {c:Int} {N:Nat} (h:c.natAbs≤N):-((N:Nat):Rat)≤(c:Rat)∧(c:Rat)≤((N:Nat):Rat):=by
 have h1:(c:Int)≤(N:Int):=by omega
 have h2:-(N:Int)≤c:=by omega
 constructor
 ·have:(((-(N:Int)):Int):Rat)≤((c:Int):Rat):=Rat.intCast_le_intCast.2 h2
  rw [Rat.intCast_neg,Rat.intCast_natCast] at this
  exact this
 ·have:((c:Int):Rat)≤(((N:Int)):Rat):=Rat.intCast_le_intCast.2 h1
  rw [Rat.intCast_natCast] at this
  exact this
theorem coef_rat {p:List Int} {N:Nat} (h:∀ j,(p.getD j 0).natAbs≤N):∀ c∈p,-((N:Nat):Rat)≤(c:Rat)∧(c:Rat)≤((N:Nat):Rat):=fun c hc=>by
 obtain ⟨j,hj⟩:=List.getElem?_of_mem hc
 have e1:p.getD j 0=c:=by rw [List.getD_eq_getElem?_getD,hj];rfl
 rw [← e1]
 exact int_abs_rat (h j)
theorem pow_one_le {M:Rat} (hM:1≤M):∀ n:Nat,1≤M^n:=by
 intro n
 induction n with
 | zero=>rw [Rat.pow_zero];exact Rat.le_refl
 | succ n ih =>
   rw [Rat.pow_succ]
   have:=Rat.mul_le_mul_of_nonneg_left hM (show 0≤M^n by grind)
   grind
theorem pow_up {M:Rat} (hM:1≤M) {a b:Nat} (h:a≤b):M^a≤M^b:=by
 obtain ⟨d,rfl⟩:∃ d,b=a+d:=⟨b-a,by omega⟩
 clear h
 induction d with
 | zero=>exact Rat.le_refl
 | succ d ih =>
   rw [show a+(d+1)=(a+d)+1 by omega,Rat.pow_succ]
   have h1:=pow_one_le hM (a+d)
   have:=Rat.mul_le_mul_of_nonneg_left hM (show 0≤M^(a+d) by grind)
   grind
theorem pv_bd10 {H:Nat} {M:Rat} (hM:1≤M) {p:List Int} (hl:p.length≤10) (h:∀ j,(p.getD j 0).natAbs≤H) (q:Rat) (h1:-M≤q) (h2:q≤M):-(10*(H:Rat)*M^10)≤pv p q∧pv p q≤10*(H:Rat)*M^10:=by
 have hH:(0:Rat)≤(H:Rat):=by exact_mod_cast Nat.zero_le _
 obtain ⟨b1,b2⟩:=pv_bd hH hM p (coef_rat h) q h1 h2
 have hn:((p.length:Nat):Rat)≤10:=by exact_mod_cast hl
 have hn0:(0:Rat)≤((p.length:Nat):Rat):=by exact_mod_cast Nat.zero_le _
 have hp:=pow_up hM hl
 have hp1:=pow_one_le hM p.length
 have x1:((p.length:Nat):Rat)*(H:Rat)≤10*(H:Rat):=Rat.mul_le_mul_of_nonneg_right hn hH
 have x2:((p.length:Nat):Rat)*(H:Rat)*M^p.length≤10*(H:Rat)*M^p.length:=Rat.mul_le_mul_of_nonneg_right x1 (by grind)
 have x3:10*(H:Rat)*M^p.length≤10*(H:Rat)*M^10:=Rat.mul_le_mul_of_nonneg_left hp (by grind)
 constructor<;>grind
theorem pv_lip10 {H:Nat} {M:Rat} (hM:1≤M) {p:List Int} (hl:p.length≤10) (h:∀ j,(p.getD j 0).natAbs≤H) {q r w:Rat} (h1:-M≤q) (h2:q≤M) (h3:-M≤r) (h4:r≤M) (h5:q-r≤w) (h6:r-q≤w):-(100*(H:Rat)*M^10*w)≤pv p q-pv p r∧pv p q-pv p r≤100*(H:Rat)*M^10*w:=by
 have hH:(0:Rat)≤(H:Rat):=by exact_mod_cast Nat.zero_le _
 have key:∀ {a b:Rat},-M≤a→a≤M→-M≤b→b≤M→b≤a→a-b≤w→-(100*(H:Rat)*M^10*w)≤pv p a-pv p b∧pv p a-pv p b≤100*(H:Rat)*M^10*w:=by
  intro a b k1 k2 k3 k4 k5 k6
  obtain ⟨b1,b2⟩:=pv_lip hH hM p (coef_rat h) a b k1 k2 k3 k4 k5
  have hn:((p.length:Nat):Rat)*((p.length:Nat):Rat)≤100:=by
   have:p.length*p.length≤100:=Nat.mul_le_mul hl hl
   exact_mod_cast this
  have hn0:(0:Rat)≤((p.length:Nat):Rat)*((p.length:Nat):Rat):=by
   have:(0:Nat)≤p.length*p.length:=Nat.zero_le _
   exact_mod_cast this
  have hp:=pow_up hM hl
  have hp1:=pow_one_le hM p.length
  have x1:((p.length:Nat):Rat)*((p.length:Nat):Rat)*(H:Rat)≤100*(H:Rat):=Rat.mul_le_mul_of_nonneg_right hn hH
  have x2:((p.length:Nat):Rat)*((p.length:Nat):Rat)*(H:Rat)*M^p.length≤100*(H:Rat)*M^p.length:=Rat.mul_le_mul_of_nonneg_right x1 (by grind)
  have x3:100*(H:Rat)*M^p.length≤100*(H:Rat)*M^10:=Rat.mul_le_mul_of_nonneg_left hp (by grind)
  have x4:((p.length:Nat):Rat)*((p.length:Nat):Rat)*(H:Rat)*M^p.length*(a-b)≤100*(H:Rat)*M^10*(a-b):=Rat.mul_le_mul_of_nonneg_right (by grind) (by grind)
  have x5:0≤100*(H:Rat)*M^10:=Rat.mul_nonneg (by grind) (by have:=pow_one_le hM 10;grind)
  have x6:=Rat.mul_le_mul_of_nonneg_left k6 x5
  constructor<;>grind
 rcases Rat.le_total (a:=r) (b:=q) with c | c
 ·exact key h1 h2 h3 h4 c h5
 ·obtain ⟨y1,y2⟩:=key h3 h4 h1 h2 c h6
  constructor<;>grind
noncomputable def sepD (k:Nat) (M:Rat):Rat:=2*(10*((BB^(20*(k+9)):Nat):Rat)*M^10)*(100*((BB^(k+6):Nat):Rat)*M^10)+1
theorem sep {Q:List Int} {k:Nat} (h:SqF Q k) (hk:k≤50) {M a b:Rat} (hM:1≤M) (ha:-M≤a) (hb:b≤M) {x y:Pt} (hx:sgp Q x=0) (hy:sgp Q y=0) (hxy:x<y) (hax:¬ x<Pt.of a) (hyb:¬ Pt.of b<y):1≤sepD k M*(b-a):=by
 obtain ⟨S,hS,hc⟩:=core h
 have hx':=(hS.r x).2 hx
 have hy':=(hS.r y).2 hy
 obtain ⟨T,hT⟩:=hS.d
 have hbS:∀ j,(S.getD j 0).natAbs≤BB^(k+6):=factor_le (by have:=h.len;omega) h.q0 h.b (g:=T) (fun x=>by rw [hT,Int.mul_comm])
 have hlS:plen S≤10:=Nat.le_trans (dvq_plen ⟨1,T,by decide,fun x=>by rw [Int.one_mul,hT,Int.mul_comm]⟩ h.q0) h.len
 have l2:2≤plen S:=by
  refine Classical.byContradiction fun hn=>?_
  have h1:=hS.n
  have h2:=sgp_one (p:=S) (by omega) x
  rw [hx'] at h2
  exact sg_ne (plead_ne h1) h2.symm
 obtain ⟨U,V,c,c0,u1,u2,u3,u4,u5⟩:=bez hS.t l2 hlS hbS (by omega) hc
 obtain ⟨z,xz,zy,hz⟩:=sgp_rolle hxy hx' hy'
 refine Classical.byContradiction fun hcon=>?_
 have hid:∀ q,pv U q*pv S q+pv V q*pv (pder S) q=(c:Rat):=fun q=>by
  have e1:=pv_congr (padd (polymul U S) (polymul V (pder S))) [c] (ev_inj (fun x=>by rw [ev_padd,ev_mul,ev_mul,ev_const,u5])) q
  rw [pv_padd,pv_polymul,pv_polymul] at e1
  rw [e1]
  show (c:Rat)+q*0=c
  grind
 obtain ⟨BU,hBU⟩:∃ B,B=10*((BB^(20*(k+9)):Nat):Rat)*M^10:=⟨_,rfl⟩
 obtain ⟨K,hK⟩:∃ K,K=100*((BB^(k+6):Nat):Rat)*M^10:=⟨_,rfl⟩
 have hp10:=pow_one_le hM 10
 have hBU0:1≤BU:=by
  have:(1:Rat)≤((BB^(20*(k+9)):Nat):Rat):=by
   have:1≤BB^(20*(k+9)):=Nat.pow_pos BB_pos
   exact_mod_cast this
  rw [hBU]
  have:=Rat.mul_le_mul_of_nonneg_left hp10 (show 0≤10*((BB^(20*(k+9)):Nat):Rat) by grind)
  grind
 have hK0:0≤K:=by
  rw [hK]
  have:(0:Rat)≤((BB^(k+6):Nat):Rat):=by exact_mod_cast Nat.zero_le _
  exact Rat.mul_nonneg (by grind) (by grind)
 have hD:sepD k M=2*BU*K+1:=by unfold sepD;rw [← hBU,← hK]
 rw [hD] at hcon
 obtain ⟨e,he⟩:∃ e:Rat,e=1 / (8*BU):=⟨_,rfl⟩
 have he0:0<e:=by rw [he,Rat.div_def,Rat.one_mul];exact Rat.inv_pos.2 (by grind)
 have heB:BU*e=1 / 8:=by rw [he,Rat.div_def,Rat.div_def];grind
 obtain ⟨l1,v1,n1,f1⟩:=sgf_sml (lp_pv S) hx' e he0
 obtain ⟨l3,v3,n3,f3⟩:=sgf_sml (lp_pv (pder S)) hz e he0
 -- r beside x, q beside z, both between x and y
 obtain ⟨y1,w1,w2,w3⟩:=Pt.two_up (x:=x) (a:=Pt.of v1) (b:=z) (Pt.lt_of.2 n1.2) xz
 obtain ⟨r,r1,r2⟩:=Pt.mid w1
 obtain ⟨y2,w4,w5,w6⟩:=Pt.two_lo (x:=z) (a:=Pt.of l3) (b:=x) (Pt.of_lt.2 n3.1) xz
 obtain ⟨q,q1,q2⟩:=Pt.mid w4
 have hlr:l1<r:=Pt.of_lt_of.1 (Pt.lt_trans (Pt.of_lt.2 n1.1) r1)
 have hrv:r<v1:=Pt.of_lt_of.1 (Pt.lt_trans r2 w2)
 have hlq:l3<q:=Pt.of_lt_of.1 (Pt.lt_trans w5 q1)
 have hqv:q<v3:=Pt.of_lt_of.1 (Pt.lt_trans q2 (Pt.lt_of.2 n3.2))
 have hle:∀ {s t:Pt},¬ s<t→∀ {r:Pt},s<r→t<r:=fun {s t} h {r} h1=>by
  rcases Pt.tri s t with c | c | c
  ·exact absurd c h
  ·rw [← c];exact h1
  ·exact Pt.lt_trans c h1
 have hge:∀ {s t:Pt},¬ s<t→∀ {r:Pt},r<t→r<s:=fun {s t} h {r} h1=>by
  rcases Pt.tri s t with c | c | c
  ·exact absurd c h
  ·rw [c];exact h1
  ·exact Pt.lt_trans h1 c
 have har:a<r:=Pt.of_lt_of.1 (hle hax r1)
 have hrb:r<b:=Pt.of_lt_of.1 (hge hyb (Pt.lt_trans r2 (Pt.lt_trans w3 zy)))
 have haq:a<q:=Pt.of_lt_of.1 (hle hax (Pt.lt_trans w6 q1))
 have hqb:q<b:=Pt.of_lt_of.1 (hge hyb (Pt.lt_trans q2 zy))
 obtain ⟨s1,s2⟩:=f1 r hlr hrv
 obtain ⟨s3,s4⟩:=f3 q hlq hqv
 have hlS':S.length≤10:=by rw [← hS.t,ptrim_length];exact hlS
 obtain ⟨p1,p2⟩:=pv_lip10 (w:=b-a) hM hlS' hbS (q:=q) (r:=r) (by grind) (by grind) (by grind) (by grind) (by grind) (by grind)
 rw [← hK] at p1 p2
 obtain ⟨b1,b2⟩:=pv_bd10 hM u1 u3 q (by grind) (by grind)
 obtain ⟨b3,b4⟩:=pv_bd10 hM u2 u4 q (by grind) (by grind)
 rw [show k+6+3=k+9 by omega,← hBU] at b1 b2 b3 b4
 have hs:=hid q
 obtain ⟨w,hw⟩:∃ w,w=b-a:=⟨_,rfl⟩
 rw [← hw] at p1 p2 hcon
 have hw0:0<w:=by rw [hw];grind
 have m1:=rmul_bd (a:=pv U q) (b:=pv S q) (e:=BU) (k:=e+K*w) b1 b2 (by grind) (by grind)
 have m2:=rmul_bd (a:=pv V q) (b:=pv (pder S) q) (e:=BU) (k:=e) b3 b4 s3 s4
 have hKw:0≤BU*(K*w):=Rat.mul_nonneg (by grind) (Rat.mul_nonneg hK0 (by grind))
 have ec:BU*(e+K*w)=1 / 8+BU*(K*w):=by rw [Rat.mul_add,heB]
 have hcc:(1:Rat)≤(c:Rat)∨(c:Rat)≤-1:=by
  rcases Int.lt_or_lt_of_ne c0 with h1 | h1
  ·right
   have:((c:Int):Rat)≤((-1:Int):Rat):=Rat.intCast_le_intCast.2 (by omega)
   exact this
  ·left
   have:((1:Int):Rat)≤((c:Int):Rat):=Rat.intCast_le_intCast.2 (by omega)
   exact this
 have hcon2:2*(BU*(K*w))+w<1:=by
  have:(2*BU*K+1)*w<1:=by grind
  grind
 rcases hcc with h1 | h1<;>grind
end Go.Proofs.YtjmglmgokfcgoaaGreat
namespace Go.Proofs.YtjmglmgokfcgoaaGreat
open Go.RowKit
structure Fq where
 z:Int
 q:Nat
def Fq.v (a:Fq):Rat:=(a.z:Rat) / (a.q:Rat)
def Fq.p (a:Fq):Pt:=Pt.of a.v
def Fq.nf (a:Fq):Fq:=⟨rz a.z a.q,rq a.z a.q⟩
def Fq.mid (a b:Fq):Fq:=⟨(a.z*(b.q:Int)+b.z*(a.q:Int)).tdiv (Nat.gcd (a.z*(b.q:Int)+b.z*(a.q:Int)).natAbs (a.q*b.q*2)),a.q*b.q*2 / Nat.gcd (a.z*(b.q:Int)+b.z*(a.q:Int)).natAbs (a.q*b.q*2)⟩
theorem nf_v {z:Int} {q:Nat} (hq:0<q):((rz z q:Int):Rat) / ((rq z q:Nat):Rat)=(z:Rat) / (q:Rat)∧0<rq z q∧Nat.gcd (rz z q).natAbs (rq z q)=1:=by
 obtain ⟨g,hg⟩:∃ g,g=Nat.gcd z.natAbs q:=⟨_,rfl⟩
 have hg0:0<g:=by rw [hg];exact Nat.gcd_pos_of_pos_right _ hq
 have hd1:(g:Int)∣z:=by rw [hg,← Int.natAbs_dvd_natAbs,Int.natAbs_natCast];exact Nat.gcd_dvd_left _ _
 have hd2:g∣q:=by rw [hg];exact Nat.gcd_dvd_right _ _
 obtain ⟨a,ha⟩:=hd1
 obtain ⟨b,hb⟩:=hd2
 have e1:rz z q=a:=by unfold rz;rw [← hg,ha,Int.mul_tdiv_cancel_left _ (by omega)]
 have e2:rq z q=b:=by unfold rq;rw [← hg,hb,Nat.mul_div_cancel_left _ hg0]
 have hb0:0<b:=Nat.pos_of_ne_zero fun h=>by rw [h,Nat.mul_zero] at hb;omega
 rw [e1,e2]
 refine ⟨?_,hb0,?_⟩
 ·have hbr:(0:Rat)<((b:Nat):Rat):=by exact_mod_cast hb0
  have hgr:(0:Rat)<((g:Nat):Rat):=by exact_mod_cast hg0
  have hgb:=Rat.mul_pos hgr hbr
  rw [ha,hb,Rat.intCast_mul,Rat.natCast_mul,Rat.intCast_natCast,Rat.div_def,Rat.div_def]
  generalize ((g:Nat):Rat)=x at *
  generalize ((b:Nat):Rat)=y at *
  generalize ((a:Int):Rat)=u at *
  grind
 ·have h1:Nat.gcd z.natAbs q=g*Nat.gcd a.natAbs b:=by
   rw [ha,hb,Int.natAbs_mul,Int.natAbs_natCast,Nat.gcd_mul_left]
  rw [← hg] at h1
  exact Nat.eq_of_mul_eq_mul_left hg0 (by rw [← h1,Nat.mul_one])
theorem Fq.nf_v {a:Fq} (h:0<a.q):a.nf.v=a.v∧0<a.nf.q:=⟨(Go.Proofs.YtjmglmgokfcgoaaGreat.nf_v h).1,(Go.Proofs.YtjmglmgokfcgoaaGreat.nf_v h).2.1⟩
theorem Fq.mid_v {a b:Fq} (ha:0<a.q) (hb:0<b.q):(a.mid b).v=(a.v+b.v) / 2∧0<(a.mid b).q:=by
 have hq:0<a.q*b.q*2:=Nat.mul_pos (Nat.mul_pos ha hb) (by decide)
 obtain ⟨h1,h2,_⟩:=Go.Proofs.YtjmglmgokfcgoaaGreat.nf_v (z:=a.z*(b.q:Int)+b.z*(a.q:Int)) hq
 refine ⟨?_,h2⟩
 show ((rz (a.z*(b.q:Int)+b.z*(a.q:Int)) (a.q*b.q*2):Int):Rat) / ((rq (a.z*(b.q:Int)+b.z*(a.q:Int)) (a.q*b.q*2):Nat):Rat)=_
 rw [h1]
 unfold Fq.v
 have x1:(0:Rat)<((a.q:Nat):Rat):=by exact_mod_cast ha
 have x2:(0:Rat)<((b.q:Nat):Rat):=by exact_mod_cast hb
 rw [Rat.intCast_add,Rat.intCast_mul,Rat.intCast_mul,Rat.natCast_mul,Rat.natCast_mul,Rat.intCast_natCast,Rat.intCast_natCast]
 rw [Rat.div_def,Rat.div_def,Rat.div_def,Rat.div_def]
 have x3:=Rat.mul_pos x1 x2
 have e2:((2:Nat):Rat)=2:=rfl
 rw [e2]
 generalize ((a.q:Nat):Rat)=s at *
 generalize ((b.q:Nat):Rat)=t at *
 generalize ((a.z:Int):Rat)=u at *
 generalize ((b.z:Int):Rat)=v at *
 grind
def Fq.chg (PS:List (List Int)) (a:Fq):Nat:=(vst (PS.map (sat a.z a.q)) PS.length).1
def Fq.sgn (Q:List Int) (a:Fq):Int:=sat a.z a.q Q
def isl (Q:List Int) (PS:List (List Int)):Nat→Fq→Fq→List (Fq×Fq)
 | 0,_,_=>[]
 | n+1,a,b =>
   if (a.chg PS:Int)-(b.chg PS:Int)-(if b.sgn Q=0 then 1 else 0)<1 then []
   else if (a.chg PS:Int)-(b.chg PS:Int)-(if b.sgn Q=0 then 1 else 0)=1∧a.sgn Q≠0∧b.sgn Q≠0 then [(a.nf,b.nf)]
   else isl Q PS n a (a.mid b) ++ (if (a.mid b).sgn Q=0 then [((a.mid b).nf,(a.mid b).nf)] else []) ++ isl Q PS n (a.mid b) b
def IsOK (Q:List Int) (PS:List (List Int)):Nat→Fq→Fq→Prop
 | 0,_,_=>False
 | n+1,a,b=>(a.chg PS:Int)-(b.chg PS:Int)-(if b.sgn Q=0 then 1 else 0)<1∨((a.chg PS:Int)-(b.chg PS:Int)-(if b.sgn Q=0 then 1 else 0)=1∧a.sgn Q≠0∧b.sgn Q≠0)∨(IsOK Q PS n a (a.mid b)∧IsOK Q PS n (a.mid b) b)
def Iso (Q:List Int) (x:Pt) (r:Fq×Fq):Prop :=
 0<r.1.q∧0<r.2.q∧((r.1=r.2∧x=r.1.p)∨(r.1.v<r.2.v∧sgp Q r.1.p≠0∧sgp Q r.2.p≠0∧r.1.p<x∧x<r.2.p∧∀ y,sgp Q y=0→r.1.p<y→y<r.2.p→y=x))
inductive Isl (Q:List Int):List Pt→List (Fq×Fq)→Rat→Rat→Prop
 | nil (a b:Rat) (h:a≤b):Isl Q [] [] a b
 | cons {x:Pt} {xs:List Pt} {r:Fq×Fq} {l:List (Fq×Fq)} {a c b:Rat} (h:Iso Q x r) (h1:a≤r.1.v) (h2:r.2.v≤c) (h3:Isl Q xs l c b):Isl Q (x :: xs) (r :: l) a b
theorem Iso.le {Q:List Int} {x:Pt} {r:Fq×Fq} (h:Iso Q x r):r.1.v≤r.2.v:=by
 rcases h.2.2 with ⟨e,_⟩ | ⟨e,_⟩
 ·rw [e];exact Rat.le_refl
 ·grind
theorem Isl.append {Q:List Int} {xs ys:List Pt} {l k:List (Fq×Fq)} {a b c:Rat} (h:Isl Q xs l a b) (h':Isl Q ys k b c):Isl Q (xs ++ ys) (l ++ k) a c:=by
 induction h with
 | nil a b h =>
   rw [List.nil_append,List.nil_append]
   cases h' with
   | nil _ _ h2=>exact .nil _ _ (by grind)
   | cons g g1 g2 g3=>exact .cons g (by grind) g2 g3
 | cons h h1 h2 _ ih=>exact .cons h h1 h2 (ih h')
theorem Isl.length {Q:List Int} {xs:List Pt} {l:List (Fq×Fq)} {a b:Rat} (h:Isl Q xs l a b):l.length=xs.length:=by
 induction h with
 | nil=>rfl
 | cons _ _ _ _ ih=>rw [List.length_cons,List.length_cons,ih]
def Op (f:List Int) (a b:Pt) (xs:List Pt):Prop:=Lst (fun x=>sgp f x=0∧a<x∧x<b) xs
theorem Pt.of_le {a b:Rat} (h:a<b):Pt.of a<Pt.of b:=Pt.of_lt_of.2 h
section
variable {Q:List Int} {k:Nat}
theorem op_count (h:SqF Q k) (hk:k≤31) {a b:Fq} (ha:0<a.q) (hb:0<b.q) (hab:a.v<b.v) {xs:List Pt} (hx:Op Q a.p b.p xs) :
 (a.chg (pchain 12 Q (pder Q)):Int)-(b.chg (pchain 12 Q (pder Q)):Int)-(if b.sgn Q=0 then 1 else 0)=xs.length:=by
 have hcp:=h.cp (by omega)
 have hcd:CP (pder Q):=⟨by have:=plen_pder Q;have:=h.len;omega,fun j=>Nat.le_trans (pder_abs (by have:=h.len;omega) h.b j) (bbk_le (by omega))⟩
 have hok:=(chain_all hcp hcd).1
 have e1:(a.chg (pchain 12 Q (pder Q)):Int)=chv (pchain 12 Q (pder Q)) a.p:=vat_eq ha _
 have e2:(b.chg (pchain 12 Q (pder Q)):Int)=chv (pchain 12 Q (pder Q)) b.p:=vat_eq hb _
 have e3:b.sgn Q=sgp Q b.p:=sat_eq hb Q
 rw [e1,e2,e3]
 have hpt:a.p<b.p:=Pt.of_le hab
 by_cases c:sgp Q b.p=0
 ·rw [if_pos c]
  have hy:Lst (fun x=>(sgp Q x=0∧a.p<x)∧x<b.p) xs:=hx.congr fun x=>by rw [and_assoc]
  have hz:=(hy.add_top ⟨c,hpt⟩).congr (Q:=fun x=>sgp Q x=0∧a.p<x∧(x<b.p∨x=b.p)) fun x=>by rw [and_assoc]
  rw [half_count h.q0 h.s hok hpt hz,List.length_append,List.length_singleton]
  omega
 ·rw [if_neg c]
  rw [half_count h.q0 h.s hok hpt (xs:=xs) (hx.congr fun x=>⟨fun ⟨h1,h2,h3⟩=>⟨h1,h2,.inl h3⟩,fun ⟨h1,h2,h3⟩=>⟨h1,h2,by
   rcases h3 with h3 | h3
   ·exact h3
   ·exact absurd (h3 ▸ h1) c⟩⟩)]
  omega
theorem isl_spec (h:SqF Q k) (hk:k≤31):∀ (n:Nat) (a b:Fq),0<a.q→0<b.q→a.v<b.v→IsOK Q (pchain 12 Q (pder Q)) n a b→∀ xs,Op Q a.p b.p xs→Isl Q xs (isl Q (pchain 12 Q (pder Q)) n a b) a.v b.v
 | 0,_,_,_,_,_,hok,_,_=>hok.elim
 | n+1,a,b,ha,hb,hab,hok,xs,hx=>by
   have hc:=op_count h hk ha hb hab hx
   rw [isl]
   unfold IsOK at hok
   rw [hc] at hok ⊢
   by_cases c1:(xs.length:Int)<1
   ·rw [if_pos c1]
    have e:xs=[]:=List.eq_nil_of_length_eq_zero (by omega)
    rw [e]
    exact .nil _ _ (by grind)
   rw [if_neg c1]
   by_cases c2:(xs.length:Int)=1∧a.sgn Q≠0∧b.sgn Q≠0
   ·rw [if_pos c2]
    obtain ⟨x,rfl⟩:∃ x,xs=[x]:=by
     match xs,c2.1 with
     | [x],_=>exact ⟨x,rfl⟩
     | x :: y :: r,h=>exact absurd h (by rw [List.length_cons,List.length_cons];omega)
    have hxm:=(hx.2 x).1 (by simp)
    have na:=Fq.nf_v ha
    have nb:=Fq.nf_v hb
    have pa:a.nf.p=a.p:=by unfold Fq.p;rw [na.1]
    have pb:b.nf.p=b.p:=by unfold Fq.p;rw [nb.1]
    refine .cons (c:=b.v) ⟨na.2,nb.2,.inr ⟨by rw [na.1,nb.1];exact hab,?_,?_,?_,?_,?_⟩⟩ (by rw [na.1];exact Rat.le_refl) (by rw [nb.1];exact Rat.le_refl) (.nil _ _ Rat.le_refl)
    ·show sgp Q a.nf.p≠0
     rw [pa,show sgp Q a.p=a.sgn Q from (sat_eq ha Q).symm];exact c2.2.1
    ·show sgp Q b.nf.p≠0
     rw [pb,show sgp Q b.p=b.sgn Q from (sat_eq hb Q).symm];exact c2.2.2
    ·show a.nf.p<x
     rw [pa];exact hxm.2.1
    ·show x<b.nf.p
     rw [pb];exact hxm.2.2
    ·intro y hy hy1 hy2
     have hy1':a.p<y:=by rw [← pa];exact hy1
     have hy2':y<b.p:=by rw [← pb];exact hy2
     have:=(hx.2 y).2 ⟨hy,hy1',hy2'⟩
     simpa using this
   rw [if_neg c2]
   obtain ⟨k1,k2⟩:=(hok.resolve_left c1).resolve_left c2
   obtain ⟨mv,mq⟩:=Fq.mid_v ha hb
   have ham:a.v<(a.mid b).v:=by rw [mv];grind
   have hmb:(a.mid b).v<b.v:=by rw [mv];grind
   obtain ⟨m,hm⟩:∃ m,m=a.mid b:=⟨_,rfl⟩
   rw [← hm] at k1 k2 mq ham hmb ⊢
   obtain ⟨us,hu⟩:=roots_lst h.q0 (fun x=>a.p<x∧x<m.p)
   obtain ⟨vs,hv⟩:=roots_lst h.q0 (fun x=>m.p<x∧x<b.p)
   have i1:=isl_spec h hk n a m ha mq ham k1 us hu
   have i2:=isl_spec h hk n m b mq hb hmb k2 vs hv
   have p1:a.p<m.p:=Pt.of_le ham
   have p2:m.p<b.p:=Pt.of_le hmb
   have hms:m.sgn Q=sgp Q m.p:=sat_eq mq Q
   rw [hms]
   by_cases c3:sgp Q m.p=0
   ·rw [if_pos c3]
    have nm:=Fq.nf_v mq
    have pm:m.nf.p=m.p:=by unfold Fq.p;rw [nm.1]
    have hw:Op Q a.p b.p (us ++ [m.p] ++ vs):=by
     have hu2:Lst (fun x=>(sgp Q x=0∧a.p<x)∧x<m.p) us:=hu.congr fun x=>by rw [and_assoc]
     have hu3:=hu2.add_top ⟨c3,p1⟩
     refine (Lst.append hu3 hv fun x y h1 h2=>?_).congr fun x=>?_
     ·rcases h1.2 with h3 | h3
      ·exact Pt.lt_trans h3 h2.2.1
      ·rw [h3];exact h2.2.1
     ·constructor
      ·rintro (⟨⟨h1,h2⟩,h3⟩ | ⟨h1,h2,h3⟩)
       ·refine ⟨h1,h2,?_⟩
        rcases h3 with h3 | h3
        ·exact Pt.lt_trans h3 p2
        ·rw [h3];exact p2
       ·exact ⟨h1,Pt.lt_trans p1 h2,h3⟩
      ·rintro ⟨h1,h2,h3⟩
       rcases Pt.tri x m.p with e | e | e
       ·exact .inl ⟨⟨h1,h2⟩,.inl e⟩
       ·exact .inl ⟨⟨h1,h2⟩,.inr e⟩
       ·exact .inr ⟨h1,e,h3⟩
    rw [hx.uniq hw]
    refine (i1.append (.cons (c:=m.v) ⟨nm.2,nm.2,.inl ⟨rfl,pm.symm⟩⟩ (by rw [nm.1];exact Rat.le_refl) (by rw [nm.1];exact Rat.le_refl) (.nil _ _ Rat.le_refl))).append i2
   ·rw [if_neg c3,List.append_nil]
    have hw:Op Q a.p b.p (us ++ vs):=by
     refine (Lst.append hu hv fun x y h1 h2=>Pt.lt_trans h1.2.2 h2.2.1).congr fun x=>?_
     constructor
     ·rintro (⟨h1,h2,h3⟩ | ⟨h1,h2,h3⟩)
      ·exact ⟨h1,h2,Pt.lt_trans h3 p2⟩
      ·exact ⟨h1,Pt.lt_trans p1 h2,h3⟩
     ·rintro ⟨h1,h2,h3⟩
      rcases Pt.tri x m.p with e | e | e
      ·exact .inl ⟨h1,h2,e⟩
      ·exact absurd (e ▸ h1) c3
      ·exact .inr ⟨h1,e,h3⟩
    rw [hx.uniq hw]
    exact i1.append i2
theorem is_ok (h:SqF Q k) (hk:k≤31) {M:Rat} (hM:1≤M):∀ (n:Nat) (a b:Fq),0<a.q→0<b.q→a.v<b.v→-M≤a.v→b.v≤M→sepD k M*(b.v-a.v)<(2:Rat)^n→IsOK Q (pchain 12 Q (pder Q)) (n+1) a b:=by
 intro n
 induction n with
 | zero =>
   intro a b ha hb hab hMa hMb hw
   obtain ⟨xs,hx⟩:=roots_lst h.q0 (fun x=>a.p<x∧x<b.p)
   have hc:=op_count h hk ha hb hab hx
   have near:∀ x y,sgp Q x=0→sgp Q y=0→x<y→¬ x<a.p→¬ b.p<y→False:=fun x y h1 h2 h3 h4 h5=>by
    have:=sep h (by omega) hM hMa hMb h1 h2 h3 h4 h5
    rw [Rat.pow_zero] at hw
    grind
   unfold IsOK
   rw [hc]
   match xs,hx with
   | [],_=>exact .inl (by decide)
   | [x],hx =>
     right;left
     have hxm:=(hx.2 x).1 (by simp)
     have e3:b.sgn Q=sgp Q b.p:=sat_eq hb Q
     have e4:a.sgn Q=sgp Q a.p:=sat_eq ha Q
     refine ⟨rfl,fun e=>?_,fun e=>?_⟩
     ·rw [e4] at e
      exact near a.p x e hxm.1 hxm.2.1 (Pt.irr _) (fun h=>Pt.asym h hxm.2.2)
     ·rw [e3] at e
      exact near x b.p hxm.1 e hxm.2.2 (fun h=>Pt.asym h hxm.2.1) (Pt.irr _)
   | x :: y :: r,hx =>
     exfalso
     have hxm:=(hx.2 x).1 (by simp)
     have hym:=(hx.2 y).1 (by simp)
     have hxy:x<y:=(List.pairwise_cons.1 hx.1).1 y (by simp)
     exact near x y hxm.1 hym.1 hxy (fun h=>Pt.asym h hxm.2.1) (fun h=>Pt.asym h hym.2.2)
 | succ n ih =>
   intro a b ha hb hab hMa hMb hw
   unfold IsOK
   right;right
   obtain ⟨mv,mq⟩:=Fq.mid_v ha hb
   have ham:a.v<(a.mid b).v:=by rw [mv];grind
   have hmb:(a.mid b).v<b.v:=by rw [mv];grind
   rw [Rat.pow_succ] at hw
   refine ⟨ih a _ ha mq ham hMa (by grind) ?_,ih _ b mq hb hmb (by grind) hMb ?_⟩
   ·rw [mv]
    have e:sepD k M*((a.v+b.v) / 2-a.v)=sepD k M*(b.v-a.v) / 2:=by grind
    rw [e]
    grind
   ·rw [mv]
    have e:sepD k M*(b.v-(a.v+b.v) / 2)=sepD k M*(b.v-a.v) / 2:=by grind
    rw [e]
    grind
end
end Go.Proofs.YtjmglmgokfcgoaaGreat
namespace Go.Proofs.YtjmglmgokfcgoaaGreat
open Go Go.RowKit
def RtV (w:World) (r:Fq×Fq) (vs:List Value):Prop :=
 ∃ n A l c B m d n' A' l' c' B' m' d',vs=[.bool n,.slice A l c,.slice B m d,.bool n',.slice A' l' c',.slice B' m' d']∧IntN w n A l c r.1.z∧NatN w B m d r.1.q∧IntN w n' A' l' c' r.2.z∧NatN w B' m' d' r.2.q
theorem RtV.below {w w':World} {r:Fq×Fq} {vs:List Value} (h:RtV w r vs) (hb:Below w.heap.size w w'):RtV w' r vs:=by
 obtain ⟨n,A,l,c,B,m,d,n',A',l',c',B',m',d',e,h1,h2,h3,h4⟩:=h
 exact ⟨n,A,l,c,B,m,d,n',A',l',c',B',m',d',e,h1.below hb,h2.below hb,h3.below hb,h4.below hb⟩
theorem RtV.frs {g g':Nat} {W W':World} {r:Fq×Fq} {vs:List Value} (h:RtV W r vs) (hf:FrS g g' W W') (k1:NdB W g) (k2:NdB W g'):RtV W' r vs:=by
 obtain ⟨n,A,l,c,B,m,d,n',A',l',c',B',m',d',e,h1,h2,h3,h4⟩:=h
 exact ⟨n,A,l,c,B,m,d,n',A',l',c',B',m',d',e,h1.frs hf k1 k2,h2.frs hf k1 k2,h3.frs hf k1 k2,h4.frs hf k1 k2⟩
theorem RtV.len {w:World} {r:Fq×Fq} {vs:List Value} (h:RtV w r vs):vs.length=6:=by
 obtain ⟨n,A,l,c,B,m,d,n',A',l',c',B',m',d',e,h1,h2,h3,h4⟩:=h
 rw [e];rfl
theorem RtV.nd {w:World} {r:Fq×Fq} {vs:List Value} (h:RtV w r vs):∀ v∈vs,Nd v:=by
 obtain ⟨n,A,l,c,B,m,d,n',A',l',c',B',m',d',e,h1,h2,h3,h4⟩:=h
 intro v hv
 rw [e] at hv
 simp only [List.mem_cons,List.not_mem_nil,or_false] at hv
 rcases hv with rfl | rfl | rfl | rfl | rfl | rfl
 ·exact nd_bool _
 ·exact nd_slice _ _ _
 ·exact nd_slice _ _ _
 ·exact nd_bool _
 ·exact nd_slice _ _ _
 ·exact nd_slice _ _ _
theorem RtV.mk {w:World} {n:Bool} {A:Option Addr} {l c:Nat} {B:Option Addr} {m d:Nat} {n':Bool} {A':Option Addr} {l' c':Nat} {B':Option Addr} {m' d':Nat} {r:Fq×Fq} (h1:IntN w n A l c r.1.z) (h2:NatN w B m d r.1.q) (h3:IntN w n' A' l' c' r.2.z) (h4:NatN w B' m' d' r.2.q) :
 RtV w r [.bool n,.slice A l c,.slice B m d,.bool n',.slice A' l' c',.slice B' m' d']:=⟨n,A,l,c,B,m,d,n',A',l',c',B',m',d',rfl,h1,h2,h3,h4⟩
def Vals (w:World) (g o:Nat) (rs:List (Fq×Fq)):Prop:=∀ (i:Nat) (r:Fq×Fq),rs[i]?=some r→∃ vs,RtV w r vs∧∀ (j:Nat) (v:Value),vs[j]?=some v→w.cell? ⟨g,o+i*6+j,none⟩=some v
theorem Vals.below {w w':World} {g o:Nat} {rs:List (Fq×Fq)} (h:Vals w g o rs) (hg:g<w.heap.size) (hb:Below w.heap.size w w'):Vals w' g o rs:=fun i r hr=>by
 obtain ⟨vs,h1,h2⟩:=h i r hr
 exact ⟨vs,h1.below hb,fun j v hv=>(hb.cell (p:=⟨g,o+i*6+j,none⟩) hg).trans (h2 j v hv)⟩
theorem vals_app {w w':World} {g g':Nat} {rs:List (Fq×Fq)} {r:Fq×Fq} {vs:List Value} (h:Vals w g 0 rs) (hr:RtV w' r vs) (hmv:∀ r vs,RtV w r vs→RtV w' r vs) (hc:∀ j,j<rs.length*6→w'.cell? ⟨g',j,none⟩=w.cell? ⟨g,j,none⟩)
 (hn:∀ (j:Nat) (v:Value),vs[j]?=some v→w'.cell? ⟨g',rs.length*6+j,none⟩=some v):Vals w' g' 0 (rs ++ [r]):=fun i x hx=>by
 rcases Nat.lt_or_ge i rs.length with hi | hi
 ·rw [List.getElem?_append_left hi] at hx
  obtain ⟨us,h1,h2⟩:=h i x hx
  refine ⟨us,hmv _ _ h1,fun j v hv=>?_⟩
  have hj:j<6:=by rw [← h1.len];exact (List.getElem?_eq_some_iff.1 hv).1
  rw [hc _ (by omega)]
  exact h2 j v hv
 ·have hi2:i=rs.length:=by
   have:=(List.getElem?_eq_some_iff.1 hx).1
   rw [List.length_append,List.length_singleton] at this
   omega
  subst hi2
  rw [List.getElem?_append_right (Nat.le_refl _),Nat.sub_self] at hx
  cases hx
  exact ⟨vs,hr,fun j v hv=>by rw [Nat.zero_add];exact hn j v hv⟩
theorem blk_setCellsV {g t N:Nat}:∀ {cs:Array Value} (_:∀ j,j<N→∃ v,cs[j]?=some v∧Nd v) (_:cs.size=N) (vs:List Value) (_:∀ v∈vs,Nd v) (o:Nat) (_:o+vs.length≤N) {W:World} (_:Blk W g t cs),
 ∃ cs',Blk (W.setCells g o vs) g t cs'∧cs'.size=N∧(∀ j,j<N→∃ v,cs'[j]?=some v∧Nd v)∧(∀ (j:Nat) (v:Value),vs[j]?=some v→cs'[o+j]?=some v)∧∀ j,j<o→cs'[j]?=cs[j]?
 | cs,hc,hs,[],_,_,_,_,hk=>⟨cs,hk,hs,hc,fun j v hv=>by simp at hv,fun _ _=>rfl⟩
 | cs,hc,hs,v :: vs,hv,o,ho,W,hk=>by
   simp only [List.length_cons] at ho
   obtain ⟨cs',h1,h2,h3,h4,h5⟩:=blk_setCellsV (cs:=cs.setIfInBounds o v) (fun j hj=>by
    rcases Nat.decEq j o with hne | heq
    ·rw [Array.getElem?_setIfInBounds_ne (by omega)];exact hc j hj
    ·subst heq
     exact ⟨v,by rw [Array.getElem?_setIfInBounds_self_of_lt (by omega)],hv v (List.mem_cons_self ..)⟩) (by simpa using hs) vs (fun u hu=>hv u (List.mem_cons_of_mem _ hu)) (o+1) (by omega) (hk.set_ o v)
   refine ⟨cs',h1,h2,h3,fun j u hu=>?_,fun j hj=>?_⟩
   ·match j,hu with
    | 0,hu =>
      have e:v=u:=by simpa using hu
      rw [Nat.add_zero,h5 o (by omega),Array.getElem?_setIfInBounds_self_of_lt (by omega),e]
    | j+1,hu =>
      rw [show o+(j+1)=o+1+j by omega]
      exact h4 j u (by simpa using hu)
   ·rw [h5 j (by omega),Array.getElem?_setIfInBounds_ne (by omega)]
def FndV (B gs:Nat) (w:World) (F:Value) (rs:List (Fq×Fq)):Prop:=(rs=[]∧F=.slice none 0 0)∨∃ g cap,F=.slice (some ⟨g,0,none⟩) rs.length cap∧ORt w g rs.length cap∧g≠gs∧Vals w g 0 rs∧B≤g
theorem FndV.below {B gs:Nat} {w w':World} {F:Value} {rs:List (Fq×Fq)} (h:FndV B gs w F rs) (hb:Below w.heap.size w w'):FndV B gs w' F rs:=by
 rcases h with h | ⟨g,cap,h1,h2,h3,h4,h5⟩
 ·exact .inl h
 ·exact .inr ⟨g,cap,h1,h2.below hb,h3,h4.below h2.lt hb,h5⟩
theorem FndV.fb_ge {B gs:Nat} {w:World} {F:Value} {rs:List (Fq×Fq)} (h:FndV B gs w F rs) (hB:B≤gs):B≤fbk gs F:=by
 rcases h with ⟨h1,h2⟩ | ⟨g,cap,h1,h2,h3,h4,h5⟩
 ·rw [h2];exact hB
 ·rw [h1];exact h5
theorem FndV.fb_lt {B gs:Nat} {w:World} {F:Value} {rs:List (Fq×Fq)} (h:FndV B gs w F rs) (hg:gs<w.heap.size):fbk gs F<w.heap.size:=by
 rcases h with ⟨h1,h2⟩ | ⟨g,cap,h1,h2,h3,h4,h5⟩
 ·rw [h2];exact hg
 ·rw [h1];exact h2.lt
def GrownV (B gs:Nat) (w:World) (F:Value) (rs:List (Fq×Fq)) (r:Fq×Fq) (F':Value) (w':World):Prop:=∃ g' cap',F'=.slice (some ⟨g',0,none⟩) (rs.length+1) cap'∧ORt w' g' (rs.length+1) cap'∧g'≠gs∧Vals w' g' 0 (rs ++ [r])∧B≤g'∧((∃ g cap,F=.slice (some ⟨g,0,none⟩) rs.length cap∧g'=g∧FrS g g w w')∨(w.heap.size≤g'∧Below w.heap.size w w'))
theorem GrownV.grown {B gs:Nat} {w w':World} {F F':Value} {rs:List (Fq×Fq)} {r:Fq×Fq} (h:GrownV B gs w F rs r F' w'):Grown gs w F rs.length F' w':=by
 obtain ⟨g',cap',h1,h2,h3,_,_,h4⟩:=h
 exact ⟨g',cap',h1,h2,h3,h4⟩
set_option maxHeartbeats 1000000 in
theorem oper_append_rootv {w:World} {o:Oper} {a:Act} {K:Act→World→Prop} {Q:Exit→Act→World→Prop} (s x:Operand)
 (ho:o.op=.call { callee:=.builtin .append,args:=#[s,x],argTypes:=#[45,45] })
 (B gs:Nat) (F:Value) (rs:List (Fq×Fq)) (r:Fq×Fq) (hs:a.eval s=F) (hown:FndV B gs w F rs) (hgs:gs<w.heap.size) (hB:B≤w.heap.size)
 (gx:Nat) (vs:List Value) (hx:a.eval x=.slice (some ⟨gx,0,none⟩) 1 1) (hxc:∀ j v,vs[j]?=some v→w.cell? ⟨gx,j,none⟩=some v) (hr:RtV w r vs) (hn:rs.length+1≤100000000)
 (dd:Nat) (hdd:o.dst=some dd) (h:∀ F' w',GrownV B gs w F rs r F' w'→K (a.put (some dd) F') w') :
 Oper.wp Tryz.prog o a w K Q:=by
 rw [← hdd] at h
 have hvl:=hr.len
 have hvn:=hr.nd
 obtain ⟨i0,hi,hz0,hz1,hz2⟩:=info_parts info_root
 have hxa:∀ j v,vs[j]?=some v→w.cell? ((⟨gx,0,none⟩:Addr).add j)=some v:=fun j v hj=>by
  rw [Addr.add_lit,Nat.zero_add];exact hxc j v hj
 have hone:∀ u∈vs,u.oneCell'=true:=fun u hu=>(hvn u hu).2
 have hzc:∀ k j,j<k*6→∃ v,(Builtin.zeroCells (Value.cells rootZero) k)[j]?=some v∧Nd v:=fun k j hj=>by
  have e1:(Value.cells rootZero).size=6:=rfl
  unfold Builtin.zeroCells
  rw [Array.getElem?_map,Array.getElem?_range,e1,if_pos hj]
  have h6:j % 6<6:=Nat.mod_lt _ (by omega)
  refine ⟨_,rfl,?_⟩
  show Nd ((Value.cells rootZero)[j % 6]!)
  match j % 6,h6 with
  | 0,_=>exact nd_bool _
  | 1,_=>exact nd_slice _ _ _
  | 2,_=>exact nd_slice _ _ _
  | 3,_=>exact nd_bool _
  | 4,_=>exact nd_slice _ _ _
  | 5,_=>exact nd_slice _ _ _
 have hzs:∀ k,(Builtin.zeroCells (Value.cells rootZero) k).size=k*6:=fun k=>by rw [size_zeroCells];rfl
 have hvj:∀ j,j<6→∃ v,vs[j]?=some v∧Nd v:=fun j hj=>⟨vs[j]'(by omega),List.getElem?_eq_getElem (by omega),hvn _ (List.getElem_mem _)⟩
 rcases hown with ⟨hn0,hF⟩ | ⟨g,cap,hF,hown,hne,hvals,hBg⟩
 ·subst hn0 hF
  have hrun:=run_append_nil (P:=Tryz.prog) (w:=w) 45 o.type 53 i0 rootZero Tryz.underlying45 hi hz0 ⟨gx,0,none⟩ 1 1 vs (by rw [hz1,hvl]) hxa (by omega) (by omega) (by rw [hz2];omega)
  have hge:1≤grownCap w 1 0 53:=grownCap_ge w 1 0 53
  generalize grownCap w 1 0 53=cap' at hrun hge
  unfold Oper.wp
  simp only [execOp,ho,resolve,invoke,builtin]
  simp [hs,hx,hrun,Result.andThen]
  have hbw:Below w.heap.size w (w.drew.alloc (.cells (vs.toArray ++ Builtin.zeroCells (Value.cells rootZero) (cap'-1)) 53)):=((Below.refl _ _).drew).alloc (by simp) _
  refine h _ _ ⟨w.heap.size,cap',rfl,⟨⟨_,Blk.new w.drew _ _,?_,fun j hj=>?_⟩,hge⟩,by omega,fun i x hx=>?_,hB,.inr ⟨Nat.le_refl _,hbw⟩⟩
  ·rw [Array.size_append,List.size_toArray,hzs,hvl];omega
  ·rcases Nat.lt_or_ge j 6 with h1 | h1
   ·obtain ⟨v,e,hv⟩:=hvj j h1
    exact ⟨v,by rw [Array.getElem?_append_left (by simp;omega),List.getElem?_toArray];exact e,hv⟩
   ·obtain ⟨v,e,hv⟩:=hzc (cap'-1) (j-6) (by omega)
    exact ⟨v,by rw [Array.getElem?_append_right (by simp;omega)];simpa [hvl] using e,hv⟩
  ·match i,hx with
   | 0,hx =>
     have e:x=r:=by simpa using hx.symm
     subst e
     refine ⟨vs,hr.below hbw,fun j v hv=>?_⟩
     have hj:j<vs.length:=(List.getElem?_eq_some_iff.1 hv).1
     rw [show 0+0*6+j=j by omega]
     refine ((Blk.new w.drew 53 (vs.toArray ++ Builtin.zeroCells (Value.cells rootZero) (cap'-1))).cell j).trans ?_
     rw [Array.getElem?_append_left (by simpa using hj),List.getElem?_toArray,hv]
   | i+1,hx=>simp at hx
 ·subst hF
  obtain ⟨n,hnl⟩:∃ n,n=rs.length:=⟨_,rfl⟩
  rw [← hnl] at hown h hs hn
  obtain ⟨cs,hk,hsz,hcs⟩:=hown.blk
  by_cases hrm:n+1≤cap
  ·have hrun:=run_append_room_cells (P:=Tryz.prog) w 45 o.type 53 i0 Tryz.underlying45 hi g 0 n cap ⟨gx,0,none⟩ 1 1 vs (by rw [hz1,hvl]) hxa hone hrm
    (fun j hj=>by
      obtain ⟨v,e,_⟩:=hcs (n*6+j) (by omega)
      rw [hz1,Nat.zero_add,hk.cell,e];rfl)
    (fun j hj=>hk.frozen _)
   rw [hz1,Nat.zero_add] at hrun
   unfold Oper.wp
   simp only [execOp,ho,resolve,invoke,builtin]
   simp [hs,hx,hrun,Result.andThen]
   obtain ⟨cs',b1,b2,b3,b4,b5⟩:=blk_setCellsV hcs hsz vs hvn (n*6) (by omega) hk
   have hfr:FrS g g w (w.setCells g (n*6) vs):=frs_setCells vs (n*6) (FrS.refl _ _ _)
   have hnd:=hown.ndb
   refine h _ _ ⟨g,cap,by rw [hnl],⟨⟨cs',b1,b2,b3⟩,by rw [← hnl];exact hrm⟩,hne,vals_app hvals (hr.frs hfr hnd hnd) (fun x us hu=>hu.frs hfr hnd hnd) (fun j hj=>?_) (fun j v hv=>?_),hBg,.inl ⟨g,cap,by rw [hnl],rfl,hfr⟩⟩
   ·refine (b1.cell j).trans ?_
    rw [b5 j (by omega)]
    exact (hk.cell j).symm
   ·refine (b1.cell _).trans ?_
    rw [← hnl]
    exact b4 j v hv
  ·have hne2:n=cap:=by have:=hown.le;omega
   subst hne2
   have hol:∃ olds:List Value,olds=cs.toList:=⟨_,rfl⟩
   obtain ⟨olds,hol⟩:=hol
   have hll:olds.length=n*6:=by rw [hol,Array.length_toList];exact hsz
   have hoj:∀ j,olds[j]?=cs[j]?:=fun j=>by rw [hol,Array.getElem?_toList]
   have hfit:=growslice_fits (need:=n+1) (old:=n) (bytes:=i0.bytes) (by omega) (by rw [hz2];omega)
   have hrun:=run_append_grow (P:=Tryz.prog) w 45 o.type 53 i0 rootZero Tryz.underlying45 hi hz0 ⟨g,0,none⟩ n n olds (by rw [hz1,hll])
    (fun j v hj=>by rw [Addr.add_lit,Nat.zero_add,hk.cell,← hoj];exact hj)
    ⟨gx,0,none⟩ 1 1 vs (by rw [hz1,hvl]) hxa (by omega) (by omega) hfit
   have hge:=grownCap_ge w (n+1) n 53
   generalize grownCap w (n+1) n 53=cap' at hrun hge
   unfold Oper.wp
   simp only [execOp,ho,resolve,invoke,builtin]
   simp [hs,hx,hrun,Result.andThen]
   obtain ⟨row,hrow⟩:∃ row,row=(olds ++ vs).toArray ++ Builtin.zeroCells (Value.cells rootZero) (cap'-(n+1)):=⟨_,rfl⟩
   have hbw:Below w.heap.size w (w.drew.alloc (.cells row 53)):=((Below.refl _ _).drew).alloc (by simp) _
   have hb2:Blk (w.drew.alloc (.cells row 53)) w.heap.size 53 row:=Blk.new w.drew _ _
   have hro:∀ j v,(olds ++ vs)[j]?=some v→row[j]?=some v:=fun j v hv=>by
    have hj:j<(olds ++ vs).length:=(List.getElem?_eq_some_iff.1 hv).1
    rw [hrow,Array.getElem?_append_left (by simpa using hj),List.getElem?_toArray,hv]
   have hgoal:GrownV B gs w (.slice (some ⟨g,0,none⟩) n n) rs r (.slice (some ⟨w.heap.size,0,none⟩) (n+1) cap') (w.drew.alloc (.cells row 53)):=by
    refine ⟨w.heap.size,cap',by rw [hnl],⟨⟨row,hb2,?_,fun j hj=>?_⟩,by rw [← hnl];exact hge⟩,by omega,vals_app hvals (hr.below hbw) (fun x us hu=>hu.below hbw) (fun j hj=>?_) (fun j v hv=>?_),hB,.inr ⟨Nat.le_refl _,hbw⟩⟩
    ·rw [hrow,Array.size_append,List.size_toArray,List.length_append,hzs,hvl,hll];omega
    ·rw [hrow]
     rcases Nat.lt_or_ge j (n*6+6) with h1 | h1
     ·rw [Array.getElem?_append_left (by simp;omega),List.getElem?_toArray]
      rcases Nat.lt_or_ge j (n*6) with h2 | h2
      ·rw [List.getElem?_append_left (by omega),hoj]
       exact hcs j h2
      ·rw [List.getElem?_append_right (by omega),hll]
       exact hvj _ (by omega)
     ·rw [Array.getElem?_append_right (by simp;omega)]
      have:=hzc (cap'-(n+1)) (j-(n*6+6)) (by omega)
      simpa [hvl,hll] using this
    ·obtain ⟨v,e,_⟩:=hcs j (by omega)
     refine (hb2.cell j).trans ?_
     rw [hro j v (by rw [List.getElem?_append_left (by omega),hoj];exact e),hk.cell,e]
    ·refine (hb2.cell _).trans ?_
     exact hro _ v (by rw [List.getElem?_append_right (by omega),hll,← hnl,Nat.add_sub_cancel_left];exact hv)
   rw [hrow] at hgoal
   exact h _ _ (by simpa using hgoal)
theorem GrownV.fin {B gs t:Nat} {rs:List (Fq×Fq)} {r:Fq×Fq} {w0 w w':World} {F F' P C:Value} (h:GrownV B gs w F rs r F' w') (hb:Blk w gs t #[P,C,F]) (hP:NoDigit P) (hC:NoDigit C) (hF:NoDigit F) (hw:Below w0.heap.size w0 w) :
 Blk (w'.setCell ⟨gs,2,none⟩ F') gs t #[P,C,F']∧FndV B gs (w'.setCell ⟨gs,2,none⟩ F') F' (rs ++ [r])∧FrS gs (fbk gs F) w0 (w'.setCell ⟨gs,2,none⟩ F')∧(fbk gs F'=fbk gs F∨w0.heap.size≤fbk gs F'):=by
 have hk:=h.grown.blk hb
 have hnd:NdB w' gs:=blk_ndb hk fun j v hv=>by
  match j,hv with
  | 0,hv=>simp at hv;subst hv;exact hP
  | 1,hv=>simp at hv;subst hv;exact hC
  | 2,hv=>simp at hv;subst hv;exact hF
  | j+3,hv=>simp at hv
 have hfs:FrS gs gs w' (w'.setCell ⟨gs,2,none⟩ F'):=frs_set (FrS.refl _ _ _) _ _
 obtain ⟨g',cap',e,ho,hg,hv,hB,h⟩:=h
 refine ⟨hk.set_ 2 F',.inr ⟨g',cap',by rw [List.length_append];exact e,by rw [List.length_append];exact ho.far hg _,hg,fun i x hx=>?_,hB⟩,?_,?_⟩
 ·obtain ⟨us,h1,h2⟩:=hv i x hx
  exact ⟨us,h1.frs hfs hnd hnd,fun j v hv=>(hfs.cell ho.lt hg hg _).trans (h2 j v hv)⟩
 ·refine FrS.self (FrS.trans (g2:=fbk gs F) (FrS.of_below hw) ?_ (.inl rfl)) 2 F'
  rcases h with ⟨g,cap,eF,eg,hf⟩ | ⟨_,hbb⟩
  ·rw [eF];exact hf.weaken rfl
  ·exact FrS.of_below hbb
 ·rw [e]
  rcases h with ⟨g,cap,eF,eg,hf⟩ | ⟨hle,_⟩
  ·rw [eF];exact .inl eg
  ·exact .inr (Nat.le_trans hw.size hle)
theorem fndv_nd {B gs:Nat} {w:World} {F:Value} {rs:List (Fq×Fq)} (h:FndV B gs w F rs):NoDigit F:=by
 rcases h with ⟨_,e⟩ | ⟨g,cap,e,_⟩
 ·rw [e];exact noDigit_slice _ _ _
 ·rw [e];exact noDigit_slice _ _ _
theorem fndv_ndb {B gs t:Nat} {w:World} {F P C:Value} {rs:List (Fq×Fq)} (hb:Blk w gs t #[P,C,F]) (hP:NoDigit P) (hC:NoDigit C) (h:FndV B gs w F rs):NdB w gs∧NdB w (fbk gs F):=by
 have h1:NdB w gs:=blk_ndb hb fun j v hv=>by
  match j,hv with
  | 0,hv=>simp at hv;subst hv;exact hP
  | 1,hv=>simp at hv;subst hv;exact hC
  | 2,hv=>simp at hv;subst hv;exact fndv_nd h
  | j+3,hv=>simp at hv
 refine ⟨h1,?_⟩
 rcases h with ⟨_,e⟩ | ⟨g,cap,e,ho,_⟩
 ·rw [e];exact h1
 ·rw [e];exact ho.ndb
abbrev mbox (n:Bool) (A:Option Addr) (l c:Nat) (B:Option Addr) (m d:Nat) (N:Int) (zr:Bool):Obj:=.cells #[.bool n,.slice A l c,.slice B m d,.int .i64 N,.bool zr] 152
structure MBox (w:World) (g:Nat) (n:Bool) (A:Option Addr) (l c:Nat) (B:Option Addr) (m d:Nat) (z:Int) (q:Nat) (N:Int) (zr:Bool):Prop where
 r:RBox w g n A l c B m d z q
 c3:w.cell? ⟨g,3,none⟩=some (.int .i64 N)
 c4:w.cell? ⟨g,4,none⟩=some (.bool zr)
section
variable {w w':World} {g:Nat} {n:Bool} {A:Option Addr} {l c:Nat} {B:Option Addr} {m d:Nat} {z:Int} {q:Nat} {N:Int} {zr:Bool}
theorem MBox.make (hz:IntN w n A l c z) (hq:NatN w B m d q):MBox (w.alloc (mbox n A l c B m d N zr)) w.heap.size n A l c B m d z q N zr:=by
 have hb:Blk (w.alloc (mbox n A l c B m d N zr)) w.heap.size 152 #[.bool n,.slice A l c,.slice B m d,.int .i64 N,.bool zr]:=Blk.new _ _ _
 have ho:=below_new w (mbox n A l c B m d N zr)
 exact ⟨⟨hb.cell 0,hb.cell 1,hb.cell 2,hb.frozen 0,hb.frozen 1,hb.frozen 2,by simp,hz.below ho,hq.below ho⟩,hb.cell 3,hb.cell 4⟩
theorem MBox.move (h:MBox w g n A l c B m d z q N zr) (hb:Below w.heap.size w w'):MBox w' g n A l c B m d z q N zr :=
 ⟨h.r.move hb,(hb.cell (p:=⟨g,3,none⟩) h.r.lt).trans h.c3,(hb.cell (p:=⟨g,4,none⟩) h.r.lt).trans h.c4⟩
theorem MBox.frs {k k':Nat} (h:MBox w g n A l c B m d z q N zr) (hf:FrS k k' w w') (h1:NdB w k) (h2:NdB w k') (k1:g≠k) (k2:g≠k'):MBox w' g n A l c B m d z q N zr :=
 ⟨h.r.frs hf h1 h2 k1 k2,(hf.cell h.r.lt k1 k2 _).trans h.c3,(hf.cell h.r.lt k1 k2 _).trans h.c4⟩
end
end Go.Proofs.YtjmglmgokfcgoaaGreat
namespace Go.Proofs.YtjmglmgokfcgoaaGreat
open Go Go.RowKit
def put6 (w:World) (g:Nat) (v0 v1 v2 v3 v4 v5:Value):World:=(((((w.setCell ⟨g,0,none⟩ v0).setCell ⟨g,1,none⟩ v1).setCell ⟨g,2,none⟩ v2).setCell ⟨g,3,none⟩ v3).setCell ⟨g,4,none⟩ v4).setCell ⟨g,5,none⟩ v5
theorem put6_frs (w:World) (g:Nat) (v0 v1 v2 v3 v4 v5:Value):FrS g g w (put6 w g v0 v1 v2 v3 v4 v5):=frs_set (frs_set (frs_set (frs_set (frs_set (frs_set (FrS.refl g g w) 0 v0) 1 v1) 2 v2) 3 v3) 4 v4) 5 v5
structure CpE (a b:Fq) (e:Ending) (w:World):Prop where
 ex:∃ n A l c B m d n' A' l' c' B' m' d',e=.returned (.agg #[.bool n,.slice A l c,.slice B m d,.bool n',.slice A' l' c',.slice B' m' d'])∧IntN w n A l c a.nf.z∧NatN w B m d a.nf.q∧IntN w n' A' l' c' b.nf.z∧NatN w B' m' d' b.nf.q
abbrev rootObj:Obj:=.cells #[.bool false,.slice none 0 0,.slice none 0 0,.bool false,.slice none 0 0,.slice none 0 0] 53
set_option maxRecDepth 100000 in
set_option maxHeartbeats 4000000 in
theorem copy_any (a b:Fq) (n:Bool) (A:Option Addr) (l c:Nat) (B:Option Addr) (m d:Nat) (n':Bool) (A':Option Addr) (l' c':Nat) (B':Option Addr) (m' d':Nat) (w:World) (hz:IntN w n A l c a.z) (hq:NatN w B m d a.q) (hz':IntN w n' A' l' c' b.z) (hq':NatN w B' m' d' b.q) (fz:Fit a.z) (fq:Fit (a.q:Int)) (h0:0<a.q) (fz':Fit b.z) (fq':Fit (b.q:Int)) (h0':0<b.q) :
 Calls Tryz.prog 167 #[.agg #[.bool n,.slice A l c,.slice B m d],.agg #[.bool n',.slice A' l' c',.slice B' m' d']] w fun e w'=>CpE a b e w'∧Below w.heap.size w w':=by
 have o1:=below_new w (rbox n A l c B m d)
 have o2:=below_new (w.alloc (rbox n A l c B m d)) (rbox n' A' l' c' B' m' d')
 have o3:=below_new ((w.alloc (rbox n A l c B m d)).alloc (rbox n' A' l' c' B' m' d')) rootObj
 have b3:Below w.heap.size w (((w.alloc (rbox n A l c B m d)).alloc (rbox n' A' l' c' B' m' d')).alloc rootObj):=(o1.alloc (by simp) _).alloc (by simp;omega) _
 have R1:=((RBox.make hz hq).move o2).move o3
 have R2:=(RBox.make (hz'.below o1) (hq'.below o1)).move o3
 have K3:Blk (((w.alloc (rbox n A l c B m d)).alloc (rbox n' A' l' c' B' m' d')).alloc rootObj) ((w.alloc (rbox n A l c B m d)).alloc (rbox n' A' l' c' B' m' d')).heap.size 53 #[.bool false,.slice none 0 0,.slice none 0 0,.bool false,.slice none 0 0,.slice none 0 0]:=Blk.new _ _ _
 simp only [World.size_alloc] at R2 K3
 have a0:=R1.c0
 have a1:=R1.c1
 have a2:=R1.c2
 have d0:=R2.c0
 have d1:=R2.c1
 have d2:=R2.c2
 replace R1:=Lib.hid R1
 replace R2:=Lib.hid R2
 replace K3:=Lib.hid K3
 have Hb:=Lib.hid b3
 have hl3:=K3.out.lt
 obtain ⟨wb,hwb⟩:∃ wb,wb=((w.alloc (rbox n A l c B m d)).alloc (rbox n' A' l' c' B' m' d')).alloc rootObj:=⟨_,rfl⟩
 clear o1 o2 o3 b3 hz hq hz' hq'
 go_enter Tryz.func167,Tryz.ntmps167
 go_wp2_with fail
 rw [← hwb] at R1 R2 K3 Hb a0 a1 a2 d0 d1 d2 hl3 ⊢
 clear hwb
 obtain ⟨g1,hg1⟩:∃ g,g=w.heap.size:=⟨_,rfl⟩
 obtain ⟨g2,hg2⟩:∃ g,g=w.heap.size+1:=⟨_,rfl⟩
 obtain ⟨g3,hg3⟩:∃ g,g=w.heap.size+1+1:=⟨_,rfl⟩
 rw [← hg1] at R1 a0 a1 a2
 rw [← hg2] at R2 d0 d1 d2
 rw [← hg3] at K3 hl3
 rw [← hg3,← hg2,← hg1]
 have l1:g1<wb.heap.size:=by omega
 have l2:g2<wb.heap.size:=by omega
 have lg:w.heap.size≤g3:=by omega
 have Hle:=Lib.hid lg
 clear hg1 hg2 hg3 lg
 refine wp_region_lastT (S:=fun w'=>w'.cell? ⟨g1,0,none⟩=some (.bool n)∧w'.cell? ⟨g1,1,none⟩=some (.slice A l c)∧w'.cell? ⟨g1,2,none⟩=some (.slice B m d)∧w'.cell? ⟨g2,0,none⟩=some (.bool n')∧w'.cell? ⟨g2,1,none⟩=some (.slice A' l' c')∧w'.cell? ⟨g2,2,none⟩=some (.slice B' m' d')) (by kernel_rfl) (by kernel_rfl) (by (try dsimp only);go_keep) (fun hHeld=>?_)
 simp only [List.pop_toArray,List.dropLast]
 (refine tk (i:=0) (v:=?_) rfl rfl (Or.inl ⟨by rfl,?_⟩) ?_;rotate_left;(focus (intro w hSw;(try dsimp only at hSw);go_simp;(try with_reducible rfl)));(simp only [put_lit,List.set]))
 (refine tk (i:=2) (v:=?_) rfl rfl (Or.inl ⟨by rfl,?_⟩) ?_;rotate_left;(focus (intro w hSw;(try dsimp only at hSw);go_simp;(try with_reducible rfl)));(simp only [put_lit,List.set]))
 refine wpAnyH_ready (rs:=[1]) (by kernel_rfl) (by simp) ?_
 refine AllReadyH.cons rfl (fun K hK=>?_) AllReadyH.nil;go_simp
 refine (rnormal_any _ _ _ _ _ _ _ _ _ _ (R1.out.hz.below Bel.go) (R1.out.hq.below Bel.go) fz fq h0).mono ?_
 rintro e w7 ⟨⟨n7,A7,l7,c7,B7,m7,d7,rfl,h7,k7⟩,hb7⟩
 obtain ⟨hcx,hfx⟩:=bcellS hb7
 replace R2:=Lib.hid (R2.out.move (Below.trans Bel.go (hb7.mono (by simp<;>omega))))
 have hbz:Below wb.heap.size wb w7:=(Below.trans Bel.go (hb7.mono (by simp<;>omega)))
 replace K3:=Lib.hid (K3.out.below hbz K3.out.lt)
 replace Hb:=Lib.hid (Hb.out.trans (hbz.mono Hb.out.size))
 refine hK.out _ _ ?_ (fun _=>?_)
 ·((try dsimp only);repeat' apply And.intro)<;>(rw [hcx _ (by go_simp)];go_simp)
 clear hHeld hK K hcx hfx;rename_i hHeld
 have hs7:=hbz.size
 have H7:=Lib.hid (And.intro h7 k7)
 clear h7 k7 hb7 hbz R1
 refine wpAnyH_ready (rs:=[3]) (by kernel_rfl) (by simp) ?_
 refine AllReadyH.cons rfl (fun K hK=>?_) AllReadyH.nil;go_simp
 refine (rnormal_any _ _ _ _ _ _ _ _ _ _ (R2.out.hz.below Bel.go) (R2.out.hq.below Bel.go) fz' fq' h0').mono ?_
 rintro e w9 ⟨⟨n9,A9,l9,c9,B9,m9,d9,rfl,h9,k9⟩,hb9⟩
 obtain ⟨hcx,hfx⟩:=bcellS hb9
 have hbz:Below w7.heap.size w7 w9:=(Below.trans Bel.go (hb9.mono (by simp<;>omega)))
 replace K3:=Lib.hid (K3.out.below hbz K3.out.lt)
 replace Hb:=Lib.hid (Hb.out.trans (hbz.mono Hb.out.size))
 replace H7:=Lib.hid (And.intro (H7.out.1.below hbz) (H7.out.2.below hbz))
 refine hK.out _ _ ?_ (fun _=>?_)
 ·((try dsimp only);repeat' apply And.intro)<;>(rw [hcx _ (by go_simp)];go_simp)
 clear hHeld hK K hcx hfx;rename_i hHeld
 have H9:=Lib.hid (And.intro h9 k9)
 clear h9 k9 hb9 hbz R2
 (refine tk (i:=4) (v:=?_) rfl rfl (Or.inl ⟨by rfl,?_⟩) ?_;rotate_left;(focus (intro w hSw;(try dsimp only at hSw);go_simp;(try with_reducible rfl)));(simp only [put_lit,List.set]))
 refine wpAnyH_done (by kernel_rfl) (lastQ_list rfl ?_) _
 have r0:w9.cell? ⟨g3,0,none⟩=some (.bool false):=(K3.out.cell 0).trans rfl
 have r1:w9.cell? ⟨g3,1,none⟩=some (.slice none 0 0):=(K3.out.cell 1).trans rfl
 have r2:w9.cell? ⟨g3,2,none⟩=some (.slice none 0 0):=(K3.out.cell 2).trans rfl
 have r3:w9.cell? ⟨g3,3,none⟩=some (.bool false):=(K3.out.cell 3).trans rfl
 have r4:w9.cell? ⟨g3,4,none⟩=some (.slice none 0 0):=(K3.out.cell 4).trans rfl
 have r5:w9.cell? ⟨g3,5,none⟩=some (.slice none 0 0):=(K3.out.cell 5).trans rfl
 have s0:=K3.out.frozen 0
 have s1:=K3.out.frozen 1
 have s2:=K3.out.frozen 2
 have s3:=K3.out.frozen 3
 have s4:=K3.out.frozen 4
 have s5:=K3.out.frozen 5
 have hnd:NdB w9 g3:=blk_ndb K3.out fun j v hv=>by
  match j,hv with
  | 0,hv=>simp at hv;subst hv;exact noDigit_bool _
  | 1,hv=>simp at hv;subst hv;exact noDigit_slice _ _ _
  | 2,hv=>simp at hv;subst hv;exact noDigit_slice _ _ _
  | 3,hv=>simp at hv;subst hv;exact noDigit_bool _
  | 4,hv=>simp at hv;subst hv;exact noDigit_slice _ _ _
  | 5,hv=>simp at hv;subst hv;exact noDigit_slice _ _ _
  | j+6,hv=>simp at hv
 have hf:=put6_frs w9 g3 (.bool n7) (.slice A7 l7 c7) (.slice B7 m7 d7) (.bool n9) (.slice A9 l9 c9) (.slice B9 m9 d9)
 have FIN:=Lib.hid (And.intro (And.intro (H7.out.1.frs hf hnd hnd) (H7.out.2.frs hf hnd hnd)) (And.intro (And.intro (H9.out.1.frs hf hnd hnd) (H9.out.2.frs hf hnd hnd)) (hf.mono Hb.out Hle.out Hle.out Hb.out.size)))
 clear hHeld hnd hf a0 a1 a2 d0 d1 d2 K3 Hb H7 H9
 go_wp2
 refine bodyPost_ret (v:=.agg #[.bool n7,.slice A7 l7 c7,.slice B7 m7 d7,.bool n9,.slice A9 l9 c9,.slice B9 m9 d9]) (by simp [results,Tryz.results167,go_sem,r0,r1,r2,r3,r4,r5]) rfl ⟨⟨_,_,_,_,_,_,_,_,_,_,_,_,_,_,rfl,FIN.out.1.1,FIN.out.1.2,FIN.out.2.1.1,FIN.out.2.1.2⟩,FIN.out.2.2⟩
set_option maxRecDepth 100000 in
set_option maxHeartbeats 4000000 in
theorem mark_any (Q:List Int) (PS:List (List Int)) (gs:Nat) (Ap:Option Addr) (lp cp:Nat) (Ac:Option Addr) (lc cc:Nat) (F:Value) (n:Bool) (A:Option Addr) (l c:Nat) (B:Option Addr) (m d q:Nat) (z:Int) (w:World)
 (hs:Blk w gs 149 #[.slice Ap lp cp,.slice Ac lc cc,F]) (hp:PolyN w Ap lp cp Q) (hc:PLst w Ac lc cc PS) (hlp:lp≤1000000) (hlc:lc≤1000000) (hz:IntN w n A l c z) (hq:NatN w B m d q) (ha:AtOK z q) (hP:∀ p∈PS,PoOK z q p) (hQ:PoOK z q Q) :
 Calls Tryz.prog 105 #[.pointer (some ⟨gs,0,none⟩),.agg #[.bool n,.slice A l c,.slice B m d]] w fun e w'=>e=.returned (.agg #[.bool n,.slice A l c,.slice B m d,.int .i64 ((vst (PS.map (sat z q)) lc).1:Nat),.bool (decide (sat z q Q=0))])∧Below w.heap.size w w':=by
 have o1:=below_new w (rbox n A l c B m d)
 have o2:=below_new (w.alloc (rbox n A l c B m d)) (mbox false none 0 0 none 0 0 0 false)
 have b2:Below w.heap.size w ((w.alloc (rbox n A l c B m d)).alloc (mbox false none 0 0 none 0 0 0 false)):=o1.alloc (by simp) _
 have R1:=(RBox.make hz hq).move o2
 have K2:Blk ((w.alloc (rbox n A l c B m d)).alloc (mbox false none 0 0 none 0 0 0 false)) (w.alloc (rbox n A l c B m d)).heap.size 152 #[.bool false,.slice none 0 0,.slice none 0 0,.int .i64 0,.bool false]:=Blk.new _ _ _
 have KS:=hs.below b2 hs.lt
 have HP:=Lib.hid (hp.below ikN b2)
 have HC:=Lib.hid (hc.below b2)
 simp only [World.size_alloc] at K2
 have hgl:=hs.lt
 have a0:=R1.c0
 have a1:=R1.c1
 have a2:=R1.c2
 have d0:World.cell? ((w.alloc (rbox n A l c B m d)).alloc (mbox false none 0 0 none 0 0 0 false)) ⟨gs,0,none⟩=some (.slice Ap lp cp):=(KS.cell 0).trans rfl
 have d1:World.cell? ((w.alloc (rbox n A l c B m d)).alloc (mbox false none 0 0 none 0 0 0 false)) ⟨gs,1,none⟩=some (.slice Ac lc cc):=(KS.cell 1).trans rfl
 replace R1:=Lib.hid R1
 replace K2:=Lib.hid K2
 have Hb:=Lib.hid b2
 obtain ⟨N1,hN1⟩:∃ N:Nat,N=(vst (PS.map (sat z q)) lc).1:=⟨_,rfl⟩
 obtain ⟨S1,hS1⟩:∃ S,S=sat z q Q:=⟨_,rfl⟩
 rw [← hN1,← hS1]
 have HN1:=Lib.hid hN1
 have HS1:=Lib.hid hS1
 obtain ⟨wb,hwb⟩:∃ wb,wb=(w.alloc (rbox n A l c B m d)).alloc (mbox false none 0 0 none 0 0 0 false):=⟨_,rfl⟩
 clear o1 o2 b2 hz hq hs hp hc KS hN1 hS1
 go_enter Tryz.func105,Tryz.ntmps105
 go_wp2_with fail
 rw [← hwb] at R1 K2 HP HC Hb a0 a1 a2 d0 d1 ⊢
 clear hwb
 obtain ⟨g1,hg1⟩:∃ g,g=w.heap.size:=⟨_,rfl⟩
 obtain ⟨g2,hg2⟩:∃ g,g=w.heap.size+1:=⟨_,rfl⟩
 have lg:w.heap.size≤g2:=by omega
 have l2:=K2.out.lt
 have l1:=R1.out.lt
 rw [← hg1] at R1 a0 a1 a2 l1
 rw [← hg2] at K2 l2
 rw [← hg2,← hg1]
 have l3:gs<wb.heap.size:=by omega
 have Hle:=Lib.hid lg
 clear hg1 hg2 lg hgl
 refine wp_region_lastT (S:=fun w'=>w'.cell? ⟨g1,0,none⟩=some (.bool n)∧w'.cell? ⟨g1,1,none⟩=some (.slice A l c)∧w'.cell? ⟨g1,2,none⟩=some (.slice B m d)∧w'.cell? ⟨gs,0,none⟩=some (.slice Ap lp cp)∧w'.cell? ⟨gs,1,none⟩=some (.slice Ac lc cc)) (by kernel_rfl) (by kernel_rfl) (by (try dsimp only);go_keep) (fun hHeld=>?_)
 simp only [List.pop_toArray,List.dropLast]
 (refine tk (i:=0) (v:=?_) rfl rfl (Or.inl ⟨by rfl,?_⟩) ?_;rotate_left;(focus (intro w hSw;(try dsimp only at hSw);go_simp;(try with_reducible rfl)));(simp only [put_lit,List.set]))
 (refine tk (i:=1) (v:=?_) rfl rfl (Or.inl ⟨by rfl,?_⟩) ?_;rotate_left;(focus (intro w hSw;(try dsimp only at hSw);go_simp;(try with_reducible rfl)));(simp only [put_lit,List.set]))
 (refine tk (i:=2) (v:=?_) rfl rfl (Or.inl ⟨by rfl,?_⟩) ?_;rotate_left;(focus (intro w hSw;(try dsimp only at hSw);go_simp;(try with_reducible rfl)));(simp only [put_lit,List.set]))
 (refine tk (i:=3) (v:=?_) rfl rfl (Or.inl ⟨by rfl,?_⟩) ?_;rotate_left;(focus (intro w hSw;(try dsimp only at hSw);go_simp;(try with_reducible rfl)));(simp only [put_lit,List.set]))
 (refine tk (i:=4) (v:=?_) rfl rfl (Or.inl ⟨by rfl,?_⟩) ?_;rotate_left;(focus (intro w hSw;(try dsimp only at hSw);go_simp;(try with_reducible rfl)));(simp only [put_lit,List.set]))
 (refine tk (i:=5) (v:=?_) rfl rfl (Or.inl ⟨by rfl,?_⟩) ?_;rotate_left;(focus (intro w hSw;(try dsimp only at hSw);go_simp;(try with_reducible rfl)));(simp only [put_lit,List.set]))
 (refine tk (i:=7) (v:=?_) rfl rfl (Or.inl ⟨by rfl,?_⟩) ?_;rotate_left;(focus (intro w hSw;(try dsimp only at hSw);go_simp;(try with_reducible rfl)));(simp only [put_lit,List.set]))
 (refine tk (i:=8) (v:=?_) rfl rfl (Or.inl ⟨by rfl,?_⟩) ?_;rotate_left;(focus (intro w hSw;(try dsimp only at hSw);go_simp;(try with_reducible rfl)));(simp only [put_lit,List.set]))
 (refine tk (i:=9) (v:=?_) rfl rfl (Or.inl ⟨by rfl,?_⟩) ?_;rotate_left;(focus (intro w hSw;(try dsimp only at hSw);go_simp;(try with_reducible rfl)));(simp only [put_lit,List.set]))
 (refine tk (i:=10) (v:=?_) rfl rfl (Or.inl ⟨by rfl,?_⟩) ?_;rotate_left;(focus (intro w hSw;(try dsimp only at hSw);go_simp;(try with_reducible rfl)));(simp only [put_lit,List.set]))
 (refine tk (i:=11) (v:=?_) rfl rfl (Or.inl ⟨by rfl,?_⟩) ?_;rotate_left;(focus (intro w hSw;(try dsimp only at hSw);go_simp;(try with_reducible rfl)));(simp only [put_lit,List.set]))
 refine wpAnyH_ready (rs:=[6]) (by kernel_rfl) (by simp) ?_
 refine AllReadyH.cons rfl (fun K hK=>?_) AllReadyH.nil;go_simp
 refine (vars_any _ _ _ PS _ _ _ _ _ _ _ _ _ _ (HC.out.below Bel.go) (R1.out.hz.below Bel.go) (R1.out.hq.below Bel.go) ha hP hlc).mono ?_
 rintro e w7 ⟨rfl,hb7⟩
 rw [← HN1.out]
 obtain ⟨hcx,hfx⟩:=bcellS hb7
 replace R1:=Lib.hid (R1.out.move (Below.trans Bel.go (hb7.mono (by simp<;>omega))))
 have hbz:Below wb.heap.size wb w7:=(Below.trans Bel.go (hb7.mono (by simp<;>omega)))
 replace K2:=Lib.hid (K2.out.below hbz K2.out.lt)
 replace HP:=Lib.hid (HP.out.below ikN hbz)
 replace Hb:=Lib.hid (Hb.out.trans (hbz.mono Hb.out.size))
 refine hK.out _ _ ?_ (fun _=>?_)
 ·((try dsimp only);repeat' apply And.intro)<;>(rw [hcx _ (by go_simp)];go_simp)
 clear hHeld hK K hcx hfx;rename_i hHeld
 have hs7:=hbz.size
 clear hb7 hbz HC
 refine wpAnyH_ready (rs:=[12]) (by kernel_rfl) (by simp) ?_
 refine AllReadyH.cons rfl (fun K hK=>?_) AllReadyH.nil;go_simp
 refine (signat_any ikN _ _ _ Q _ _ _ _ _ _ _ _ _ _ (HP.out.below ikN Bel.go) hQ.fit hlp (R1.out.hz.below Bel.go) (R1.out.hq.below Bel.go) ha.u ha.v ha.pos hQ.ok ha.fz ha.fq).mono ?_
 rintro e w9 ⟨he,hb9⟩
 have he2:e=.returned (.int .i64 S1):=by rw [HS1.out];exact he
 subst he2
 obtain ⟨hcx,hfx⟩:=bcellS hb9
 have hbz:Below w7.heap.size w7 w9:=(Below.trans Bel.go (hb9.mono (by simp<;>omega)))
 replace K2:=Lib.hid (K2.out.below hbz K2.out.lt)
 replace Hb:=Lib.hid (Hb.out.trans (hbz.mono Hb.out.size))
 refine hK.out _ _ ?_ (fun _=>?_)
 ·((try dsimp only);repeat' apply And.intro)<;>(rw [hcx _ (by go_simp)];go_simp)
 clear hHeld hK K hcx hfx;rename_i hHeld
 clear he hb9 hbz R1 HP
 (refine tk (i:=13) (v:=?_) rfl rfl (Or.inl ⟨by rfl,?_⟩) ?_;rotate_left;(focus (intro w hSw;(try dsimp only at hSw);go_simp;(try with_reducible rfl)));(simp only [put_lit,List.set]))
 (refine tk (i:=14) (v:=?_) rfl rfl (Or.inl ⟨by rfl,?_⟩) ?_;rotate_left;(focus (intro w hSw;(try dsimp only at hSw);go_simp;(try with_reducible rfl)));(simp only [put_lit,List.set]))
 refine wpAnyH_done (by kernel_rfl) (lastQ_list rfl ?_) _
 have r0:w9.cell? ⟨g2,0,none⟩=some (.bool false):=(K2.out.cell 0).trans rfl
 have r1:w9.cell? ⟨g2,1,none⟩=some (.slice none 0 0):=(K2.out.cell 1).trans rfl
 have r2:w9.cell? ⟨g2,2,none⟩=some (.slice none 0 0):=(K2.out.cell 2).trans rfl
 have r3:w9.cell? ⟨g2,3,none⟩=some (.int .i64 0):=(K2.out.cell 3).trans rfl
 have r4:w9.cell? ⟨g2,4,none⟩=some (.bool false):=(K2.out.cell 4).trans rfl
 have s0:=K2.out.frozen 0
 have s1:=K2.out.frozen 1
 have s2:=K2.out.frozen 2
 have s3:=K2.out.frozen 3
 have s4:=K2.out.frozen 4
 have FIN:=Lib.hid (((((Hb.out.setCell (p:=⟨g2,0,none⟩) Hle.out (.bool n)).setCell (p:=⟨g2,1,none⟩) Hle.out (.slice A l c)).setCell (p:=⟨g2,2,none⟩) Hle.out (.slice B m d)).setCell (p:=⟨g2,3,none⟩) Hle.out (.int .i64 (N1:Int))).setCell (p:=⟨g2,4,none⟩) Hle.out (.bool (decide (S1=0))))
 clear hHeld a0 a1 a2 d0 d1 K2 Hb
 go_wp2
 refine bodyPost_ret (v:=.agg #[.bool n,.slice A l c,.slice B m d,.int .i64 (N1:Int),.bool (decide (S1=0))]) (by simp [results,Tryz.results105,go_sem,r0,r1,r2,r3,r4];rfl) rfl ⟨rfl,FIN.out⟩
end Go.Proofs.YtjmglmgokfcgoaaGreat
namespace Go.Proofs.YtjmglmgokfcgoaaGreat
open Go Go.RowKit
structure FqB (a:Fq):Prop where
 p:0<a.q
 z:a.z.natAbs≤ZB
 q:a.q≤ZB
theorem FqB.fz {a:Fq} (h:FqB a):Fit a.z:=zb_fit h.z
theorem FqB.fq {a:Fq} (h:FqB a):Fit (a.q:Int):=zb_fit (by rw [Int.natAbs_natCast];exact h.q)
theorem FqB.at {a:Fq} (h:FqB a):AtOK a.z a.q :=
 ⟨h.fz,h.fq,h.p,zb_fit (by rw [Int.natAbs_tdiv];exact Nat.le_trans (Nat.div_le_self _ _) h.z),zb_fit (by rw [Int.natAbs_natCast];exact Nat.le_trans (Nat.div_le_self _ _) h.q)⟩
def icnt (Q:List Int) (PS:List (List Int)) (a b:Fq):Int:=(a.chg PS:Int)-(b.chg PS:Int)-(if b.sgn Q=0 then 1 else 0)
def IsFit (Q:List Int) (PS:List (List Int)):Nat→Fq→Fq→Prop
 | 0,_,_=>False
 | n+1,a,b=>FqB a∧FqB b∧(icnt Q PS a b<1∨(icnt Q PS a b=1∧a.sgn Q≠0∧b.sgn Q≠0)∨(FqB (a.mid b)∧IsFit Q PS n a (a.mid b)∧IsFit Q PS n (a.mid b) b))
structure IsCtx (Q:List Int) (PS:List (List Int)) (W0:World) (gs:Nat) (Ap:Option Addr) (lp cp:Nat) (Ac:Option Addr) (lc cc:Nat):Prop where
 hp:PolyN W0 Ap lp cp Q
 hc:PLst W0 Ac lc cc PS
 lp:lp≤1000000
 lc:lc≤1000
 gs:W0.heap.size≤gs
 el:∀ p∈PS,∀ z:Int,∀ q:Nat,z.natAbs≤ZB→q≤ZB→PoOK z q p
 eq:∀ z:Int,∀ q:Nat,z.natAbs≤ZB→q≤ZB→PoOK z q Q
def IsoSpec (Q:List Int) (PS:List (List Int)) (W0:World) (gs:Nat) (Ap:Option Addr) (lp cp:Nat) (Ac:Option Addr) (lc cc:Nat) (a b:Fq) (rt:List (Fq×Fq)):Prop :=
 ∀ (F:Value) (rs:List (Fq×Fq)) (n:Bool) (A:Option Addr) (l c:Nat) (B:Option Addr) (m d:Nat) (n':Bool) (A':Option Addr) (l' c':Nat) (B':Option Addr) (m' d':Nat) (N1 N2:Int) (za zb:Bool),N1=(a.chg PS:Int)→N2=(b.chg PS:Int)→za=decide (a.sgn Q=0)→zb=decide (b.sgn Q=0)→∀ (w:World),rs.length+rt.length≤1000000→Below W0.heap.size W0 w→Blk w gs 149 #[.slice Ap lp cp,.slice Ac lc cc,F]→FndV W0.heap.size gs w F rs →
   IntN w n A l c a.z→NatN w B m d a.q→IntN w n' A' l' c' b.z→NatN w B' m' d' b.q →
   Calls Tryz.prog 104 #[.pointer (some ⟨gs,0,none⟩),.agg #[.bool n,.slice A l c,.slice B m d,.int .i64 N1,.bool za],.agg #[.bool n',.slice A' l' c',.slice B' m' d',.int .i64 N2,.bool zb]] w
    fun e w'=>(∃ v,e=.returned v)∧∃ F',Blk w' gs 149 #[.slice Ap lp cp,.slice Ac lc cc,F']∧FndV W0.heap.size gs w' F' (rs ++ rt)∧FrS gs (fbk gs F) w w'∧(fbk gs F'=fbk gs F∨w.heap.size≤fbk gs F')
structure IsSt (W0:World) (gs:Nat) (P C F:Value) (R:List (Fq×Fq)) (w:World) (F':Value) (wx:World):Prop where
 blk:Blk wx gs 149 #[P,C,F']
 fnd:FndV W0.heap.size gs wx F' R
 fr:FrS gs (fbk gs F) w wx
 fb:fbk gs F'=fbk gs F∨w.heap.size≤fbk gs F'
theorem IsSt.size {W0 w wx:World} {gs:Nat} {P C F F':Value} {R:List (Fq×Fq)} (h:IsSt W0 gs P C F R w F' wx):w.heap.size≤wx.heap.size:=h.fr.size
theorem IsSt.below {W0 w wx wy:World} {gs:Nat} {P C F F':Value} {R:List (Fq×Fq)} (h:IsSt W0 gs P C F R w F' wx) (hb:Below wx.heap.size wx wy):IsSt W0 gs P C F R w F' wy :=
 ⟨h.blk.below hb h.blk.lt,h.fnd.below hb,FrS.trans (g2:=fbk gs F) h.fr (FrS.of_below hb) (.inl rfl),h.fb⟩
theorem IsSt.w0 {W0 w wx:World} {gs:Nat} {P C F F':Value} {R:List (Fq×Fq)} (h:IsSt W0 gs P C F R w F' wx) (h0:Below W0.heap.size W0 w∧W0.heap.size≤gs∧W0.heap.size≤fbk gs F):Below W0.heap.size W0 wx:=h.fr.mono h0.1 h0.2.1 h0.2.2 h0.1.size
theorem IsSt.w0s {W0 w wx:World} {gs:Nat} {P C F F':Value} {R:List (Fq×Fq)} (h:IsSt W0 gs P C F R w F' wx) (h0:Below W0.heap.size W0 w∧W0.heap.size≤gs∧W0.heap.size≤fbk gs F):W0.heap.size≤wx.heap.size:=(h.w0 h0).size
theorem IsSt.next {W0 w wx wy:World} {gs:Nat} {P C F F' F2:Value} {R R2:List (Fq×Fq)} (h:IsSt W0 gs P C F R w F' wx) (k1:Blk wy gs 149 #[P,C,F2]) (k2:FndV W0.heap.size gs wy F2 R2) (k3:FrS gs (fbk gs F') wx wy) (k4:fbk gs F2=fbk gs F'∨wx.heap.size≤fbk gs F2):IsSt W0 gs P C F R2 w F2 wy:=by
 have hs:=h.fr.size
 refine ⟨k1,k2,FrS.trans h.fr k3 h.fb,?_⟩
 rcases k4 with e | e
 ·rw [e];exact h.fb
 ·exact .inr (by omega)
theorem MBox.frs2 {w w':World} {gs t:Nat} {F P C:Value} {rs:List (Fq×Fq)} {B0:Nat} {g:Nat} {n:Bool} {A:Option Addr} {l c:Nat} {B:Option Addr} {m d:Nat} {z:Int} {q:Nat} {N:Int} {zr:Bool} (h:MBox w g n A l c B m d z q N zr) (hb:Blk w gs t #[P,C,F]) (hP:NoDigit P) (hC:NoDigit C) (hF:FndV B0 gs w F rs) (hf:FrS gs (fbk gs F) w w') (k1:g≠gs) (k2:g≠fbk gs F):MBox w' g n A l c B m d z q N zr :=
 h.frs hf (fndv_ndb hb hP hC hF).1 (fndv_ndb hb hP hC hF).2 k1 k2
set_option maxRecDepth 100000 in
set_option maxHeartbeats 8000000 in
theorem iso_step {Q:List Int} {PS:List (List Int)} {W0:World} {gs:Nat} {Ap:Option Addr} {lp cp:Nat} {Ac:Option Addr} {lc cc:Nat} (hx:IsCtx Q PS W0 gs Ap lp cp Ac lc cc) {a b:Fq} (ha:FqB a) (hb:FqB b) {rt:List (Fq×Fq)}
 (hcase:(icnt Q PS a b<1∧rt=[])∨(icnt Q PS a b=1∧a.sgn Q≠0∧b.sgn Q≠0∧rt=[(a.nf,b.nf)])∨(¬ icnt Q PS a b<1∧¬ (icnt Q PS a b=1∧a.sgn Q≠0∧b.sgn Q≠0)∧FqB (a.mid b)∧∃ r1 r2,rt=r1 ++ (if (a.mid b).sgn Q=0 then [((a.mid b).nf,(a.mid b).nf)] else []) ++ r2 ∧
   IsoSpec Q PS W0 gs Ap lp cp Ac lc cc a (a.mid b) r1∧IsoSpec Q PS W0 gs Ap lp cp Ac lc cc (a.mid b) b r2)):IsoSpec Q PS W0 gs Ap lp cp Ac lc cc a b rt:=by
 intro F rs n A l c B m d n' A' l' c' B' m' d' N1 N2 za zb hN1 hN2 hza hzb w hN hw0 hB hF hz hq hz' hq'
 obtain ⟨X,hX⟩:∃ X,X=N1-N2:=⟨_,rfl⟩
 obtain ⟨Y,hY⟩:∃ Y,Y=X-1:=⟨_,rfl⟩
 obtain ⟨CN,hCN⟩:∃ CN,CN=(if zb=true then Y else X):=⟨_,rfl⟩
 have hpl:PS.length≤1000:=by have:=hx.hc.length;have:=hx.lc;omega
 have n1b:=(vst_le (PS.map (sat a.z a.q)) PS.length).1
 have n2b:=(vst_le (PS.map (sat b.z b.q)) PS.length).1
 have r1:0≤N1∧N1≤1000:=by
  have e:N1=(((vst (PS.map (sat a.z a.q)) PS.length).1:Nat):Int):=hN1
  omega
 have r2:0≤N2∧N2≤1000:=by
  have e:N2=(((vst (PS.map (sat b.z b.q)) PS.length).1:Nat):Int):=hN2
  omega
 have e1:IntKind.i64.wrap (N1-N2)=X:=by rw [hX];exact IntWalk.i64_in _ (by omega)
 have e2:IntKind.i64.wrap (X-1)=Y:=by rw [hY];exact IntWalk.i64_in _ (by omega)
 have eC:icnt Q PS a b=CN:=by
  unfold icnt
  rw [hCN,hY,hX,hN1,hN2,hzb]
  by_cases h0:b.sgn Q=0
  ·rw [if_pos h0,if_pos (by simpa using h0)]
  ·rw [if_neg h0,if_neg (by simpa using h0),Int.sub_zero]
 have eA:a.sgn Q≠0↔za=false:=by rw [hza];simp
 have eB:b.sgn Q≠0↔zb=false:=by rw [hzb];simp
 rw [eC,eA,eB] at hcase
 have Hcase:=Lib.hid hcase
 have HCN:=Lib.hid hCN
 have HN1:=Lib.hid hN1
 have HN2:=Lib.hid hN2
 have Hza:=Lib.hid hza
 have Hzb:=Lib.hid hzb
 clear hcase eC eA eB hX hY hCN n1b n2b r1 r2 hN1 hN2 hza hzb
 have o1:=below_new w (mbox n A l c B m d N1 za)
 have o2:=below_new (w.alloc (mbox n A l c B m d N1 za)) (mbox n' A' l' c' B' m' d' N2 zb)
 have b2:Below w.heap.size w ((w.alloc (mbox n A l c B m d N1 za)).alloc (mbox n' A' l' c' B' m' d' N2 zb)):=o1.alloc (by simp) _
 have m1:=(MBox.make (N:=N1) (zr:=za) hz hq).move o2
 have m2:=MBox.make (N:=N2) (zr:=zb) (hz'.below o1) (hq'.below o1)
 simp only [World.size_alloc] at m2
 have st:IsSt W0 gs (.slice Ap lp cp) (.slice Ac lc cc) F rs w F ((w.alloc (mbox n A l c B m d N1 za)).alloc (mbox n' A' l' c' B' m' d' N2 zb)):=⟨hB.below b2 hB.lt,hF.below b2,FrS.of_below b2,.inl rfl⟩
 have hgl:=hB.lt
 have hfl:=hF.fb_lt hB.lt
 have hfg:=hF.fb_ge hx.gs
 have hgs0:=Lib.hid (And.intro hw0 (And.intro hx.gs hfg))
 have M1:=Lib.hid m1
 have M2:=Lib.hid m2
 have ST:=Lib.hid st
 have hX2:=Lib.hid hx
 obtain ⟨wb,hwb⟩:∃ wb,wb=(w.alloc (mbox n A l c B m d N1 za)).alloc (mbox n' A' l' c' B' m' d' N2 zb):=⟨_,rfl⟩
 have a0:=m1.r.c0
 have a1:=m1.r.c1
 have a2:=m1.r.c2
 have a3:=m1.c3
 have a4:=m1.c4
 have d0:=m2.r.c0
 have d1:=m2.r.c1
 have d2:=m2.r.c2
 have d3:=m2.c3
 have d4:=m2.c4
 have Hfg:=Lib.hid hfg
 clear o1 o2 b2 hz hq hz' hq' hB hF m1 m2 st hw0 hfg hx
 go_enter Tryz.func104,Tryz.ntmps104
 go_upto_if 14 with (fail)
 rw [← hwb] at M1 M2 ST a0 a1 a2 a3 a4 d0 d1 d2 d3 d4 ⊢
 clear hwb
 obtain ⟨g1,hg1⟩:∃ g,g=w.heap.size:=⟨_,rfl⟩
 obtain ⟨g2,hg2⟩:∃ g,g=w.heap.size+1:=⟨_,rfl⟩
 rw [← hg1] at M1 a0 a1 a2 a3 a4 hgl hfl
 rw [← hg2] at M2 d0 d1 d2 d3 d4
 rw [← hg2,← hg1]
 have l1:=M1.out.r.lt
 have l2:=M2.out.r.lt
 have hgg:g1<g2:=by omega
 have nq1:gs≠g1:=by omega
 have nq2:gs≠g2:=by omega
 have Hgw:=Lib.hid hg1
 clear hg1 hg2
 go_cut [6] (fun s6 wx=>s6=.int .i64 CN∧Below wb.heap.size wb wx)
 case first =>
  rcases Bool.eq_false_or_eq_true zb with h | h
  ·subst h
   have ec:=HCN.out
   rw [if_pos rfl] at ec
   subst ec
   go_wp2_with fail
   go_meet
   exact ⟨rfl,Below.refl _ _⟩
  ·subst h
   have ec:=HCN.out
   rw [if_neg (by decide)] at ec
   subst ec
   go_wp2_with fail
   go_meet
   exact ⟨rfl,Below.refl _ _⟩
 case rest =>
  obtain ⟨rfl,hb3⟩:=hcut
  replace M1:=Lib.hid (M1.out.move hb3)
  replace M2:=Lib.hid (M2.out.move hb3)
  replace ST:=Lib.hid (ST.out.below hb3)
  have hsw:=hb3.size
  have a0:=M1.out.r.c0
  have a1:=M1.out.r.c1
  have a2:=M1.out.r.c2
  have a3:=M1.out.c3
  have a4:=M1.out.c4
  have d0:=M2.out.r.c0
  have d1:=M2.out.r.c1
  have d2:=M2.out.r.c2
  have d3:=M2.out.c3
  have d4:=M2.out.c4
  obtain ⟨wx,hwx⟩:∃ wx,wx=wc:=⟨_,rfl⟩
  rw [← hwx] at M1 M2 ST a0 a1 a2 a3 a4 d0 d1 d2 d3 d4 hsw ⊢
  have lx1:g1<wx.heap.size:=by omega
  have lx2:g2<wx.heap.size:=by omega
  clear hwx hb3 l1 l2 hsw e1 e2
  by_cases hc1:CN<1
  ·have b1:decide (CN<1)=true:=decide_eq_true hc1
   have hr:rt=[]:=by
    rcases Hcase.out with ⟨_,h⟩ | ⟨h,_⟩ | ⟨h,_⟩
    ·exact h
    ·omega
    ·exact absurd hc1 h
   subst hr
   clear Hcase hc1
   go_wp2_with fail
   exact bodyPost_ret (results_none (by rfl) _ _ _) rfl ⟨⟨_,rfl⟩,F,ST.out.blk,by first | exact ST.out.fnd | (rw [List.append_nil];exact ST.out.fnd),ST.out.fr,.inl rfl⟩
  have b1:decide (CN<1)=false:=decide_eq_false hc1
  obtain ⟨cb,hcb⟩:∃ cb,cb=decide (CN=1∧za=false∧zb=false):=⟨_,rfl⟩
  have Hcb:=Lib.hid hcb
  clear hcb
  go_upto_region 5 with (fail)
  go_cut [30] (fun s30 wy=>s30=.bool cb∧Below wx.heap.size wx wy)
  case first =>
   by_cases h1:CN=1
   ·have c1:(CN == 1)=true:=by rw [h1];rfl
    have H1:=Lib.hid h1
    clear h1
    rcases Bool.eq_false_or_eq_true za with h | h
    ·subst h
     go_wp2_with fail
     go_meet
     exact ⟨by rw [Hcb.out];simp,Below.refl _ _⟩
    ·subst h
     rcases Bool.eq_false_or_eq_true zb with h | h
     ·subst h
      go_wp2_with fail
      go_meet
      exact ⟨by rw [Hcb.out];simp,Below.refl _ _⟩
     ·subst h
      go_wp2_with fail
      go_meet
      exact ⟨by rw [Hcb.out];simp [H1.out],Below.refl _ _⟩
   ·have c1:(CN == 1)=false:=by rw [beq_eq_false_iff_ne];exact h1
    have H1:=Lib.hid h1
    clear h1
    go_wp2_with fail
    go_meet
    exact ⟨by rw [Hcb.out];simp [H1.out],Below.refl _ _⟩
  case rest =>
   obtain ⟨rfl,hb4⟩:=hcut
   replace M1:=Lib.hid (M1.out.move hb4)
   replace M2:=Lib.hid (M2.out.move hb4)
   replace ST:=Lib.hid (ST.out.below hb4)
   have hsw:=hb4.size
   clear a0 a1 a2 a3 a4 d0 d1 d2 d3 d4
   have a0:=M1.out.r.c0
   have a1:=M1.out.r.c1
   have a2:=M1.out.r.c2
   have a3:=M1.out.c3
   have a4:=M1.out.c4
   have d0:=M2.out.r.c0
   have d1:=M2.out.r.c1
   have d2:=M2.out.r.c2
   have d3:=M2.out.c3
   have d4:=M2.out.c4
   obtain ⟨wy,hwy⟩:∃ wy,wy=wc:=⟨_,rfl⟩
   rw [← hwy] at M1 M2 ST a0 a1 a2 a3 a4 d0 d1 d2 d3 d4 hsw ⊢
   have ly1:g1<wy.heap.size:=by omega
   have ly2:g2<wy.heap.size:=by omega
   have lys:=ST.out.blk.lt
   have x2:wy.cell? ⟨gs,2,none⟩=some F:=(ST.out.blk.cell 2).trans rfl
   clear hwy hb4 lx1 lx2 hsw b1
   by_cases hco:CN=1∧za=false∧zb=false
   ·obtain rfl:cb=true:=Hcb.out.trans (decide_eq_true hco)
    have hr:rt=[(a.nf,b.nf)]:=by
     rcases Hcase.out with ⟨h,_⟩ | ⟨_,_,_,h⟩ | ⟨_,h,_⟩
     ·omega
     ·exact h
     ·exact absurd hco h
    subst hr
    have hrl:rs.length+1≤1000000:=by simpa using hN
    clear Hcase hco hc1 hN
    go_wp2_with fail
    refine wp_region_lastT (S:=fun w'=>w'.cell? ⟨g1,0,none⟩=some (.bool n)∧w'.cell? ⟨g1,1,none⟩=some (.slice A l c)∧w'.cell? ⟨g1,2,none⟩=some (.slice B m d)∧w'.cell? ⟨g2,0,none⟩=some (.bool n')∧w'.cell? ⟨g2,1,none⟩=some (.slice A' l' c')∧w'.cell? ⟨g2,2,none⟩=some (.slice B' m' d')∧w'.cell? ⟨gs,2,none⟩=some (F)) (by kernel_rfl) (by kernel_rfl) (by (try dsimp only);go_keep) (fun hHeld=>?_)
    simp only [List.pop_toArray,List.dropLast]
    (refine tk (i:=0) (v:=?_) rfl rfl (Or.inl ⟨by rfl,?_⟩) ?_;rotate_left;(focus (intro w hSw;(try dsimp only at hSw);go_simp;(try with_reducible rfl)));(simp only [put_lit,List.set]))
    (refine tk (i:=1) (v:=?_) rfl rfl (Or.inl ⟨by rfl,?_⟩) ?_;rotate_left;(focus (intro w hSw;(try dsimp only at hSw);go_simp;(try with_reducible rfl)));(simp only [put_lit,List.set]))
    (refine tk (i:=2) (v:=?_) rfl rfl (Or.inl ⟨by rfl,?_⟩) ?_;rotate_left;(focus (intro w hSw;(try dsimp only at hSw);go_simp;(try with_reducible rfl)));(simp only [put_lit,List.set]))
    (refine tk (i:=3) (v:=?_) rfl rfl (Or.inl ⟨by rfl,?_⟩) ?_;rotate_left;(focus (intro w hSw;(try dsimp only at hSw);go_simp;(try with_reducible rfl)));(simp only [put_lit,List.set]))
    (refine tk (i:=4) (v:=?_) rfl rfl (Or.inl ⟨by rfl,?_⟩) ?_;rotate_left;(focus (intro w hSw;(try dsimp only at hSw);go_simp;(try with_reducible rfl)));(simp only [put_lit,List.set]))
    (refine tk (i:=5) (v:=?_) rfl rfl (Or.inl ⟨by rfl,?_⟩) ?_;rotate_left;(focus (intro w hSw;(try dsimp only at hSw);go_simp;(try with_reducible rfl)));(simp only [put_lit,List.set]))
    (refine tk (i:=6) (v:=?_) rfl rfl (Or.inl ⟨by rfl,?_⟩) ?_;rotate_left;(focus (intro w hSw;(try dsimp only at hSw);go_simp;(try with_reducible rfl)));(simp only [put_lit,List.set]))
    (refine tk (i:=7) (v:=?_) rfl rfl (Or.inl ⟨by rfl,?_⟩) ?_;rotate_left;(focus (intro w hSw;(try dsimp only at hSw);go_simp;(try with_reducible rfl)));(simp only [put_lit,List.set]))
    (refine tk (i:=8) (v:=?_) rfl rfl (Or.inl ⟨by rfl,?_⟩) ?_;rotate_left;(focus (intro w hSw;(try dsimp only at hSw);go_simp;(try with_reducible rfl)));(simp only [put_lit,List.set]))
    refine wpAnyH_ready (rs:=[9]) (by kernel_rfl) (by simp) ?_
    refine AllReadyH.cons rfl (fun K hK=>?_) AllReadyH.nil;go_simp
    refine (copy_any a b _ _ _ _ _ _ _ _ _ _ _ _ _ _ _ (M1.out.r.hz.below Bel.go) (M1.out.r.hq.below Bel.go) (M2.out.r.hz.below Bel.go) (M2.out.r.hq.below Bel.go) ha.fz ha.fq ha.p hb.fz hb.fq hb.p).mono ?_
    rintro e w7 ⟨⟨n7,A7,l7,c7,B7,m7,d7,n9,A9,l9,c9,B9,m9,d9,rfl,h7,k7,h9,k9⟩,hb7⟩
    obtain ⟨hcx,hfx⟩:=bcellS hb7
    have hbz:Below wy.heap.size wy w7:=(Below.trans Bel.go (hb7.mono (by simp<;>omega)))
    have Hbz:=Lib.hid hbz
    have H7:=Lib.hid (RtV.mk (r:=(a.nf,b.nf)) h7 k7 h9 k9)
    refine hK.out _ _ ?_ (fun _=>?_)
    ·((try dsimp only);repeat' apply And.intro)<;>(rw [hcx _ (by go_simp)];go_simp)
    clear hHeld hK K hcx hfx;rename_i hHeld
    have hs7:=hbz.size
    clear h7 k7 h9 k9 hb7 hbz
    refine wpAnyH_ready (rs:=[10]) (by kernel_rfl) (by simp) ?_
    refine AllReadyH.cons rfl (fun K hK=>?_) AllReadyH.nil;go_simp
    refine hK.out _ _ ?_ (fun _=>?_)
    ·(try dsimp only);go_keep
    clear hHeld hK K
    rename_i hHeld
    (try (simp only [put_lit,List.set]))
    refine wpAnyH_ready (rs:=[11]) (by kernel_rfl) (by simp) ?_
    refine AllReadyH.cons rfl (fun K hK=>?_) AllReadyH.nil
    rw [if_pos (by rfl)]
    have jb:=below_new w7 (.cells #[.bool n7,.slice A7 l7 c7,.slice B7 m7 d7,.bool n9,.slice A9 l9 c9,.slice B9 m9 d9] 53)
    have hwj:Below wy.heap.size wy (w7.alloc (.cells #[.bool n7,.slice A7 l7 c7,.slice B7 m7 d7,.bool n9,.slice A9 l9 c9,.slice B9 m9 d9] 53)):=Hbz.out.trans (jb.mono Hbz.out.size)
    refine oper_append_rootv (.tmp 35) (.tmp 41) rfl W0.heap.size gs (F) (rs) (a.nf,b.nf) rfl (ST.out.fnd.below (by exact hwj)) (by have:=ST.out.blk.lt;simp;omega) (by have:=ST.out.w0s hgs0.out;simp;omega) w7.heap.size [.bool n7,.slice A7 l7 c7,.slice B7 m7 d7,.bool n9,.slice A9 l9 c9,.slice B9 m9 d9] rfl (newrow_cells _ _ _) (H7.out.below Bel.go) (by first | omega | (simp only [List.length_append];omega)) 42 rfl ?_
    intro F2 w10 hgr
    obtain ⟨g2',cap2,eF2⟩:=hgr.grown.slice
    subst eF2
    have hbk:=ST.out.blk.below hwj ST.out.blk.lt
    have fin:=hgr.fin hbk (noDigit_slice _ _ _) (noDigit_slice _ _ _) (fndv_nd ST.out.fnd) hwj
    have STF:=Lib.hid (ST.out.next fin.1 fin.2.1 fin.2.2.1 fin.2.2.2)
    have FB:=Lib.hid fin.2.2.2
    have z7:w10.cell? ⟨gs,2,none⟩=some (F):=((hgr.grown.blk hbk).cell 2).trans rfl
    have z8:w10.frozen? ⟨gs,2,none⟩=false:=(hgr.grown.blk hbk).frozen 2
    refine hK.out _ _ ?_ (fun _=>?_)
    ·refine ⟨?_,?_,?_,?_,?_,?_,z7⟩<;>(refine (hgr.grown.cell (by simp;omega) (by omega) _).trans ?_;go_simp)
    clear hHeld hK K hgr hbk jb hwj fin
    rename_i hHeld
    simp only [put_lit,List.set]
    (refine tk (i:=12) (v:=?_) rfl rfl (Or.inl ⟨by rfl,?_⟩) ?_;rotate_left;(focus (intro w hSw;(try dsimp only at hSw);go_simp;(try with_reducible rfl)));(simp only [put_lit,List.set]))
    (refine tk (i:=13) (v:=?_) rfl rfl (Or.inl ⟨by rfl,?_⟩) ?_;rotate_left;(focus (intro w hSw;(try dsimp only at hSw);go_simp;(try with_reducible rfl)));(simp only [put_lit,List.set]))
    refine wpAnyH_done (by kernel_rfl) (lastQ_list rfl ?_) _
    clear hHeld x2 a0 a1 a2 a3 a4 d0 d1 d2 d3 d4 M1 M2 ST H7 Hbz
    go_wp2_with fail
    exact bodyPost_ret (results_none (by rfl) _ _ _) rfl ⟨⟨_,rfl⟩,_,STF.out.blk,STF.out.fnd,STF.out.fr,STF.out.fb⟩
   ·obtain rfl:cb=false:=Hcb.out.trans (decide_eq_false hco)
    obtain ⟨hM,r1,r2,hr,ih1,ih2⟩:FqB (a.mid b)∧∃ r1 r2,rt=r1 ++ (if (a.mid b).sgn Q=0 then [((a.mid b).nf,(a.mid b).nf)] else []) ++ r2∧IsoSpec Q PS W0 gs Ap lp cp Ac lc cc a (a.mid b) r1∧IsoSpec Q PS W0 gs Ap lp cp Ac lc cc (a.mid b) b r2:=by
     rcases Hcase.out with ⟨h,_⟩ | ⟨h1,h2,h3,_⟩ | ⟨_,_,h⟩
     ·exact absurd h hc1
     ·exact absurd ⟨h1,h2,h3⟩ hco
     ·exact h
    have Ih1:=Lib.hid ih1
    have Ih2:=Lib.hid ih2
    have Hr:=Lib.hid hr
    have hrl:rs.length+rt.length≤1000000:=hN
    have hln:rt.length=r1.length+(if (a.mid b).sgn Q=0 then [((a.mid b).nf,(a.mid b).nf)] else []).length+r2.length:=by rw [hr,List.length_append,List.length_append]
    clear Hcase hco hc1 ih1 ih2 hr hN
    go_wp2_with fail
    refine (mid_any _ _ _ _ _ _ _ _ _ _ _ _ _ _ _ _ _ _ _ M1.out.r.hz M1.out.r.hq M2.out.r.hz M2.out.r.hq ha.fz ha.fq ha.p hb.fz hb.fq hb.p).mono ?_
    rintro e w9 ⟨⟨n9,A9,l9,c9,B9,m9,d9,rfl,h9,k9⟩,hb9⟩
    replace h9:IntN w9 n9 A9 l9 c9 (a.mid b).z:=h9
    replace k9:NatN w9 B9 m9 d9 (a.mid b).q:=k9
    obtain ⟨mf,hmf⟩:∃ mf,mf=a.mid b:=⟨_,rfl⟩
    rw [← hmf] at h9 k9 hM Ih1 Ih2 Hr hln
    replace M1:=Lib.hid (M1.out.move hb9)
    replace M2:=Lib.hid (M2.out.move hb9)
    replace ST:=Lib.hid (ST.out.below hb9)
    have hw9:=ST.out.w0 hgs0.out
    have hs9:=hb9.size
    clear hb9 a0 a1 a2 a3 a4 d0 d1 d2 d3 d4 x2 hmf lys
    go_wp2_with fail
    refine (mark_any Q PS gs Ap lp cp Ac lc cc F n9 A9 l9 c9 B9 m9 d9 mf.q mf.z w9 ST.out.blk (hX2.out.hp.below ikN hw9) (hX2.out.hc.below hw9) hX2.out.lp (by have:=hX2.out.lc;omega) h9 k9 hM.at (fun p hp=>hX2.out.el p hp _ _ hM.z hM.q) (hX2.out.eq _ _ hM.z hM.q)).mono ?_
    rintro e w10 ⟨rfl,hb10⟩
    obtain ⟨N3,hN3⟩:∃ N3:Int,N3=((vst (PS.map (sat mf.z mf.q)) lc).1:Nat):=⟨_,rfl⟩
    obtain ⟨mz,hmz⟩:∃ mz,mz=decide (sat mf.z mf.q Q=0):=⟨_,rfl⟩
    rw [← hN3,← hmz]
    have HN3:=Lib.hid (show N3=(mf.chg PS:Int) by rw [hN3,← hX2.out.hc.length];rfl)
    have Hmz:=Lib.hid (show mz=decide (mf.sgn Q=0) from hmz)
    have jb:=below_new w10 (mbox n9 A9 l9 c9 B9 m9 d9 N3 mz)
    have hbj:=hb10.trans (jb.mono hb10.size)
    have m3:=MBox.make (N:=N3) (zr:=mz) (h9.below hb10) (k9.below hb10)
    have hg3:wy.heap.size≤w10.heap.size:=by have:=hb10.size;omega
    replace M1:=Lib.hid (M1.out.move hbj)
    replace M2:=Lib.hid (M2.out.move hbj)
    replace ST:=Lib.hid (ST.out.below hbj)
    have M3:=Lib.hid m3
    have a0:=M1.out.r.c0
    have a1:=M1.out.r.c1
    have a2:=M1.out.r.c2
    have a3:=M1.out.c3
    have a4:=M1.out.c4
    have d0:=m3.r.c0
    have d1:=m3.r.c1
    have d2:=m3.r.c2
    have d3:=m3.c3
    have d4:=m3.c4
    have lk1:=M1.out.r.lt
    have lk3:=m3.r.lt
    clear h9 k9 hb10 jb hbj m3 hN3 hmz hw9
    go_wp2_with fail
    obtain ⟨wk,hwk⟩:∃ wk,wk=w10.alloc (mbox n9 A9 l9 c9 B9 m9 d9 N3 mz):=⟨_,rfl⟩
    rw [← hwk] at M1 M2 M3 ST a0 a1 a2 a3 a4 d0 d1 d2 d3 d4 lk1 lk3 ⊢
    obtain ⟨g3,e3⟩:∃ g,g=w10.heap.size:=⟨_,rfl⟩
    rw [← e3] at M3 hg3 d0 d1 d2 d3 d4 lk3 ⊢
    clear hwk e3
    have hwk0:=ST.out.w0 hgs0.out
    refine (Ih1.out F rs _ _ _ _ _ _ _ _ _ _ _ _ _ _ N1 N3 za mz HN1.out HN3.out Hza.out Hmz.out wk (by omega) hwk0 ST.out.blk ST.out.fnd M1.out.r.hz M1.out.r.hq M3.out.r.hz M3.out.r.hq).mono ?_
    rintro e w12 ⟨⟨v12,rfl⟩,F',hB',hF',hfr,hfb'⟩
    have m2':=M2.out.frs2 ST.out.blk (noDigit_slice _ _ _) (noDigit_slice _ _ _) ST.out.fnd hfr (by omega) (by omega)
    have m3':=M3.out.frs2 ST.out.blk (noDigit_slice _ _ _) (noDigit_slice _ _ _) ST.out.fnd hfr (by omega) (by omega)
    replace ST:=Lib.hid (ST.out.next hB' hF' hfr hfb')
    replace M2:=Lib.hid m2'
    replace M3:=Lib.hid m3'
    have hs12:=hfr.size
    have hk12:fbk gs F'≠g2∧fbk gs F'≠g3:=by
     rcases hfb' with e | e
     ·rw [e];omega
     ·have:=M3.out.r.lt;have:=M2.out.r.lt;omega
    clear hB' hF' hfr hfb' m2' m3' a0 a1 a2 a3 a4 d0 d1 d2 d3 d4 M1 hwk0 lk1 lk3
    have a0:=M2.out.r.c0
    have a1:=M2.out.r.c1
    have a2:=M2.out.r.c2
    have a3:=M2.out.c3
    have a4:=M2.out.c4
    have d0:=M3.out.r.c0
    have d1:=M3.out.r.c1
    have d2:=M3.out.r.c2
    have d3:=M3.out.c3
    have d4:=M3.out.c4
    have lw2:=M2.out.r.lt
    have lw3:=M3.out.r.lt
    have lws:=ST.out.blk.lt
    have lwf:=ST.out.fnd.fb_lt lws
    have x2:w12.cell? ⟨gs,2,none⟩=some F':=(ST.out.blk.cell 2).trans rfl
    obtain ⟨R2,hR2⟩:∃ R2,R2=rs ++ r1 ++ (if mf.sgn Q=0 then [(mf.nf,mf.nf)] else []):=⟨_,rfl⟩
    have hRl:R2.length+r2.length=rs.length+rt.length:=by rw [hR2,hln,List.length_append,List.length_append];omega
    have hRt:R2 ++ r2=rs ++ rt:=by rw [hR2,Hr.out];simp only [List.append_assoc]
    have HRt:=Lib.hid hRt
    have HR2:=Lib.hid hR2
    clear hR2 hRt
    go_upto_if 57 with (fail)
    go_cut [] (fun wz=>∃ F2,IsSt W0 gs (.slice Ap lp cp) (.slice Ac lc cc) F R2 w F2 wz∧MBox wz g2 n' A' l' c' B' m' d' b.z b.q N2 zb∧MBox wz g3 n9 A9 l9 c9 B9 m9 d9 mf.z mf.q N3 mz∧fbk gs F2≠g2∧fbk gs F2≠g3)
    case first =>
     rcases Bool.eq_false_or_eq_true mz with h | h
     ·subst h
      have er:R2=rs ++ r1 ++ [(mf.nf,mf.nf)]:=by rw [HR2.out,if_pos (by simpa using Hmz.out.symm)]
      have Er:=Lib.hid er
      clear er
      go_wp2_with fail
      refine wp_region_lastT (S:=fun w'=>w'.cell? ⟨g3,0,none⟩=some (.bool n9)∧w'.cell? ⟨g3,1,none⟩=some (.slice A9 l9 c9)∧w'.cell? ⟨g3,2,none⟩=some (.slice B9 m9 d9)∧w'.cell? ⟨gs,2,none⟩=some (F')) (by kernel_rfl) (by kernel_rfl) (by (try dsimp only);go_keep) (fun hHeld=>?_)
      simp only [List.pop_toArray,List.dropLast]
      (refine tk (i:=0) (v:=?_) rfl rfl (Or.inl ⟨by rfl,?_⟩) ?_;rotate_left;(focus (intro w hSw;(try dsimp only at hSw);go_simp;(try with_reducible rfl)));(simp only [put_lit,List.set]))
      (refine tk (i:=1) (v:=?_) rfl rfl (Or.inl ⟨by rfl,?_⟩) ?_;rotate_left;(focus (intro w hSw;(try dsimp only at hSw);go_simp;(try with_reducible rfl)));(simp only [put_lit,List.set]))
      (refine tk (i:=2) (v:=?_) rfl rfl (Or.inl ⟨by rfl,?_⟩) ?_;rotate_left;(focus (intro w hSw;(try dsimp only at hSw);go_simp;(try with_reducible rfl)));(simp only [put_lit,List.set]))
      (refine tk (i:=3) (v:=?_) rfl rfl (Or.inl ⟨by rfl,?_⟩) ?_;rotate_left;(focus (intro w hSw;(try dsimp only at hSw);go_simp;(try with_reducible rfl)));(simp only [put_lit,List.set]))
      (refine tk (i:=4) (v:=?_) rfl rfl (Or.inl ⟨by rfl,?_⟩) ?_;rotate_left;(focus (intro w hSw;(try dsimp only at hSw);go_simp;(try with_reducible rfl)));(simp only [put_lit,List.set]))
      (refine tk (i:=5) (v:=?_) rfl rfl (Or.inl ⟨by rfl,?_⟩) ?_;rotate_left;(focus (intro w hSw;(try dsimp only at hSw);go_simp;(try with_reducible rfl)));(simp only [put_lit,List.set]))
      (refine tk (i:=6) (v:=?_) rfl rfl (Or.inl ⟨by rfl,?_⟩) ?_;rotate_left;(focus (intro w hSw;(try dsimp only at hSw);go_simp;(try with_reducible rfl)));(simp only [put_lit,List.set]))
      (refine tk (i:=7) (v:=?_) rfl rfl (Or.inl ⟨by rfl,?_⟩) ?_;rotate_left;(focus (intro w hSw;(try dsimp only at hSw);go_simp;(try with_reducible rfl)));(simp only [put_lit,List.set]))
      (refine tk (i:=8) (v:=?_) rfl rfl (Or.inl ⟨by rfl,?_⟩) ?_;rotate_left;(focus (intro w hSw;(try dsimp only at hSw);go_simp;(try with_reducible rfl)));(simp only [put_lit,List.set]))
      refine wpAnyH_ready (rs:=[9]) (by kernel_rfl) (by simp) ?_
      refine AllReadyH.cons rfl (fun K hK=>?_) AllReadyH.nil;go_simp
      refine (copy_any mf mf _ _ _ _ _ _ _ _ _ _ _ _ _ _ _ (M3.out.r.hz.below Bel.go) (M3.out.r.hq.below Bel.go) (M3.out.r.hz.below Bel.go) (M3.out.r.hq.below Bel.go) hM.fz hM.fq hM.p hM.fz hM.fq hM.p).mono ?_
      rintro e w7 ⟨⟨n7,A7,l7,c7,B7,m7,d7,n9,A9,l9,c9,B9,m9,d9,rfl,h7,k7,h9,k9⟩,hb7⟩
      obtain ⟨hcx,hfx⟩:=bcellS hb7
      have hbz:Below w12.heap.size w12 w7:=(Below.trans Bel.go (hb7.mono (by simp<;>omega)))
      have Hbz:=Lib.hid hbz
      have H7:=Lib.hid (RtV.mk (r:=(mf.nf,mf.nf)) h7 k7 h9 k9)
      refine hK.out _ _ ?_ (fun _=>?_)
      ·((try dsimp only);repeat' apply And.intro)<;>(rw [hcx _ (by go_simp)];go_simp)
      clear hHeld hK K hcx hfx;rename_i hHeld
      have hs7:=hbz.size
      clear h7 k7 h9 k9 hb7 hbz
      refine wpAnyH_ready (rs:=[10]) (by kernel_rfl) (by simp) ?_
      refine AllReadyH.cons rfl (fun K hK=>?_) AllReadyH.nil;go_simp
      refine hK.out _ _ ?_ (fun _=>?_)
      ·(try dsimp only);go_keep
      clear hHeld hK K
      rename_i hHeld
      (try (simp only [put_lit,List.set]))
      refine wpAnyH_ready (rs:=[11]) (by kernel_rfl) (by simp) ?_
      refine AllReadyH.cons rfl (fun K hK=>?_) AllReadyH.nil
      rw [if_pos (by rfl)]
      have jb:=below_new w7 (.cells #[.bool n7,.slice A7 l7 c7,.slice B7 m7 d7,.bool n9,.slice A9 l9 c9,.slice B9 m9 d9] 53)
      have hwj:Below w12.heap.size w12 (w7.alloc (.cells #[.bool n7,.slice A7 l7 c7,.slice B7 m7 d7,.bool n9,.slice A9 l9 c9,.slice B9 m9 d9] 53)):=Hbz.out.trans (jb.mono Hbz.out.size)
      refine oper_append_rootv (.tmp 62) (.tmp 68) rfl W0.heap.size gs (F') (rs ++ r1) (mf.nf,mf.nf) rfl (ST.out.fnd.below (by exact hwj)) (by have:=ST.out.blk.lt;simp;omega) (by have:=ST.out.w0s hgs0.out;simp;omega) w7.heap.size [.bool n7,.slice A7 l7 c7,.slice B7 m7 d7,.bool n9,.slice A9 l9 c9,.slice B9 m9 d9] rfl (newrow_cells _ _ _) (H7.out.below Bel.go) (by first | omega | (simp only [List.length_append];omega)) 69 rfl ?_
      intro F2 w10 hgr
      obtain ⟨g2',cap2,eF2⟩:=hgr.grown.slice
      subst eF2
      have hbk:=ST.out.blk.below hwj ST.out.blk.lt
      have fin:=hgr.fin hbk (noDigit_slice _ _ _) (noDigit_slice _ _ _) (fndv_nd ST.out.fnd) hwj
      have STF:=Lib.hid (ST.out.next fin.1 fin.2.1 fin.2.2.1 fin.2.2.2)
      have FB:=Lib.hid fin.2.2.2
      have M2F:=Lib.hid (M2.out.frs2 ST.out.blk (noDigit_slice _ _ _) (noDigit_slice _ _ _) ST.out.fnd fin.2.2.1 (by omega) (by omega))
      have M3F:=Lib.hid (M3.out.frs2 ST.out.blk (noDigit_slice _ _ _) (noDigit_slice _ _ _) ST.out.fnd fin.2.2.1 (by omega) (by omega))
      have z7:w10.cell? ⟨gs,2,none⟩=some (F'):=((hgr.grown.blk hbk).cell 2).trans rfl
      have z8:w10.frozen? ⟨gs,2,none⟩=false:=(hgr.grown.blk hbk).frozen 2
      refine hK.out _ _ ?_ (fun _=>?_)
      ·refine ⟨?_,?_,?_,z7⟩<;>(refine (hgr.grown.cell (by simp;omega) (by omega) _).trans ?_;go_simp)
      clear hHeld hK K hgr hbk jb hwj fin
      rename_i hHeld
      simp only [put_lit,List.set]
      (refine tk (i:=12) (v:=?_) rfl rfl (Or.inl ⟨by rfl,?_⟩) ?_;rotate_left;(focus (intro w hSw;(try dsimp only at hSw);go_simp;(try with_reducible rfl)));(simp only [put_lit,List.set]))
      (refine tk (i:=13) (v:=?_) rfl rfl (Or.inl ⟨by rfl,?_⟩) ?_;rotate_left;(focus (intro w hSw;(try dsimp only at hSw);go_simp;(try with_reducible rfl)));(simp only [put_lit,List.set]))
      refine wpAnyH_done (by kernel_rfl) (lastQ_list rfl ?_) _
      clear hHeld x2 a0 a1 a2 a3 a4 d0 d1 d2 d3 d4 M2 M3 ST H7 Hbz
      simp only [List.length_append] at STF M2F M3F FB
      go_wp2_with fail
      go_meet
      refine ⟨_,by rw [Er.out];exact STF.out,M2F.out,M3F.out,?_,?_⟩
      ·rcases FB.out with e | e
       ·rw [e];exact hk12.1
       ·omega
      ·rcases FB.out with e | e
       ·rw [e];exact hk12.2
       ·omega
     ·subst h
      have er:R2=rs ++ r1:=by rw [HR2.out,if_neg (by simpa using Hmz.out.symm),List.append_nil]
      have Er:=Lib.hid er
      clear er
      go_wp2_with fail
      go_meet
      exact ⟨F',by rw [Er.out];exact ST.out,M2.out,M3.out,hk12.1,hk12.2⟩
    case rest =>
     obtain ⟨F2,st2,m2,m3,k1,k2⟩:=hcut
     clear a0 a1 a2 a3 a4 d0 d1 d2 d3 d4 x2 M2 M3 ST hk12 lw2 lw3 lws lwf
     have a0:=m2.r.c0
     have a1:=m2.r.c1
     have a2:=m2.r.c2
     have a3:=m2.c3
     have a4:=m2.c4
     have d0:=m3.r.c0
     have d1:=m3.r.c1
     have d2:=m3.r.c2
     have d3:=m3.c3
     have d4:=m3.c4
     have ST:=Lib.hid st2
     have M2:=Lib.hid m2
     have M3:=Lib.hid m3
     have hwc0:=st2.w0 hgs0.out
     clear st2 m2 m3
     go_wp2_with fail
     refine (Ih2.out F2 R2 _ _ _ _ _ _ _ _ _ _ _ _ _ _ N3 N2 mz zb HN3.out HN2.out Hmz.out Hzb.out _ (by omega) hwc0 ST.out.blk ST.out.fnd M3.out.r.hz M3.out.r.hq M2.out.r.hz M2.out.r.hq).mono ?_
     rintro e w13 ⟨⟨v13,rfl⟩,F3,hB3,hF3,hfr3,hfb3⟩
     have STF:=Lib.hid (ST.out.next hB3 hF3 hfr3 hfb3)
     clear hB3 hF3 hfr3 hfb3 a0 a1 a2 a3 a4 d0 d1 d2 d3 d4 M2 M3 ST
     go_wp2_with fail
     exact bodyPost_end (results_none (by rfl) _ _ _) rfl ⟨⟨_,rfl⟩,F3,STF.out.blk,by rw [← HRt.out];exact STF.out.fnd,STF.out.fr,STF.out.fb⟩
theorem iso_any {Q:List Int} {PS:List (List Int)} {W0:World} {gs:Nat} {Ap:Option Addr} {lp cp:Nat} {Ac:Option Addr} {lc cc:Nat} (hx:IsCtx Q PS W0 gs Ap lp cp Ac lc cc):∀ (n:Nat) (a b:Fq),IsFit Q PS n a b→IsoSpec Q PS W0 gs Ap lp cp Ac lc cc a b (isl Q PS n a b)
 | 0,_,_,h=>h.elim
 | n+1,a,b,⟨ha,hb,h⟩=>by
   refine iso_step hx ha hb ?_
   have e:isl Q PS (n+1) a b=if icnt Q PS a b<1 then [] else if icnt Q PS a b=1∧a.sgn Q≠0∧b.sgn Q≠0 then [(a.nf,b.nf)] else isl Q PS n a (a.mid b) ++ (if (a.mid b).sgn Q=0 then [((a.mid b).nf,(a.mid b).nf)] else []) ++ isl Q PS n (a.mid b) b:=rfl
   by_cases c1:icnt Q PS a b<1
   ·exact .inl ⟨c1,by rw [e,if_pos c1]⟩
   by_cases c2:icnt Q PS a b=1∧a.sgn Q≠0∧b.sgn Q≠0
   ·exact .inr (.inl ⟨c2.1,c2.2.1,c2.2.2,by rw [e,if_neg c1,if_pos c2]⟩)
   ·obtain ⟨h1,h2,h3⟩:=(h.resolve_left c1).resolve_left c2
    exact .inr (.inr ⟨c1,c2,h1,_,_,by rw [e,if_neg c1,if_neg c2],iso_any hx n a _ h2,iso_any hx n _ b h3⟩)
end Go.Proofs.YtjmglmgokfcgoaaGreat
namespace Go.Proofs.YtjmglmgokfcgoaaGreat
open Go.RowKit
set_option maxHeartbeats 4000000 in
theorem floor_all (na:Bool) (A:Option Addr) (la ca:Nat) (a:Int) (nb:Bool) (B:Option Addr) (lb cb:Nat) (b:Int) (w:World) (ha:IntAt w na A la ca a) (hb:IntAt w nb B lb cb b) (hsa:SmI a) (hsb:SmI b) (hb0:b≠0) (hs1:Sm (a.natAbs+1)) (hs2:Sm (a.natAbs+b.natAbs)) :
 Calls Tryz.prog 142 #[.agg #[.bool na,.slice A la ca],.agg #[.bool nb,.slice B lb cb]] w fun e w'=>∃ n1 A1 l1 c1 n2 A2 l2 c2,e=.returned (.tuple #[.agg #[.bool n1,.slice A1 l1 c1],.agg #[.bool n2,.slice A2 l2 c2],.int .i64 0])∧IntN w' n1 A1 l1 c1 (flq a b)∧IntN w' n2 A2 l2 c2 (flr a b)∧Below w.heap.size w w':=by
 have hbx:Below w.heap.size w ((((w.alloc (ibox na A la ca)).alloc (ibox nb B lb cb)).alloc (ibox false none 0 0)).alloc (ibox false none 0 0)):=below_four w _ _ _ _ (Nat.le_refl _)
 have hA0:=ha.below hbx
 have hB0:=hb.below hbx
 have Hbx:=Lib.hid hbx
 clear ha hb hbx
 go_enter Tryz.func142,Tryz.ntmps142
 go_wp2_with fail
 refine (quo_all _ _ _ _ _ _ _ _ _ _ _ hA0 hB0 hsa hsb hb0).mono ?_
 rintro e w1 ⟨n1,A1,l1,c1,n2,A2,l2,c2,rfl,h1,h2,hb1⟩
 obtain ⟨hc,hf⟩:=bcell hb1
 have hsz:=hb1.size
 simp only [World.size_alloc] at hsz
 have d10:w1.cell? ⟨w.heap.size+1,0,none⟩=some (.bool nb):=by rw [hc _ _ (by simp)];go_simp
 have d11:w1.cell? ⟨w.heap.size+1,1,none⟩=some (.slice B lb cb):=by rw [hc _ _ (by simp)];go_simp
 have d20:w1.cell? ⟨w.heap.size+1+1,0,none⟩=some (.bool false):=by rw [hc _ _ (by simp)];go_simp
 have f20:w1.frozen? ⟨w.heap.size+1+1,0,none⟩=false:=by rw [hf _ _ (by simp)];go_simp
 have d21:w1.cell? ⟨w.heap.size+1+1,1,none⟩=some (.slice none 0 0):=by rw [hc _ _ (by simp)];go_simp
 have f21:w1.frozen? ⟨w.heap.size+1+1,1,none⟩=false:=by rw [hf _ _ (by simp)];go_simp
 have d30:w1.cell? ⟨w.heap.size+1+1+1,0,none⟩=some (.bool false):=by rw [hc _ _ (by simp)];go_simp
 have f30:w1.frozen? ⟨w.heap.size+1+1+1,0,none⟩=false:=by rw [hf _ _ (by simp)];go_simp
 have d31:w1.cell? ⟨w.heap.size+1+1+1,1,none⟩=some (.slice none 0 0):=by rw [hc _ _ (by simp)];go_simp
 have f31:w1.frozen? ⟨w.heap.size+1+1+1,1,none⟩=false:=by rw [hf _ _ (by simp)];go_simp
 have h1':=h1.rets (g:=w.heap.size+1+1) (g':=w.heap.size+1+1+1) (by omega) (.bool n1) (.slice A1 l1 c1) (.bool n2) (.slice A2 l2 c2) d20 d21 d30 d31
 have h2':=h2.rets (g:=w.heap.size+1+1) (g':=w.heap.size+1+1+1) (by omega) (.bool n1) (.slice A1 l1 c1) (.bool n2) (.slice A2 l2 c2) d20 d21 d30 d31
 have hB1:=(((((hB0.below hb1).store (.bool n1) d20 (noDigit_bool _)).store (.slice A1 l1 c1) (p:=⟨w.heap.size+1+1,1,none⟩) (v:=.slice none 0 0) (by go_simp) (noDigit_slice _ _ _))).store (.bool n2) (p:=⟨w.heap.size+1+1+1,0,none⟩) (v:=.bool false) (by go_simp) (noDigit_bool _)).store (.slice A2 l2 c2) (p:=⟨w.heap.size+1+1+1,1,none⟩) (v:=.slice none 0 0) (by go_simp) (noDigit_slice _ _ _)
 have hbw:=(((((Hbx.out.trans (hb1.mono Hbx.out.size)).setCell (p:=⟨w.heap.size+1+1,0,none⟩) (by simp<;>omega) (.bool n1)).setCell (p:=⟨w.heap.size+1+1,1,none⟩) (by simp<;>omega) (.slice A1 l1 c1)).setCell (p:=⟨w.heap.size+1+1+1,0,none⟩) (by simp<;>omega) (.bool n2)).setCell (p:=⟨w.heap.size+1+1+1,1,none⟩) (by simp<;>omega) (.slice A2 l2 c2))
 have hW:∃ W,W=(((w1.setCell ⟨w.heap.size+1+1,0,none⟩ (.bool n1)).setCell ⟨w.heap.size+1+1,1,none⟩ (.slice A1 l1 c1)).setCell ⟨w.heap.size+1+1+1,0,none⟩ (.bool n2)).setCell ⟨w.heap.size+1+1+1,1,none⟩ (.slice A2 l2 c2):=⟨_,rfl⟩
 obtain ⟨W,hW⟩:=hW
 rw [← hW] at h1' h2' hB1 hbw
 have w10:W.cell? ⟨w.heap.size+1,0,none⟩=some (.bool nb):=by rw [hW];go_simp
 have w11:W.cell? ⟨w.heap.size+1,1,none⟩=some (.slice B lb cb):=by rw [hW];go_simp
 have w20:W.cell? ⟨w.heap.size+1+1,0,none⟩=some (.bool n1):=by rw [hW];go_simp
 have w21:W.cell? ⟨w.heap.size+1+1,1,none⟩=some (.slice A1 l1 c1):=by rw [hW];go_simp
 have w30:W.cell? ⟨w.heap.size+1+1+1,0,none⟩=some (.bool n2):=by rw [hW];go_simp
 have w31:W.cell? ⟨w.heap.size+1+1+1,1,none⟩=some (.slice A2 l2 c2):=by rw [hW];go_simp
 have g20:W.frozen? ⟨w.heap.size+1+1,0,none⟩=false:=by rw [hW];go_simp
 have g21:W.frozen? ⟨w.heap.size+1+1,1,none⟩=false:=by rw [hW];go_simp
 have g30:W.frozen? ⟨w.heap.size+1+1+1,0,none⟩=false:=by rw [hW];go_simp
 have g31:W.frozen? ⟨w.heap.size+1+1+1,1,none⟩=false:=by rw [hW];go_simp
 have wsz:w.heap.size+4≤W.heap.size:=by rw [hW];simp;omega
 have Hw:=Lib.hid hW
 have HF:FlW w W nb B lb cb b n1 A1 l1 c1 (a.tdiv b) n2 A2 l2 c2 (a.tmod b):=⟨w10,w11,w20,w21,w30,w31,g20,g21,g30,g31,wsz,hB1,h1',h2',hbw⟩
 have HF:=Lib.hid HF
 clear hW h1' h2' hB1 hbw h1 h2 hB0 hA0 w10 w11 w20 w21 w30 w31 g20 g21 g30 g31 wsz
 go_wp2_with fail
 rw [← Hw.out]
 clear Hw d10 d11 d20 d21 d30 d31 f20 f21 f30 f31
 go_cut [24] (fun s24 wx=>s24=.bool (decide (sg (a.tmod b)*sg b<0))∧FlW w wx nb B lb cb b n1 A1 l1 c1 (a.tdiv b) n2 A2 l2 c2 (a.tmod b))
 case first =>
  have e10:=HF.out.w10
  have e11:=HF.out.w11
  have e30:=HF.out.w30
  have e31:=HF.out.w31
  have esz:=HF.out.size
  have k1:w.heap.size+1<W.heap.size:=by omega
  have k3:w.heap.size+1+1+1<W.heap.size:=by omega
  have hwp:IntKind.i64.wrap (sg (a.tmod b)*sg b)=sg (a.tmod b)*sg b:=by
   rcases sg_cases (a.tmod b) with ⟨_,x2⟩ | ⟨_,x2⟩ | ⟨_,x2⟩<;>rcases sg_cases b with ⟨_,y2⟩ | ⟨_,y2⟩ | ⟨_,y2⟩<;>rw [x2,y2]<;>rfl
  have hsr:SmI (a.tmod b):=by
   unfold SmI at *
   refine hsa.mono ?_
   rw [Int.natAbs_tmod]
   exact Nat.mod_le _ _
  go_region_with (first
   | (go_at_call_of 121 (Value.slice A2 l2 c2);go_must (refine (isign_any _ _ _ _ _ _ ?_ hsr).mono ?_;(exact HF.out.hr.at_.below (by repeat (first | exact Below.refl _ _ | refine Below.drew ?_ | refine Below.alloc ?_ (by simp;try omega) _)));rintro e w' ⟨rfl,rfl⟩))
   | (go_at_call_of 121 (Value.slice B lb cb);go_must (refine (isign_any _ _ _ _ _ _ ?_ hsb).mono ?_;(exact HF.out.hb.below (by repeat (first | exact Below.refl _ _ | refine Below.drew ?_ | refine Below.alloc ?_ (by simp;try omega) _)));rintro e w' ⟨rfl,rfl⟩)))
  all_goals go_wp2_with fail
  all_goals go_meet
  all_goals
   refine ⟨rfl,HF.out.move ?_⟩
   repeat (first | exact Below.refl _ _ | refine Below.drew ?_ | refine Below.alloc ?_ (by simp;try omega) _)
 case rest =>
  clear HF
  obtain ⟨rfl,hfl⟩:=hcut
  have HF:=Lib.hid hfl
  by_cases hneg:sg (a.tmod b)*sg b<0
  ·have e1:flq a b=a.tdiv b-1:=if_pos hneg
   have e2:flr a b=a.tmod b+b:=if_pos hneg
   rw [show decide (sg (a.tmod b)*sg b<0)=true from decide_eq_true hneg]
   have E1:=Lib.hid e1
   have E2:=Lib.hid e2
   clear e1 e2 hneg
   have e20:=hfl.w20
   have e21:=hfl.w21
   have f20:=hfl.g20
   have f21:=hfl.g21
   have esz:=hfl.size
   have hq1:=hfl.hq.at_.below (Below.refl _ _).drew
   have hsq:SmI (a.tdiv b):=by
    unfold SmI at *
    refine hsa.mono ?_
    rw [Int.natAbs_tdiv]
    exact Nat.div_le_self _ _
   have hsq1:Sm ((a.tdiv b).natAbs+(1:Int).natAbs):=by
    refine hs1.mono ?_
    rw [Int.natAbs_tdiv]
    have:=Nat.div_le_self a.natAbs b.natAbs
    simp;exact this
   have hsr:SmI (a.tmod b):=by
    unfold SmI at *
    refine hsa.mono ?_
    rw [Int.natAbs_tmod]
    exact Nat.mod_le _ _
   have hsr1:Sm ((a.tmod b).natAbs+b.natAbs):=by
    refine hs2.mono ?_
    rw [Int.natAbs_tmod]
    have:=Nat.mod_le a.natAbs b.natAbs
    omega
   have k2:w.heap.size+1+1<wc.heap.size:=by omega
   have HD:=Lib.hid (hfl.move (Below.refl _ _).drew)
   clear hfl hq1
   go_wp2_with fail
   go_cut [] (fun wx=>∃ n4 A4 l4 c4,FlW w wx nb B lb cb b n4 A4 l4 c4 (a.tdiv b-1) n2 A2 l2 c2 (a.tmod b))
   case first =>
    go_region_with (first
     | (go_at_call 30;go_must (refine (iof_any 1 _ (by unfold I64;omega)).mono ?_;rintro e w3 ⟨n3,A3,l3,c3,rfl,h3,hb3⟩;obtain ⟨hc3,hf3⟩:=bcell hb3;have hsz3:=hb3.size;simp only [World.size_drew] at hsz3;have hq2:=(HD.out.move hb3).hq.at_;have r20:w3.cell? ⟨w.heap.size+1+1,0,none⟩=some (.bool n1):=(hc3 _ _ (by simpa using k2)).trans e20;have r21:w3.cell? ⟨w.heap.size+1+1,1,none⟩=some (.slice A1 l1 c1):=(hc3 _ _ (by simpa using k2)).trans e21))
     | (go_at_call 126;go_must (refine (isub_any _ _ _ _ _ _ _ _ _ _ _ hq2 h3.at_ hsq (SmI.of64 (by unfold I64;omega)) hsq1).mono ?_;rintro e w4 ⟨n4,A4,l4,c4,rfl,h4,hb4⟩;have HG:=Lib.hid (HD.out.move (hb3.trans (hb4.mono hb3.size)));have H4:=Lib.hid h4;have s20:=HG.out.w20;have s21:=HG.out.w21;have t20:=HG.out.g20;have t21:=HG.out.g21)))
    all_goals go_wp2_with fail
    all_goals go_meet
    all_goals exact ⟨_,_,_,_,(HG.out.setq H4.out).move (by repeat (first | exact Below.refl _ _ | refine Below.drew ?_))⟩
   case rest =>
    clear HF HD e20 e21 f20 f21 esz k2 hsq hsq1
    obtain ⟨n4,A4,l4,c4,hfl⟩:=hcut
    have HF:=Lib.hid hfl
    have e10:=hfl.w10
    have e11:=hfl.w11
    have e20:=hfl.w20
    have e21:=hfl.w21
    have e30:=hfl.w30
    have e31:=hfl.w31
    have hr1:=hfl.hr.at_
    have hbb:=hfl.hb
    clear hfl
    go_wp2_with fail
    refine (iadd_any _ _ _ _ _ _ _ _ _ _ _ hr1 hbb hsr hsb hsr1).mono ?_
    rintro e w5 ⟨n5,A5,l5,c5,rfl,h5,hb5⟩
    have hg:=(HF.out.move hb5)
    have H5:=Lib.hid h5
    have HG:=Lib.hid hg
    have HH:=Lib.hid (hg.setr h5)
    clear e10 e11 e20 e21 e30 e31 hr1 hbb h5 hb5 hsr hsr1 HF
    have e20:=hg.w20
    have e21:=hg.w21
    have e30:=hg.w30
    have e31:=hg.w31
    have f20:=hg.g20
    have f21:=hg.g21
    have f30:=hg.g30
    have f31:=hg.g31
    clear hg
    go_wp2_with fail
    go_region
    go_wp2
    have HZ:=Lib.hid (((HH.out.setq HH.out.hq).setr (HH.out.setq HH.out.hq).hr).move (Below.refl _ _).drew)
    have z20:=HZ.out.w20
    have z21:=HZ.out.w21
    have z30:=HZ.out.w30
    have z31:=HZ.out.w31
    refine bodyPost_ret (v:=.tuple #[.agg #[.bool n4,.slice A4 l4 c4],.agg #[.bool n5,.slice A5 l5 c5],.int .i64 0]) (by clear e20 e21 e30 e31 f20 f21 f30 f31 HZ;generalize World.drew _=Z at z20 z21 z30 z31 ⊢;simp [results,Tryz.results142,go_sem,z20,z21,z30,z31]) rfl ⟨_,_,_,_,_,_,_,_,rfl,?_,?_,HZ.out.below⟩
    ·rw [E1.out];exact HZ.out.hq
    ·rw [E2.out];exact HZ.out.hr
  ·have E1:=Lib.hid (show flq a b=a.tdiv b from if_neg hneg)
   have E2:=Lib.hid (show flr a b=a.tmod b from if_neg hneg)
   rw [show decide (sg (a.tmod b)*sg b<0)=false from decide_eq_false hneg]
   have e20:=hfl.w20
   have e21:=hfl.w21
   have e30:=hfl.w30
   have e31:=hfl.w31
   have f20:=hfl.g20
   have f21:=hfl.g21
   have f30:=hfl.g30
   have f31:=hfl.g31
   clear hfl hneg
   go_wp2_with fail
   go_region
   go_wp2
   have HZ:=Lib.hid (((HF.out.setq HF.out.hq).setr (HF.out.setq HF.out.hq).hr).move (Below.refl _ _).drew)
   refine bodyPost_ret (v:=.tuple #[.agg #[.bool n1,.slice A1 l1 c1],.agg #[.bool n2,.slice A2 l2 c2],.int .i64 0]) (by simp [results,Tryz.results142,go_sem,e20,e21,e30,e31]) rfl ⟨_,_,_,_,_,_,_,_,rfl,?_,?_,HZ.out.below⟩
   ·rw [E1.out];exact HZ.out.hq
   ·rw [E2.out];exact HZ.out.hr
structure CauSz (p:List Int):Prop where
 one:Sm (hst (ptrim p) (plen p-1)+1)
 add:Sm (hst (ptrim p) (plen p-1)+(plead (ptrim p)).natAbs)
 fin:Sm ((flq (-(hst (ptrim p) (plen p-1):Nat)) ((plead (ptrim p)).natAbs:Nat)).natAbs+1)
set_option maxHeartbeats 2000000 in
theorem cau_any {I:IntPred} (hI:IK I) (A:Option Addr) (len cap:Nat) (p:List Int) (w:World) (h:PolyP I w A len cap p) (hs:SmP p) (hm:len≤1099511627776) (hok:2≤plen p→CauSz p) :
 Calls Tryz.prog 76 #[.slice A len cap] w fun e w'=>∃ n1 A1 l1 c1,e=.returned (.agg #[.bool n1,.slice A1 l1 c1])∧IntN w' n1 A1 l1 c1 (cau p)∧Below w.heap.size w w':=by
 have hb0:Below w.heap.size w (w.alloc (ibox false none 0 0)):=(Below.refl _ _).alloc (Nat.le_refl _) _
 have h0:=h.below hI hb0
 have hpl:plen p≤1099511627776:=by have:=plen_le p;have:=h.length;omega
 have Hb0:=Lib.hid hb0
 clear h hb0
 go_enter Tryz.func76,Tryz.ntmps76
 go_wp2_with fail
 refine (pnormal_any hI _ _ _ _ _ h0 hs hm).mono ?_
 rintro e w1 ⟨g,rfl,hrow,hg,hb1⟩
 obtain ⟨hc,hf⟩:=bcell hb1
 have hsz:=hb1.size
 simp only [World.size_alloc] at hsz hg
 have d00:w1.cell? ⟨w.heap.size,0,none⟩=some (.bool false):=by rw [hc _ _ (by simp)];go_simp
 have d01:w1.cell? ⟨w.heap.size,1,none⟩=some (.slice none 0 0):=by rw [hc _ _ (by simp)];go_simp
 have f00:w1.frozen? ⟨w.heap.size,0,none⟩=false:=by rw [hf _ _ (by simp)];go_simp
 have f01:w1.frozen? ⟨w.heap.size,1,none⟩=false:=by rw [hf _ _ (by simp)];go_simp
 have Hb1:=Lib.hid (Hb0.out.trans (hb1.mono Hb0.out.size))
 clear hc hf hb1 h0
 by_cases hlt:plen p<2
 ·have E:=Lib.hid (show cau p=0 from if_pos hlt)
  have HB:=Lib.hid (show IBox w1 w.heap.size false none 0 0 0 from ⟨d00,d01,f00,f01,by omega,⟨NatN.zero _ _ _,by simp⟩⟩)
  clear hrow
  go_wp2
  have HP:=Lib.hid (HB.out.put (n':=false) (A':=none) (l':=0) (c':=0) (z':=0) ⟨NatN.zero _ _ _,by simp⟩)
  refine bodyPost_ret (v:=.agg #[.bool false,.slice none 0 0]) (by simp [results,Tryz.results76,go_sem,d00,d01]) rfl ⟨_,_,_,_,rfl,by rw [E.out];exact HP.out.hz,(Hb1.out.setCell (p:=⟨w.heap.size,0,none⟩) (Nat.le_refl _) _).setCell (p:=⟨w.heap.size,1,none⟩) (Nat.le_refl _) _⟩
 ·have E:=Lib.hid (show cau p=_ from if_neg hlt)
  have hok2:=Lib.hid (hok (by omega))
  have hpt:=Lib.hid (ptrim_length p)
  have hpoly:=hrow.poly (cap:=plen p) (by rw [hpt.out];exact Nat.le_refl _)
  rw [hpt.out] at hpoly
  have hsp:=hs.ptrim
  have hpart:=hpoly.take (k:=plen p-1) (by omega)
  have HB:=Lib.hid (show IBox w1 w.heap.size false none 0 0 0 from ⟨d00,d01,f00,f01,by omega,⟨NatN.zero _ _ _,by simp⟩⟩)
  have HPo:=Lib.hid hpoly
  clear hrow hpoly hok
  go_wp2_with fail
  refine (height_any ikN _ _ _ _ _ hpart (hsp.take _) (by omega)).mono ?_
  rintro e w2 ⟨n2,A2,l2,c2,rfl,h2,hb2⟩
  rw [hst_take _ _ _ (Nat.le_refl _)] at h2
  have HB2:=Lib.hid (HB.out.move hb2)
  have HPo2:=Lib.hid (HPo.out.below ikN hb2)
  have Hb2:=Lib.hid (Hb1.out.trans (hb2.mono Hb1.out.size))
  have hsz2:=hb2.size
  have HT3:=Lib.hid (IBox.make h2)
  have hbx:Below w2.heap.size w2 (w2.alloc (ibox n2 A2 l2 c2)):=(Below.refl _ _).alloc (Nat.le_refl _) _
  have HB3:=Lib.hid (HB2.out.move hbx)
  have HPo3:=Lib.hid (HPo2.out.below ikN hbx)
  have Hb3:=Lib.hid (Hb2.out.trans (hbx.mono Hb2.out.size))
  clear d00 d01 f00 f01 hpart HB HPo hb2 HB2 HPo2 h2 hbx
  go_wp2_with fail
  refine (lead_any _ _ _ _ _ (HPo3.out.at_ ikN) hsp (by omega)).mono ?_
  rintro e w3 ⟨n3,A3,l3,c3,rfl,h3,hb3⟩
  have hsl:SmI (plead (ptrim p)):=hsp.getD _
  have HT4:=Lib.hid (HT3.out.move hb3)
  have HB4:=Lib.hid (HB3.out.move hb3)
  have Hb4:=Lib.hid (Hb3.out.trans (hb3.mono Hb3.out.size))
  have hsz3:=hb3.size
  simp only [World.size_alloc] at hsz3
  have hg3:w2.heap.size<w3.heap.size:=by omega
  clear HT3 HB3 HPo3 hb3
  go_wp2_with fail
  refine (iabs_any _ _ _ _ _ _ h3.at_ hsl).mono ?_
  rintro e w4 ⟨n4,A4,l4,c4,rfl,h4,hb4⟩
  have hbx:Below w4.heap.size w4 (w4.alloc (ibox n4 A4 l4 c4)):=(Below.refl _ _).alloc (Nat.le_refl _) _
  have HT5:=Lib.hid ((HT4.out.move hb4).move hbx)
  have HB5:=Lib.hid ((HB4.out.move hb4).move hbx)
  have HL5:=Lib.hid (IBox.make h4)
  have Hb5:=Lib.hid ((Hb4.out.trans (hb4.mono Hb4.out.size)).trans (hbx.mono (Hb4.out.trans (hb4.mono Hb4.out.size)).size))
  have hsz4:=hb4.size
  clear HT4 HB4 h3 h4 hb4 hbx
  have HT:=HT5
  have HL:=HL5
  have HB:=HB5
  have Hb:=Hb5
  have e30:=HT5.out.c0
  have e31:=HT5.out.c1
  have e40:=HL5.out.c0
  have e41:=HL5.out.c1
  have hht:SmI ((hst (ptrim p) (plen p-1):Nat):Int):=by unfold SmI;rw [Int.natAbs_natCast];exact hst_sm hsp _
  have hhn:SmI (-((hst (ptrim p) (plen p-1):Nat):Int)):=by unfold SmI;rw [Int.natAbs_neg,Int.natAbs_natCast];exact hst_sm hsp _
  have hll:SmI (((plead (ptrim p)).natAbs:Nat):Int):=by unfold SmI;rw [Int.natAbs_natCast];exact hsl
  have f0:(((plead (ptrim p)).natAbs:Nat):Int)≠0:=by
   have:=plead_ne (p:=ptrim p) (by rw [plen_ptrim];omega)
   omega
  have f1:Sm ((-((hst (ptrim p) (plen p-1):Nat):Int)).natAbs+1):=by rw [Int.natAbs_neg,Int.natAbs_natCast];exact hok2.out.one
  have f2:Sm ((-((hst (ptrim p) (plen p-1):Nat):Int)).natAbs+(((plead (ptrim p)).natAbs:Nat):Int).natAbs):=by rw [Int.natAbs_neg,Int.natAbs_natCast,Int.natAbs_natCast];exact hok2.out.add
  clear HT5 HL5 HB5 Hb5
  go_wp2_with fail
  have y2:w2.heap.size<w4.heap.size:=by omega
  have v0:w4.heap.size≠w2.heap.size:=by omega
  have v1:w4.heap.size+1≠w2.heap.size:=by omega
  have v2:w4.heap.size+1+1≠w2.heap.size:=by omega
  have v12:w4.heap.size+1+1≠w4.heap.size:=by omega
  go_cut [5] (fun s5 wx=>∃ g5 n6 A6 l6 c6,s5=.pointer (some ⟨g5,0,none⟩)∧w.heap.size<g5∧IBox wx g5 n6 A6 l6 c6 (flq (-(hst (ptrim p) (plen p-1):Nat)) ((plead (ptrim p)).natAbs:Nat))∧IBox wx w.heap.size false none 0 0 0∧Below w.heap.size w wx)
  case first =>
   go_region_held3 (fun w'=>w'.cell? ⟨w2.heap.size,0,none⟩=some (.bool n2)∧w'.cell? ⟨w2.heap.size,1,none⟩=some (.slice A2 l2 c2)∧w'.cell? ⟨w4.heap.size,0,none⟩=some (.bool n4)∧w'.cell? ⟨w4.heap.size,1,none⟩=some (.slice A4 l4 c4)) (go_keep) (first
    | (go_at_call 131;go_must (refine (ineg_any _ _ _ _ _ _ ?_ hht).mono ?_;(exact HT.out.hz.at_.below Bel.go);rintro e w5 ⟨n5,A5,l5,c5,rfl,h5,hb5⟩;obtain ⟨hc5,hf5⟩:=bcellS hb5;have HL6:=Lib.hid (HL.out.move (Below.trans Bel.go (hb5.mono (by simp<;>omega))));have HT6:=Lib.hid (HT.out.move (Below.trans Bel.go (hb5.mono (by simp<;>omega))));have HB6:=Lib.hid (HB.out.move (Below.trans Bel.go (hb5.mono (by simp<;>omega))));have zy:=hb5.size;(try simp only [World.size_alloc,World.size_drew] at zy);(try have z1:w4.heap.size+1<w5.heap.size:=(by omega));(try have z2:w4.heap.size+1+1<w5.heap.size:=(by omega));have v3:w5.heap.size≠w2.heap.size:=(by omega);have v4:w5.heap.size≠w4.heap.size:=(by omega);have v5:w5.heap.size+1≠w2.heap.size:=(by omega);have v6:w5.heap.size+1≠w4.heap.size:=(by omega);(try (have Z1:=Lib.hid (show IBox w5 (w4.heap.size+1) false none 0 0 0 from ⟨(by go_simp),(by go_simp),(by go_simp),(by go_simp),(by omega),⟨NatN.zero _ _ _,(by simp)⟩⟩);have Z1a:=Z1.out.c0;have Z1b:=Z1.out.c1;have Z1c:=Z1.out.f0;have Z1d:=Z1.out.f1));(try (have Z2:=Lib.hid (show IBox w5 (w4.heap.size+1+1) false none 0 0 0 from ⟨(by go_simp),(by go_simp),(by go_simp),(by go_simp),(by omega),⟨NatN.zero _ _ _,(by simp)⟩⟩);have Z2a:=Z2.out.c0;have Z2b:=Z2.out.c1;have Z2c:=Z2.out.f0;have Z2d:=Z2.out.f1));clear hc5 hf5;have Hbn:=Lib.hid (Hb.out.trans ((Below.trans Bel.go (hb5.mono (by simp<;>omega))).mono Hb.out.size));have q30:=HT6.out.c0;have q31:=HT6.out.c1;have q40:=HL6.out.c0;have q41:=HL6.out.c1))
    | (go_at_call 142;go_must (refine (floor_all _ _ _ _ _ _ _ _ _ _ _ ?_ ?_ hhn hll f0 f1 f2).mono ?_;(exact h5.at_.below Bel.go);(exact HL6.out.hz.at_.below Bel.go);rintro e w6 ⟨n6,A6,l6,c6,n7,A7,l7,c7,rfl,h6,h7,hb6⟩;obtain ⟨hc6,hf6⟩:=bcellS hb6;have H6:=Lib.hid h6;have HL7:=Lib.hid (HL6.out.move (Below.trans Bel.go (hb6.mono (by simp<;>omega))));have HT7:=Lib.hid (HT6.out.move (Below.trans Bel.go (hb6.mono (by simp<;>omega))));have HB7:=Lib.hid (HB6.out.move (Below.trans Bel.go (hb6.mono (by simp<;>omega))));have zz:=hb6.size;(try simp only [World.size_alloc] at zz);(try have z3:w4.heap.size+1<w6.heap.size:=(by omega));(try have z4:w4.heap.size+1+1<w6.heap.size:=(by omega));(try have z5:w5.heap.size<w6.heap.size:=(by omega));(try have z6:w5.heap.size+1<w6.heap.size:=(by omega));have v7:w6.heap.size≠w2.heap.size:=(by omega);have v8:w6.heap.size≠w4.heap.size:=(by omega);have v9:w6.heap.size+1≠w2.heap.size:=(by omega);have v10:w6.heap.size+1≠w4.heap.size:=(by omega);(try (have Y1:=Lib.hid (Z1.out.move (Below.trans Bel.go (hb6.mono (by simp<;>omega))));have Y1a:=Y1.out.c0;have Y1b:=Y1.out.c1;have Y1c:=Y1.out.f0;have Y1d:=Y1.out.f1));(try (have Y2:=Lib.hid (Z2.out.move (Below.trans Bel.go (hb6.mono (by simp<;>omega))));have Y2a:=Y2.out.c0;have Y2b:=Y2.out.c1;have Y2c:=Y2.out.f0;have Y2d:=Y2.out.f1));(try (have Y3:=Lib.hid (show IBox w6 (w5.heap.size) false none 0 0 0 from ⟨(by go_simp),(by go_simp),(by go_simp),(by go_simp),(by omega),⟨NatN.zero _ _ _,(by simp)⟩⟩);have Y3a:=Y3.out.c0;have Y3b:=Y3.out.c1;have Y3c:=Y3.out.f0;have Y3d:=Y3.out.f1));(try (have Y4:=Lib.hid (show IBox w6 (w5.heap.size+1) false none 0 0 0 from ⟨(by go_simp),(by go_simp),(by go_simp),(by go_simp),(by omega),⟨NatN.zero _ _ _,(by simp)⟩⟩);have Y4a:=Y4.out.c0;have Y4b:=Y4.out.c1;have Y4c:=Y4.out.f0;have Y4d:=Y4.out.f1));clear hc6 hf6;have HbF:=Lib.hid (Hbn.out.trans ((Below.trans Bel.go (hb6.mono (by simp<;>omega))).mono Hbn.out.size));have p30:=HT7.out.c0;have p31:=HT7.out.c1;have p40:=HL7.out.c0;have p41:=HL7.out.c1)))
   all_goals go_wp2_with fail
   all_goals go_meet
   ·refine ⟨_,n6,A6,l6,c6,rfl,by omega,?_,?_,?_⟩
    ·exact (IBox.make H6.out).move Bel.go
    ·exact HB7.out.move Bel.go
    ·(repeat (first | exact HbF.out | refine Below.alloc ?_ (by first | (simp;done) | (simp;omega) | omega) _ | refine Below.setCell ?_ (by first | (simp;done) | (simp;omega) | omega) _))
   ·refine ⟨_,n6,A6,l6,c6,rfl,by omega,?_,?_,?_⟩
    ·have hx:=IBox.make (W:=w6.alloc (ibox n7 A7 l7 c7)) (H6.out.below Bel.go)
     rw [World.size_alloc] at hx
     exact hx
    ·exact HB7.out.move Bel.go
    ·(repeat (first | exact HbF.out | refine Below.alloc ?_ (by first | (simp;done) | (simp;omega) | omega) _ | refine Below.setCell ?_ (by first | (simp;done) | (simp;omega) | omega) _))
   ·refine ⟨_,n6,A6,l6,c6,rfl,by omega,?_,?_,?_⟩
    ·exact (Y3.out.put H6.out).move Bel.go
    ·exact (HB7.out.far Y3.out (by omega) _ _).move Bel.go
    ·(repeat (first | exact HbF.out | refine Below.alloc ?_ (by first | (simp;done) | (simp;omega) | omega) _ | refine Below.setCell ?_ (by first | (simp;done) | (simp;omega) | omega) _))
   ·refine ⟨_,n6,A6,l6,c6,rfl,by omega,?_,?_,?_⟩
    ·exact (Y3.out.put H6.out).far (Y4.out.far Y3.out (by omega) _ _) (by omega) _ _
    ·exact (HB7.out.far Y3.out (by omega) _ _).far (Y4.out.far Y3.out (by omega) _ _) (by omega) _ _
    ·(repeat (first | exact HbF.out | refine Below.alloc ?_ (by first | (simp;done) | (simp;omega) | omega) _ | refine Below.setCell ?_ (by first | (simp;done) | (simp;omega) | omega) _))
   ·refine ⟨_,n6,A6,l6,c6,rfl,by omega,?_,?_,?_⟩
    ·have hx:=IBox.make (H6.out.ret (.bool n7) (.slice A7 l7 c7) Y3.out.c0 Y3.out.c1)
     rw [World.size_setCell,World.size_setCell] at hx
     exact hx
    ·exact (HB7.out.far Y3.out (by omega) _ _).move Bel.go
    ·(repeat (first | exact HbF.out | refine Below.alloc ?_ (by first | (simp;done) | (simp;omega) | omega) _ | refine Below.setCell ?_ (by first | (simp;done) | (simp;omega) | omega) _))
   ·refine ⟨_,n6,A6,l6,c6,rfl,by omega,?_,?_,?_⟩
    ·exact (Y4.out.put H6.out).far (Y3.out.far Y4.out (by omega) _ _) (by omega) _ _
    ·exact (HB7.out.far Y4.out (by omega) _ _).far (Y3.out.far Y4.out (by omega) _ _) (by omega) _ _
    ·(repeat (first | exact HbF.out | refine Below.alloc ?_ (by first | (simp;done) | (simp;omega) | omega) _ | refine Below.setCell ?_ (by first | (simp;done) | (simp;omega) | omega) _))
   ·refine ⟨_,n6,A6,l6,c6,rfl,by omega,?_,?_,?_⟩
    ·exact (Y1.out.put H6.out).move Bel.go
    ·exact (HB7.out.far Y1.out (by omega) _ _).move Bel.go
    ·(repeat (first | exact HbF.out | refine Below.alloc ?_ (by first | (simp;done) | (simp;omega) | omega) _ | refine Below.setCell ?_ (by first | (simp;done) | (simp;omega) | omega) _))
   ·refine ⟨_,n6,A6,l6,c6,rfl,by omega,?_,?_,?_⟩
    ·exact (Y1.out.put H6.out).far (Y3.out.far Y1.out (by omega) _ _) (by omega) _ _
    ·exact (HB7.out.far Y1.out (by omega) _ _).far (Y3.out.far Y1.out (by omega) _ _) (by omega) _ _
    ·(repeat (first | exact HbF.out | refine Below.alloc ?_ (by first | (simp;done) | (simp;omega) | omega) _ | refine Below.setCell ?_ (by first | (simp;done) | (simp;omega) | omega) _))
   ·refine ⟨_,n6,A6,l6,c6,rfl,by omega,?_,?_,?_⟩
    ·exact (Y1.out.put H6.out).far (Y2.out.far Y1.out (by omega) _ _) (by omega) _ _
    ·exact (HB7.out.far Y1.out (by omega) _ _).far (Y2.out.far Y1.out (by omega) _ _) (by omega) _ _
    ·(repeat (first | exact HbF.out | refine Below.alloc ?_ (by first | (simp;done) | (simp;omega) | omega) _ | refine Below.setCell ?_ (by first | (simp;done) | (simp;omega) | omega) _))
   ·refine ⟨_,n6,A6,l6,c6,rfl,by omega,?_,?_,?_⟩
    ·have hx:=IBox.make (H6.out.ret (.bool n7) (.slice A7 l7 c7) Y1.out.c0 Y1.out.c1)
     rw [World.size_setCell,World.size_setCell] at hx
     exact hx
    ·exact (HB7.out.far Y1.out (by omega) _ _).move Bel.go
    ·(repeat (first | exact HbF.out | refine Below.alloc ?_ (by first | (simp;done) | (simp;omega) | omega) _ | refine Below.setCell ?_ (by first | (simp;done) | (simp;omega) | omega) _))
   ·refine ⟨_,n6,A6,l6,c6,rfl,by omega,?_,?_,?_⟩
    ·exact (Y3.out.put H6.out).far (Y1.out.far Y3.out (by omega) _ _) (by omega) _ _
    ·exact (HB7.out.far Y3.out (by omega) _ _).far (Y1.out.far Y3.out (by omega) _ _) (by omega) _ _
    ·(repeat (first | exact HbF.out | refine Below.alloc ?_ (by first | (simp;done) | (simp;omega) | omega) _ | refine Below.setCell ?_ (by first | (simp;done) | (simp;omega) | omega) _))
   ·refine ⟨_,n6,A6,l6,c6,rfl,by omega,?_,?_,?_⟩
    ·exact (Y2.out.put H6.out).far (Y1.out.far Y2.out (by omega) _ _) (by omega) _ _
    ·exact (HB7.out.far Y2.out (by omega) _ _).far (Y1.out.far Y2.out (by omega) _ _) (by omega) _ _
    ·(repeat (first | exact HbF.out | refine Below.alloc ?_ (by first | (simp;done) | (simp;omega) | omega) _ | refine Below.setCell ?_ (by first | (simp;done) | (simp;omega) | omega) _))
  case rest =>
   clear HT HL HB Hb e30 e31 e40 e41 y2 v0 v1 v2 v12 hht hhn hll f0 f1 f2
   obtain ⟨g5,n6,A6,l6,c6,rfl,hg5,hbx,hb0,hbw⟩:=hcut
   have hne:w.heap.size≠g5:=by omega
   have HX:=Lib.hid hbx
   have HB:=Lib.hid hb0
   have Hbw:=Lib.hid hbw
   have x0:=hbx.c0
   have x1:=hbx.c1
   have hsf:SmI (flq (-(hst (ptrim p) (plen p-1):Nat)) ((plead (ptrim p)).natAbs:Nat)):=hok2.out.fin.mono (Nat.le_add_right _ _)
   have hsf2:Sm ((1:Int).natAbs+(flq (-(hst (ptrim p) (plen p-1):Nat)) ((plead (ptrim p)).natAbs:Nat)).natAbs):=by
    have:=hok2.out.fin
    rw [Nat.add_comm] at this
    exact this
   have hs1:SmI 1:=SmI.of64 (by unfold I64;omega)
   clear hbx hb0 hbw
   go_wp2_with fail
   go_region_held3 (fun w'=>w'.cell? ⟨g5,0,none⟩=some (.bool n6)∧w'.cell? ⟨g5,1,none⟩=some (.slice A6 l6 c6)) (go_keep) (first
    | (go_at_call 30;go_must (refine (iof_any 1 _ (by unfold I64;omega)).mono ?_;rintro e w7 ⟨n8,A8,l8,c8,rfl,h8,hb8⟩;have HX8:=Lib.hid (HX.out.move (Below.trans Bel.go (hb8.mono (by simp<;>omega))));have HB8:=Lib.hid (HB.out.move (Below.trans Bel.go (hb8.mono (by simp<;>omega))));have Hb8:=Lib.hid (Hbw.out.trans ((Below.trans Bel.go (hb8.mono (by simp<;>omega))).mono Hbw.out.size));have q0:=HX8.out.c0;have q1:=HX8.out.c1))
    | (go_at_call 126;go_must (refine (isub_any _ _ _ _ _ _ _ _ _ _ _ ?_ ?_ hs1 hsf hsf2).mono ?_;(exact h8.at_.below Bel.go);(exact HX8.out.hz.at_.below Bel.go);rintro e w9 ⟨n9,A9,l9,c9,rfl,h9,hb9⟩;have HX9:=Lib.hid (HX8.out.move (Below.trans Bel.go (hb9.mono (by simp<;>omega))));have HB9:=Lib.hid (HB8.out.move (Below.trans Bel.go (hb9.mono (by simp<;>omega))));have Hb9:=Lib.hid (Hb8.out.trans ((Below.trans Bel.go (hb9.mono (by simp<;>omega))).mono Hb8.out.size));have p0:=HX9.out.c0;have p1:=HX9.out.c1;have b0:=HB9.out.c0;have b1:=HB9.out.c1;have b2:=HB9.out.f0;have b3:=HB9.out.f1)))
   have HP:=Lib.hid (HB9.out.put h9)
   have HbP:=Lib.hid ((Hb9.out.setCell (p:=⟨w.heap.size,0,none⟩) (Nat.le_refl _) (.bool n9)).setCell (p:=⟨w.heap.size,1,none⟩) (Nat.le_refl _) (.slice A9 l9 c9))
   clear HX HB Hbw x0 x1 hsf hsf2 hs1 HX8 HB8 Hb8 q0 q1 h8 hb8 HX9 HB9 Hb9 p0 p1 h9 hb9
   go_wp2
   refine bodyPost_ret (v:=.agg #[.bool n9,.slice A9 l9 c9]) (by simp [results,Tryz.results76,go_sem,b0,b1]) rfl ⟨_,_,_,_,rfl,by rw [E.out];exact HP.out.hz,HbP.out⟩
end Go.Proofs.YtjmglmgokfcgoaaGreat
namespace Go.Proofs.YtjmglmgokfcgoaaGreat
open Go.RowKit
theorem flq_neg (H:Nat) {L:Nat} (hL:0<L):1-flq (-(H:Int)) (L:Int)=1+((H+L-1) / L:Nat):=by
 have h1:(-(H:Int)).tdiv (L:Int)=-((H / L:Nat):Int):=by rw [Int.neg_tdiv];rfl
 have h2:(-(H:Int)).tmod (L:Int)=-((H % L:Nat):Int):=by rw [Int.neg_tmod];rfl
 have hs:sg (L:Int)=1:=sg_pos (by omega)
 have hd:=Nat.div_add_mod H L
 unfold flq
 rw [h1,h2,hs]
 by_cases h0:H % L=0
 ·rw [h0]
  have e:(H+L-1) / L=H / L:=by
   have h3:H+L-1=L*(H / L)+(L-1):=by omega
   have h4:(L-1) / L=0:=Nat.div_eq_of_lt (by omega)
   rw [h3,Nat.mul_add_div hL,h4];rfl
  rw [e,if_neg (by decide)]
  omega
 ·have hm:=Nat.mod_lt H hL
  have e:(H+L-1) / L=H / L+1:=by
   have h3:H+L-1=L*(H / L+1)+(H % L-1):=by rw [Nat.mul_add];omega
   have h4:(H % L-1) / L=0:=Nat.div_eq_of_lt (by omega)
   rw [h3,Nat.mul_add_div hL,h4]
  rw [e,sg_neg (by omega),if_pos (by decide)]
  have h5:(1:Int)-(-((H / L:Nat):Int)-1)=1+((H / L+1:Nat):Int):=by omega
  exact h5
theorem hst_ge (p:List Int):∀ n k,k<n→(p.getD k 0).natAbs≤hst p n
 | 0,_,h=>absurd h (Nat.not_lt_zero _)
 | n+1,k,h=>by
   rw [hst]
   rcases Nat.lt_or_ge k n with h1 | h1
   ·have:=hst_ge p n k h1
    split<;>omega
   ·obtain rfl:k=n:=by omega
    split<;>omega
theorem hst_bd {p:List Int} {M:Nat} (h:∀ k,(p.getD k 0).natAbs≤M):∀ n,hst p n≤M
 | 0=>Nat.zero_le _
 | n+1=>by
   rw [hst]
   split
   ·exact h n
   ·exact hst_bd h n
def cbn (p:List Int):Nat:=1+(hst (ptrim p) (plen p-1)+(plead (ptrim p)).natAbs-1) / (plead (ptrim p)).natAbs
theorem plead_tr {p:List Int} (h:plen p≠0):0<(plead (ptrim p)).natAbs:=by
 have:plead (ptrim p)≠0:=plead_ne (by rw [plen_ptrim];exact h)
 omega
theorem cau_cbn {p:List Int} (h:2≤plen p):cau p=(cbn p:Nat):=by
 unfold cau cbn
 rw [if_neg (by omega),flq_neg _ (plead_tr (by omega)),Int.natCast_add]
 rfl
theorem cdiv_facts (H:Nat) {L:Nat} (hL:0<L):H≤L*((H+L-1) / L)∧(H+L-1) / L≤H:=by
 constructor
 ·have h1:=Nat.div_add_mod (H+L-1) L
  have h2:=Nat.mod_lt (H+L-1) hL
  omega
 ·rcases Nat.eq_zero_or_pos H with h | h
  ·subst h
   rw [Nat.div_eq_of_lt (by omega)]
   exact Nat.le_refl _
  ·refine Nat.div_le_of_le_mul ?_
   obtain ⟨a,rfl⟩:∃ a,L=a+1:=⟨L-1,by omega⟩
   obtain ⟨b,rfl⟩:∃ b,H=b+1:=⟨H-1,by omega⟩
   rw [Nat.add_mul,Nat.mul_add]
   have:=Nat.zero_le (a*b)
   omega
theorem big_mul {L c x v:Rat} (hL:0<L) (hc:1≤c) (hx:c≤x) (hv:L≤v):c*L≤x*v:=by
 have h1:0≤(x-c)*v:=Rat.mul_nonneg (by grind) (by grind)
 have h2:0≤c*(v-L):=Rat.mul_nonneg (by grind) (by grind)
 grind
theorem pv_big {L c q:Rat} (hL:0<L) (hc:1≤c) (hq:c≤q∨q≤-c) {l:Int} (hl:L≤(l:Rat)∨(l:Rat)≤-L):∀ t:List Int,(∀ a∈t,-(L*(c-1))≤(a:Rat)∧(a:Rat)≤L*(c-1))→L≤pv (t ++ [l]) q∨pv (t ++ [l]) q≤-L
 | [],_=>by
   show L≤(l:Rat)+q*0∨(l:Rat)+q*0≤-L
   rw [Rat.mul_zero,Rat.add_zero]
   exact hl
 | a :: t,h=>by
   have ih:=pv_big hL hc hq hl t fun b hb=>h b (List.mem_cons_of_mem _ hb)
   have ha:=h a (List.mem_cons_self ..)
   show L≤(a:Rat)+q*pv (t ++ [l]) q∨(a:Rat)+q*pv (t ++ [l]) q≤-L
   generalize pv (t ++ [l]) q=v at ih ⊢
   generalize (a:Rat)=r at ha ⊢
   have e:L*(c-1)=c*L-L:=by grind
   rw [e] at ha
   rcases hq with hq | hq<;>rcases ih with ih | ih
   ·have:=big_mul hL hc hq ih
    left;grind
   ·have:=big_mul hL hc hq (show L≤-v by grind)
    right;grind
   ·have:=big_mul hL hc (show c≤-q by grind) ih
    right;grind
   ·have:=big_mul hL hc (show c≤-q by grind) (show L≤-v by grind)
    left;grind
theorem rat_abs_le {a:Int} {n:Nat} (h:a.natAbs≤n):-((n:Nat):Rat)≤(a:Rat)∧(a:Rat)≤((n:Nat):Rat):=by
 have h1:-((n:Nat):Int)≤a:=by omega
 have h2:a≤((n:Nat):Int):=by omega
 constructor
 ·have:=Rat.intCast_le_intCast.2 h1
  rw [Rat.intCast_neg,Rat.intCast_natCast] at this
  exact this
 ·have:=Rat.intCast_le_intCast.2 h2
  rw [Rat.intCast_natCast] at this
  exact this
theorem pv_far {Q:List Int} (ht:ptrim Q=Q) (h2:plen Q≠0) {q:Rat} (hq:((cbn Q:Nat):Rat)≤q∨q≤-((cbn Q:Nat):Rat)):1≤pv Q q∨pv Q q≤-1:=by
 have hlen:Q.length=plen Q:=by rw [← ptrim_length Q,ht]
 rcases List.eq_nil_or_concat Q with h | ⟨t,l,h⟩
 ·exact absurd (by rw [h];rfl) h2
 ·rw [List.concat_eq_append] at h
  have hn:plen Q=t.length+1:=by rw [← hlen,h,List.length_append,List.length_singleton]
  have hpl:plead Q=l:=by
   unfold plead
   rw [hn,Nat.add_sub_cancel,h,List.getD_eq_getElem?_getD,List.getElem?_append_right (Nat.le_refl _),Nat.sub_self]
   rfl
  obtain ⟨H,hH⟩:∃ H,H=hst (ptrim Q) (plen Q-1):=⟨_,rfl⟩
  obtain ⟨L,hL⟩:∃ L,L=(plead (ptrim Q)).natAbs:=⟨_,rfl⟩
  have hL0:0<L:=by rw [hL];exact plead_tr h2
  have hLl:L=l.natAbs:=by rw [hL,ht,hpl]
  obtain ⟨c1,hc1⟩:∃ c1,c1=(H+L-1) / L:=⟨_,rfl⟩
  have hc:cbn Q=1+c1:=by unfold cbn;rw [← hH,← hL,← hc1]
  have hf:=(cdiv_facts H hL0).1
  rw [← hc1] at hf
  have hLr:(1:Rat)≤((L:Nat):Rat):=by exact_mod_cast hL0
  have hcr:(1:Rat)≤((cbn Q:Nat):Rat):=by
   have:1≤cbn Q:=by omega
   exact_mod_cast this
  have hb:=pv_big (L:=((L:Nat):Rat)) (c:=((cbn Q:Nat):Rat)) (q:=q) (by grind) hcr hq (l:=l) (by
   have h1:(L:Int)=l∨(L:Int)=-l:=by omega
   rcases h1 with e | e
   ·left
    have:((L:Nat):Rat)=(l:Rat):=by rw [← e,Rat.intCast_natCast]
    rw [this];exact Rat.le_refl
   ·right
    have:(l:Rat)=-((L:Nat):Rat):=by
     have e2:l=-(L:Int):=by omega
     rw [e2,Rat.intCast_neg,Rat.intCast_natCast]
    rw [this];exact Rat.le_refl) t (fun a ha=>by
   obtain ⟨k,hk,rfl⟩:=List.getElem_of_mem ha
   have h1:=hst_ge (ptrim Q) (plen Q-1) k (by omega)
   rw [← hH,ht,h,List.getD_eq_getElem?_getD,List.getElem?_append_left hk,List.getElem?_eq_getElem hk] at h1
   have h3:(t[k]).natAbs≤L*c1:=by simpa using Nat.le_trans h1 hf
   have h4:=rat_abs_le h3
   have e:((L:Nat):Rat)*(((cbn Q:Nat):Rat)-1)=((L*c1:Nat):Rat):=by
    rw [hc,Rat.natCast_mul,Rat.natCast_add]
    have e1:((1:Nat):Rat)=1:=rfl
    rw [e1]
    grind
   rw [e]
   exact h4)
  rw [← h] at hb
  rcases hb with hb | hb
  ·left;grind
  ·right;grind
theorem root_in {Q:List Int} (ht:ptrim Q=Q) (h2:plen Q≠0) {x:Pt} (hx:sgp Q x=0):Pt.of (-((cbn Q:Nat):Rat))<x∧x<Pt.of ((cbn Q:Nat):Rat):=by
 obtain ⟨l,u,hn,hs⟩:=sgf_sml (lp_pv Q) hx (1 / 2) (by grind)
 have hlu:=Pt.lu hn.1 hn.2
 have hfar:∀ q:Rat,((cbn Q:Nat):Rat)≤q∨q≤-((cbn Q:Nat):Rat)→1≤pv Q q∨pv Q q≤-1:=fun q hq=>pv_far ht h2 hq
 generalize ((cbn Q:Nat):Rat)=c at *
 constructor
 ·rw [Pt.of_lt]
  refine Classical.byContradiction fun hc=>?_
  have h1:=Pt.nlt hn.1 hc
  obtain ⟨q,hq1,hq2,hq3⟩:∃ q,l<q∧q<u∧q≤-c:=by
   rcases (Rat.le_total:u≤-c∨-c≤u) with h | h
   ·exact ⟨(l+u) / 2,by grind,by grind,by grind⟩
   ·exact ⟨(l + -c) / 2,by grind,by grind,by grind⟩
  have h3:=hs q hq1 hq2
  rcases hfar q (.inr hq3) with h4 | h4<;>grind
 ·rw [Pt.lt_of]
  refine Classical.byContradiction fun hc=>?_
  have h1:c<u:=Rat.not_le.1 fun h=>hc (hn.2.le h)
  obtain ⟨q,hq1,hq2,hq3⟩:∃ q,l<q∧q<u∧c≤q:=by
   rcases (Rat.le_total:l≤c∨c≤l) with h | h
   ·exact ⟨(c+u) / 2,by grind,by grind,by grind⟩
   ·exact ⟨(l+u) / 2,by grind,by grind,by grind⟩
  have h3:=hs q hq1 hq2
  rcases hfar q (.inl hq3) with h4 | h4<;>grind
structure Dy (K i:Nat) (a:Fq):Prop where
 p:0<a.q
 d:a.q∣2^i
 z:a.z.natAbs≤K*a.q
theorem Dy.up {K i:Nat} {a:Fq} (h:Dy K i a):Dy K (i+1) a:=⟨h.p,by rw [Nat.pow_succ];exact Nat.dvd_trans h.d (Nat.dvd_mul_right _ _),h.z⟩
theorem Dy.mid {K i:Nat} {a b:Fq} (ha:Dy K i a) (hb:Dy K i b):Dy K (i+1) (a.mid b):=by
 obtain ⟨Z,hZ⟩:∃ Z,Z=a.z*(b.q:Int)+b.z*(a.q:Int):=⟨_,rfl⟩
 obtain ⟨D,hD⟩:∃ D,D=a.q*b.q*2:=⟨_,rfl⟩
 have hD0:0<D:=by rw [hD];exact Nat.mul_pos (Nat.mul_pos ha.p hb.p) (by decide)
 obtain ⟨_,hp,hg⟩:=Go.Proofs.YtjmglmgokfcgoaaGreat.nf_v (z:=Z) hD0
 have ez:(a.mid b).z=rz Z D:=by rw [hZ,hD];rfl
 have eq:(a.mid b).q=rq Z D:=by rw [hZ,hD];rfl
 obtain ⟨g,hgd⟩:∃ g,g=Nat.gcd Z.natAbs D:=⟨_,rfl⟩
 have hg0:0<g:=by rw [hgd];exact Nat.gcd_pos_of_pos_right _ hD0
 have d1:(g:Int)∣Z:=by rw [hgd,← Int.natAbs_dvd_natAbs,Int.natAbs_natCast];exact Nat.gcd_dvd_left _ _
 have d2:g∣D:=by rw [hgd];exact Nat.gcd_dvd_right _ _
 obtain ⟨Z',hZ'⟩:=d1
 obtain ⟨D',hD'⟩:=d2
 have e1:rz Z D=Z':=by unfold rz;rw [← hgd,hZ',Int.mul_tdiv_cancel_left _ (by omega)]
 have e2:rq Z D=D':=by unfold rq;rw [← hgd,hD',Nat.mul_div_cancel_left _ hg0]
 rw [e1,e2] at hg
 rw [e2] at hp
 obtain ⟨x,hx⟩:=ha.d
 obtain ⟨y,hy⟩:=hb.d
 have hxI:(2:Int)^i=(a.q:Int)*(x:Int):=by rw [← Int.natCast_mul,← hx];simp
 have hyI:(2:Int)^i=(b.q:Int)*(y:Int):=by rw [← Int.natCast_mul,← hy];simp
 have key:Z'*(2:Int)^(i+1)=(D':Int)*(a.z*x+b.z*y):=by
  refine Int.eq_of_mul_eq_mul_left (a:=(g:Int)) (by omega) ?_
  have k1:(g:Int)*(Z'*(2:Int)^(i+1))=Z*2^(i+1):=by rw [hZ',Int.mul_assoc]
  have k2:(g:Int)*((D':Int)*(a.z*x+b.z*y))=(D:Int)*(a.z*x+b.z*y):=by rw [hD',Int.natCast_mul,Int.mul_assoc]
  rw [k1,k2,hZ,hD,Int.pow_succ,Int.natCast_mul,Int.natCast_mul]
  have e3:((2:Nat):Int)=2:=rfl
  rw [e3]
  generalize (2:Int)^i=P at hxI hyI ⊢
  generalize (a.q:Int)=s at *
  generalize (b.q:Int)=t at *
  generalize (x:Int)=u at *
  generalize (y:Int)=v at *
  generalize a.z=m at *
  generalize b.z=n at *
  have h1:m*t*P=m*t*(s*u):=by rw [hxI]
  have h2:n*s*P=n*s*(t*v):=by rw [hyI]
  grind
 refine ⟨by rw [eq,e2];exact hp,?_,?_⟩
 ·rw [eq,e2]
  refine Nat.Coprime.dvd_of_dvd_mul_left (m:=Z'.natAbs) (by rw [Nat.coprime_comm];exact hg) ?_
  have h3:=congrArg Int.natAbs key
  rw [Int.natAbs_mul,Int.natAbs_mul,Int.natAbs_natCast,Int.natAbs_pow] at h3
  exact ⟨_,h3⟩
 ·rw [ez,eq,e1,e2]
  refine Nat.le_of_mul_le_mul_left (?_:g*Z'.natAbs≤g*(K*D')) hg0
  have h1:g*Z'.natAbs=Z.natAbs:=by rw [hZ',Int.natAbs_mul,Int.natAbs_natCast]
  have h2:g*(K*D')=K*D:=by rw [hD',Nat.mul_left_comm]
  rw [h1,h2,hZ,hD]
  refine Nat.le_trans (Int.natAbs_add_le _ _) ?_
  rw [Int.natAbs_mul,Int.natAbs_mul,Int.natAbs_natCast,Int.natAbs_natCast]
  have h3:=Nat.mul_le_mul_right b.q ha.z
  have h4:=Nat.mul_le_mul_right a.q hb.z
  have h5:K*(a.q*b.q*2)=K*a.q*b.q+K*b.q*a.q:=by
   rw [Nat.mul_two,Nat.mul_add,← Nat.mul_assoc,Nat.mul_assoc K b.q,Nat.mul_comm b.q a.q,← Nat.mul_assoc]
  omega
theorem Dy.fqb {K i N:Nat} {a:Fq} (h:Dy K i a) (hi:i≤N) (hN:(K+1)*2^N≤ZB):FqB a:=by
 have h1:a.q≤2^i:=Nat.le_of_dvd (Nat.pow_pos (by decide)) h.d
 have h2:a.q≤2^N:=Nat.le_trans h1 (Nat.pow_le_pow_right (by decide) hi)
 have h3:K*a.q≤K*2^N:=Nat.mul_le_mul_left _ h2
 have h4:=h.z
 rw [Nat.add_mul,Nat.one_mul] at hN
 have h5:0<2^N:=Nat.pow_pos (by decide)
 exact ⟨h.p,by omega,by omega⟩
theorem is_fit {Q:List Int} {PS:List (List Int)} {K N:Nat} (hN:(K+1)*2^N≤ZB):∀ (n i:Nat) (a b:Fq),IsOK Q PS n a b→Dy K i a→Dy K i b→i+n≤N+1→IsFit Q PS n a b
 | 0,_,_,_,h,_,_,_=>h.elim
 | n+1,i,a,b,h,ha,hb,hi=>by
   refine ⟨ha.fqb (by omega) hN,hb.fqb (by omega) hN,?_⟩
   rcases h with h | h | ⟨h1,h2⟩
   ·exact .inl h
   ·exact .inr (.inl h)
   ·have hn:0<n:=by
     rcases Nat.eq_zero_or_pos n with e | e
     ·subst e;exact h1.elim
     ·exact e
    have hm:=ha.mid hb
    exact .inr (.inr ⟨hm.fqb (by omega) hN,is_fit hN n (i+1) _ _ h1 ha.up hm (by omega),is_fit hN n (i+1) _ _ h2 hm hb.up (by omega)⟩)
noncomputable def NN:Nat:=Classical.choose (⟨28300,rfl⟩:∃ n:Nat,n=28300)
theorem NN_eq:NN=28300:=Classical.choose_spec (⟨28300,rfl⟩:∃ n:Nat,n=28300)
noncomputable def nroots (Q:List Int):List (Fq×Fq):=isl Q (pchain 12 Q (pder Q)) (NN+1) ⟨-((cbn Q:Nat):Int),1⟩ ⟨((cbn Q:Nat):Int),1⟩
section
variable {Q:List Int}
theorem cbn_le (h:SqF Q 16):cbn Q≤BB^17:=by
 have hb:hst (ptrim Q) (plen Q-1)≤BB^16:=hst_bd (fun k=>by rw [ptrim_getD];exact h.b k) _
 have hc:=(cdiv_facts (hst (ptrim Q) (plen Q-1)) (plead_tr h.q0)).2
 unfold cbn
 have h1:2*BB^16≤BB^17:=bbk_mul (by decide)
 have h2:0<BB^16:=Nat.pow_pos BB_pos
 omega
theorem nn_sep (h:SqF Q 16):sepD 16 ((cbn Q:Nat):Rat)*(((cbn Q:Nat):Rat) - -((cbn Q:Nat):Rat))<(2:Rat)^NN:=by
 obtain ⟨c,hc⟩:∃ c,c=cbn Q:=⟨_,rfl⟩
 have hcl:c≤BB^17:=by rw [hc];exact cbn_le h
 rw [← hc]
 obtain ⟨A,hA⟩:∃ A:Nat,A=500:=⟨_,rfl⟩
 obtain ⟨B,hB⟩:∃ B:Nat,B=170:=⟨_,rfl⟩
 have hc10:c^10≤BB^B:=by
  have:=Nat.pow_le_pow_left hcl 10
  rw [← Nat.pow_mul] at this
  exact Nat.le_trans this (bbk_le (by omega))
 have hn:(2*(10*BB^A*c^10)*(100*BB^22*c^10)+1)*(c+c)<2^NN:=by
  have h1:10*BB^A*c^10≤10*BB^A*BB^B:=Nat.mul_le_mul_left _ hc10
  have h2:100*BB^22*c^10≤100*BB^22*BB^B:=Nat.mul_le_mul_left _ hc10
  have h3:2*(10*BB^A*c^10)*(100*BB^22*c^10)≤2*(10*BB^A*BB^B)*(100*BB^22*BB^B):=Nat.mul_le_mul (Nat.mul_le_mul_left _ h1) h2
  obtain ⟨C,hC⟩:∃ C:Nat,C=A+B+(22+B):=⟨_,rfl⟩
  have e3:2*(10*BB^A*BB^B)*(100*BB^22*BB^B)=2000*BB^C:=by
   rw [hC,Nat.pow_add BB (A+B),Nat.pow_add BB A,Nat.pow_add BB 22]
   generalize BB^A=p
   generalize BB^B=q
   generalize BB^22=r
   grind
  rw [e3] at h3
  have h4:2000*BB^C+1≤BB^(C+1):=by
   have h5:2001*BB^C≤BB^(C+1):=bbk_mul (by decide)
   have h6:0<BB^C:=Nat.pow_pos BB_pos
   omega
  have h7:c+c≤BB^18:=by
   have h5:2*BB^17≤BB^18:=bbk_mul (by decide)
   omega
  have h8:=Nat.mul_le_mul (Nat.le_trans (Nat.add_le_add_right h3 1) h4) h7
  rw [← Nat.pow_add] at h8
  refine Nat.lt_of_le_of_lt h8 ?_
  rw [bb_two]
  exact Nat.pow_lt_pow_right (by decide) (by rw [NN_eq];omega)
 have hr:=Rat.natCast_lt_natCast.2 hn
 have e2:(((2:Nat)^NN:Nat):Rat)=(2:Rat)^NN:=by rw [Rat.natCast_pow];rfl
 rw [e2] at hr
 have heq:sepD 16 ((c:Nat):Rat)*(((c:Nat):Rat) - -((c:Nat):Rat))=(((2*(10*BB^A*c^10)*(100*BB^22*c^10)+1)*(c+c):Nat):Rat):=by
  unfold sepD
  rw [show 20*(16+9)=A by omega]
  simp only [Rat.natCast_mul,Rat.natCast_add,Rat.natCast_pow,show 16+6=22 from rfl]
  have n1:((1:Nat):Rat)=1:=rfl
  have n2:((2:Nat):Rat)=2:=rfl
  have n3:((10:Nat):Rat)=10:=rfl
  have n4:((100:Nat):Rat)=100:=rfl
  rw [n1,n2,n3,n4]
  grind
 rw [heq]
 exact hr
theorem nn_zb (h:SqF Q 16):(cbn Q+1)*2^NN≤ZB:=by
 have h1:=cbn_le h
 have h2:cbn Q+1≤BB^18:=by
  have h5:2*BB^17≤BB^18:=bbk_mul (by decide)
  have h6:0<BB^17:=Nat.pow_pos BB_pos
  omega
 obtain ⟨E,hE⟩:∃ E:Nat,E=885:=⟨_,rfl⟩
 have h3:2^NN≤BB^E:=by
  rw [bb_two]
  exact Nat.pow_le_pow_right (by decide) (by rw [NN_eq];omega)
 refine Nat.le_trans (Nat.mul_le_mul h2 h3) ?_
 rw [← Nat.pow_add]
 exact bbk_le (by rw [ZK_eq];omega)
theorem end_v (c:Nat):(⟨-((c:Nat):Int),1⟩:Fq).v=-((c:Nat):Rat)∧(⟨((c:Nat):Int),1⟩:Fq).v=((c:Nat):Rat):=by
 unfold Fq.v
 have e:(((1:Nat):Nat):Rat)=1:=rfl
 constructor
 ·show ((-((c:Nat):Int):Int):Rat) / ((1:Nat):Rat)=_
  rw [e,Rat.intCast_neg,Rat.intCast_natCast]
  grind
 ·show ((((c:Nat):Int):Int):Rat) / ((1:Nat):Rat)=_
  rw [e,Rat.intCast_natCast]
  grind
theorem cbn_pos (Q:List Int):1≤cbn Q:=by unfold cbn;exact Nat.le_add_right 1 _
theorem roots_fit (h:SqF Q 16):IsFit Q (pchain 12 Q (pder Q)) (NN+1) ⟨-((cbn Q:Nat):Int),1⟩ ⟨((cbn Q:Nat):Int),1⟩∧IsOK Q (pchain 12 Q (pder Q)) (NN+1) ⟨-((cbn Q:Nat):Int),1⟩ ⟨((cbn Q:Nat):Int),1⟩:=by
 have hv:=end_v (cbn Q)
 have hc1:(1:Rat)≤((cbn Q:Nat):Rat):=by exact_mod_cast cbn_pos Q
 have hok:=is_ok h (by decide) hc1 NN ⟨-((cbn Q:Nat):Int),1⟩ ⟨((cbn Q:Nat):Int),1⟩ Nat.one_pos Nat.one_pos (by rw [hv.1,hv.2];grind) (by rw [hv.1];exact Rat.le_refl) (by rw [hv.2];exact Rat.le_refl) (by rw [hv.1,hv.2];exact nn_sep h)
 exact ⟨is_fit (nn_zb h) _ 0 _ _ hok ⟨Nat.one_pos,by simp,by simp⟩ ⟨Nat.one_pos,by simp,by simp⟩ (by omega),hok⟩
theorem roots_isl (h:SqF Q 16) {xs:List Pt} (hx:Lst (fun x=>sgp Q x=0) xs):Isl Q xs (nroots Q) (-((cbn Q:Nat):Rat)) ((cbn Q:Nat):Rat):=by
 have hv:=end_v (cbn Q)
 have hc1:(1:Rat)≤((cbn Q:Nat):Rat):=by exact_mod_cast cbn_pos Q
 have hi:=isl_spec h (by decide) (NN+1) ⟨-((cbn Q:Nat):Int),1⟩ ⟨((cbn Q:Nat):Int),1⟩ Nat.one_pos Nat.one_pos (by rw [hv.1,hv.2];grind) (roots_fit h).2 xs (hx.congr fun x=>⟨fun e=>?_,fun e=>e.1⟩)
 ·rw [hv.1,hv.2] at hi
  exact hi
 ·have:=root_in h.t h.q0 e
  unfold Fq.p
  rw [hv.1,hv.2]
  exact ⟨e,this.1,this.2⟩
end
end Go.Proofs.YtjmglmgokfcgoaaGreat
namespace Go.Proofs.YtjmglmgokfcgoaaGreat
open Go Go.RowKit
structure RtsAt (w:World) (A:Option Addr) (l c:Nat) (rs:List (Fq×Fq)):Prop where
 length:rs.length=l
 cap:l≤c
 elems:(l=0∧A=none∧c=0)∨∃ b o,A=some ⟨b,o,none⟩∧b<w.heap.size∧Vals w b o rs
theorem RtsAt.below {w w':World} {A:Option Addr} {l c:Nat} {rs:List (Fq×Fq)} (h:RtsAt w A l c rs) (hb:Below w.heap.size w w'):RtsAt w' A l c rs:=by
 refine ⟨h.length,h.cap,?_⟩
 rcases h.elems with h0 | ⟨b,o,hA,hlt,hv⟩
 ·exact .inl h0
 ·exact .inr ⟨b,o,hA,Nat.lt_of_lt_of_le hlt hb.size,hv.below hlt hb⟩
noncomputable def proots (f:List Int):List (Fq×Fq):=if plen (qpart f)<2 then [] else nroots (qpart f)
theorem FndV.rts {B gs:Nat} {w:World} {F:Value} {rs:List (Fq×Fq)} (h:FndV B gs w F rs):∃ A l c,F=.slice A l c∧RtsAt w A l c rs:=by
 rcases h with ⟨h1,h2⟩ | ⟨g,cap,h1,h2,h3,h4,h5⟩
 ·subst h1
  exact ⟨_,_,_,h2,rfl,Nat.le_refl _,.inl ⟨rfl,rfl,rfl⟩⟩
 ·exact ⟨_,_,_,h1,rfl,h2.le,.inr ⟨g,0,rfl,h2.lt,h4⟩⟩
theorem SqF.cau {Q:List Int} (h:SqF Q 16):CauSz Q:=by
 have hb:hst (ptrim Q) (plen Q-1)≤BB^16:=hst_bd (fun k=>by rw [ptrim_getD];exact h.b k) _
 have hl:(plead (ptrim Q)).natAbs≤BB^16:=by rw [h.t];exact h.b _
 have hc:=(cdiv_facts (hst (ptrim Q) (plen Q-1)) (plead_tr h.q0)).2
 have hf:=flq_neg (hst (ptrim Q) (plen Q-1)) (plead_tr h.q0)
 have h1:4*BB^16≤BB^17:=bbk_mul (by decide)
 have h2:1≤BB^16:=Nat.pow_pos BB_pos
 have h3:BB^17<BB^18:=Nat.pow_lt_pow_right (by rw [BB_eq];decide) (by decide)
 refine ⟨sm_pow (k:=18) (by omega) (by decide),sm_pow (k:=18) (by omega) (by decide),sm_pow (k:=18) ?_ (by decide)⟩
 generalize flq (-((hst (ptrim Q) (plen Q-1):Nat):Int)) ((plead (ptrim Q)).natAbs:Nat)=y at hf ⊢
 generalize (hst (ptrim Q) (plen Q-1)+(plead (ptrim Q)).natAbs-1) / (plead (ptrim Q)).natAbs=x at hf hc
 omega
theorem SqF.der {Q:List Int} {k:Nat} (h:SqF Q k) (hk:k≤31):CP (pder Q) :=
 ⟨by have:=plen_pder Q;have:=h.len;omega,fun j=>Nat.le_trans (pder_abs (by have:=h.len;omega) h.b j) (bbk_le (by omega))⟩
theorem SqF.ctx {Q:List Int} (h:SqF Q 16) {W0:World} {Ap:Option Addr} {lp cp:Nat} {Ac:Option Addr} {lc cc:Nat} (hp:PolyN W0 Ap lp cp Q) (hc:PLst W0 Ac lc cc (pchain 12 Q (pder Q))):IsCtx Q (pchain 12 Q (pder Q)) W0 W0.heap.size Ap lp cp Ac lc cc:=by
 have hcp:=h.cp (by decide)
 obtain ⟨_,k2,_,k4⟩:=chain_all hcp (h.der (by decide))
 have hl:=h.lq
 have h1:=hp.length
 have h2:=hc.length
 exact ⟨hp,hc,by omega,by omega,Nat.le_refl _,fun p hp z q hz hq=>(k2 p hp).at hz hq,fun z q hz hq=>hcp.at hl hz hq⟩
theorem nroots_len {Q:List Int} (h:SqF Q 16):(nroots Q).length≤9:=by
 obtain ⟨xs,hx⟩:=roots_lst h.q0 (fun _=>True)
 have hx2:Lst (fun x=>sgp Q x=0) xs:=hx.congr fun x=>⟨fun e=>e.1,fun e=>⟨e,trivial⟩⟩
 rw [(roots_isl h hx2).length]
 have:=rts_le (plen Q-1) Q (by have:=h.q0;omega) xs hx2.1 fun x hx=>(hx2.2 x).1 hx
 have:=h.len
 omega
structure RDone (W:World) (B0 gs:Nat) (P C:Value) (g5:Nat) (n5:Bool) (A5:Option Addr) (l5 c5:Nat) (B5:Option Addr) (m5 d5:Nat) (z5:Int) (q5:Nat) (R:List (Fq×Fq)) (w':World):Prop where
 r5:RBox w' g5 n5 A5 l5 c5 B5 m5 d5 z5 q5
 fr:FrS gs gs W w'
 f:∃ F',Blk w' gs 149 #[P,C,F']∧FndV B0 gs w' F' R
theorem r_done {W W1 w':World} {B0 gs g5:Nat} {P C:Value} {n5:Bool} {A5 B5:Option Addr} {l5 c5 m5 d5 q5:Nat} {z5:Int} {R:List (Fq×Fq)} {F':Value} (hb:Below W.heap.size W W1) (hB:Blk W gs 149 #[P,C,.slice none 0 0]) (hP:NoDigit P) (hC:NoDigit C) (hfr:FrS gs (fbk gs (.slice none 0 0)) W1 w') (hB':Blk w' gs 149 #[P,C,F']) (hF:FndV B0 gs w' F' ([] ++ R))
 (r5:RBox W g5 n5 A5 l5 c5 B5 m5 d5 z5 q5) (h5:g5≠gs):RDone W B0 gs P C g5 n5 A5 l5 c5 B5 m5 d5 z5 q5 R w':=by
 have hB1:=hB.below hb hB.lt
 obtain ⟨nd1,nd2⟩:=fndv_ndb (B:=0) (rs:=[]) hB1 hP hC (.inl ⟨rfl,rfl⟩)
 exact ⟨(r5.move hb).frs hfr nd1 nd2 h5 h5,FrS.trans (FrS.of_below hb) hfr (.inl rfl),F',hB',hF⟩
set_option maxRecDepth 100000 in
set_option maxHeartbeats 8000000 in
theorem roots_any {I:IntPred} (hI:IK I) (A:Option Addr) (la ca:Nat) (f:List Int) (w:World) (hf:PolyP I w A la ca f) (sf:SmP f) (hq:plen f≠0→QOK f) (hs:plen f≠0→SqF (qpart f) 16) (hla:la≤1000000) :
 Calls Tryz.prog 32 #[.slice A la ca] w fun e w'=>(∃ A' l' c',e=.returned (.slice A' l' c')∧RtsAt w' A' l' c' (proots f))∧Below w.heap.size w w':=by
 obtain ⟨Q,hQ⟩:∃ Q,Q=qpart f:=⟨_,rfl⟩
 have hlq:Q.length≤10:=by
  rw [hQ]
  by_cases h0:plen f=0
  ·rw [qpart_nil h0];exact Nat.zero_le _
  ·exact (hs h0).lq
 have sq:SmP Q:=by
  rw [hQ]
  by_cases h0:plen f=0
  ·rw [qpart_nil h0];intro c hc;simp at hc
  ·exact ((hs h0).fit (by decide)).smp
 have HQ:=Lib.hid hQ
 have Hs:=Lib.hid hs
 clear hQ hs
 go_enter Tryz.func32,Tryz.ntmps32
 go_wp2_with fail
 refine (part_q hI _ _ _ _ _ hf sf hq hla).mono ?_
 rintro e w1 ⟨A1,l1,c1,rfl,h1,hb1⟩
 rw [← HQ.out] at h1
 have hl1:l1≤10:=by have:=h1.length;omega
 have H1:=Lib.hid h1
 have Hb:=Lib.hid hb1
 clear hf h1 hb1 hq
 go_wp2_with fail
 refine (degree_any _ _ _ _ _ (H1.out.at_ ikN) sq (by omega)).mono ?_
 rintro e w2 ⟨rfl,hb2⟩
 replace H1:=Lib.hid (H1.out.below ikN hb2)
 replace Hb:=Lib.hid (Hb.out.trans (hb2.mono Hb.out.size))
 obtain ⟨D,hD⟩:∃ D,D=((plen Q:Nat):Int)-1:=⟨_,rfl⟩
 rw [← hD]
 have HD:=Lib.hid hD
 clear hb2 hD
 by_cases hlt:plen Q<2
 ·have b1:decide (D<1)=true:=decide_eq_true (by have:=HD.out;omega)
  have hr:proots f=[]:=by unfold proots;rw [← HQ.out,if_pos hlt]
  have Hr:=Lib.hid hr
  clear hr hlt
  go_wp2_with fail
  go_ret
  exact ⟨⟨_,_,_,rfl,by rw [Hr.out];exact ⟨rfl,Nat.le_refl _,.inl ⟨rfl,rfl,rfl⟩⟩⟩,Hb.out⟩
 have b1:decide (D<1)=false:=decide_eq_false (by have:=HD.out;omega)
 have hr:proots f=nroots Q:=by unfold proots;rw [← HQ.out,if_neg hlt]
 have Hr:=Lib.hid hr
 have hf0:plen f≠0:=fun h0=>by
  have:=qpart_nil h0
  rw [← HQ.out] at this
  rw [this] at hlt
  exact hlt (by decide)
 have hS:SqF Q 16:=by have:=Hs.out hf0;rwa [← HQ.out] at this
 have hcp:=hS.cp (k:=16) (by decide)
 have hcd:=hS.der (by decide)
 have hok:=(chain_all hcp hcd).1
 have hcl:=(chain_all hcp hcd).2.2.1
 obtain ⟨PS,hPS⟩:∃ PS,PS=pchain 12 Q (pder Q):=⟨_,rfl⟩
 have HPS:=Lib.hid hPS
 have HS:=Lib.hid hS
 have sqd:=hcd.fit.smp
 have p2:2≤plen Q:=by omega
 clear hr hlt HD hf0 hS hcp hcd hPS
 go_wp2_with fail
 refine (sturmof_any _ _ _ _ _ H1.out sq sqd (by omega) 12 hok (by omega)).mono ?_
 rintro e w4 ⟨A4,l4,c4,rfl,h4,hb4⟩
 replace H1:=Lib.hid (H1.out.below ikN hb4)
 replace Hb:=Lib.hid (Hb.out.trans (hb4.mono Hb.out.size))
 have ctx:=HS.out.ctx H1.out h4
 have spl:=iso_any ctx _ _ _ (roots_fit HS.out).1
 have hR2:nroots Q=isl Q PS (NN+1) ⟨-((cbn Q:Nat):Int),1⟩ ⟨((cbn Q:Nat):Int),1⟩:=by unfold nroots;rw [← HPS.out]
 rw [← HPS.out] at ctx spl h4
 obtain ⟨R,hR⟩:∃ R,R=isl Q PS (NN+1) ⟨-((cbn Q:Nat):Int),1⟩ ⟨((cbn Q:Nat):Int),1⟩:=⟨_,rfl⟩
 rw [← hR] at hR2 spl
 have hRl:([]:List (Fq×Fq)).length+R.length≤1000000:=by
  have:=nroots_len HS.out
  rw [hR2] at this
  simp only [List.length_nil]
  omega
 have HR2:=Lib.hid hR2
 have SPL:=Lib.hid spl
 have Ctx:=Lib.hid ctx
 have e3:∀ (z:Int) (q:Nat),(((vst (PS.map (sat z q)) l4).1:Nat):Int)=((Fq.chg PS ⟨z,q⟩:Nat):Int):=fun z q=>by rw [← h4.length];rfl
 have E3:=Lib.hid e3
 have hl4:=ctx.lc
 clear spl hR2 hR e3
 have jb:=below_new w4 (.cells #[.slice A1 l1 c1,.slice A4 l4 c4,.slice none 0 0] 149)
 have hbk:Blk (w4.alloc (.cells #[.slice A1 l1 c1,.slice A4 l4 c4,.slice none 0 0] 149)) w4.heap.size 149 #[.slice A1 l1 c1,.slice A4 l4 c4,.slice none 0 0]:=Blk.new _ _ _
 have HB:=Lib.hid hbk
 have Hw0:=Lib.hid jb
 have hgw:=Hb.out.size
 replace H1:=Lib.hid (H1.out.below ikN jb)
 replace Hb:=Lib.hid (Hb.out.trans (jb.mono Hb.out.size))
 clear hb4 jb hbk h4 ctx hok hcl
 go_wp2_with fail
 obtain ⟨wa,hwa⟩:∃ wa,wa=w4.alloc (.cells #[.slice A1 l1 c1,.slice A4 l4 c4,.slice none 0 0] 149):=⟨_,rfl⟩
 obtain ⟨gs,hgs⟩:∃ gs,gs=w4.heap.size:=⟨_,rfl⟩
 rw [← hwa,← hgs]
 rw [← hwa,← hgs] at HB
 rw [← hwa] at H1 Hb Hw0
 rw [← hgs] at hgw SPL Ctx
 have Hgs:=Lib.hid hgs
 clear hwa hgs
 refine (cau_any ikN _ _ _ _ _ H1.out sq (by omega) (fun _=>HS.out.cau)).mono ?_
 rintro e w3 ⟨n3,A3,l3,c3,rfl,h3,hb3⟩
 rw [cau_cbn p2] at h3
 obtain ⟨c,hc⟩:∃ c,c=cbn Q:=⟨_,rfl⟩
 rw [← hc] at h3 SPL
 have Hc:=Lib.hid hc
 replace HB:=Lib.hid (HB.out.below hb3 HB.out.lt)
 replace Hw0:=Lib.hid (Hw0.out.trans (hb3.mono Hw0.out.size))
 replace Hb:=Lib.hid (Hb.out.trans (hb3.mono Hb.out.size))
 have fB:FqB ⟨((c:Nat):Int),1⟩:=by
  have:=(roots_fit HS.out).1.2.1
  rwa [← hc] at this
 have fA:FqB ⟨-((c:Nat):Int),1⟩:=by
  have:=(roots_fit HS.out).1.1
  rwa [← hc] at this
 have H3:=Lib.hid h3
 have fc:Fit ((c:Nat):Int):=fB.fz
 have f1:Fit (((1:Nat):Int)):=fB.fq
 clear h3 hb3 H1 hc
 go_wp2_with fail
 refine (rfrom_any _ _ _ _ _ _ H3.out.at_ fc.sm).mono ?_
 rintro e w5 ⟨⟨n5,A5,l5,c5,B5,m5,d5,rfl,h5,k5⟩,hb5⟩
 have jb:=below_new w5 (rbox n5 A5 l5 c5 B5 m5 d5)
 have hbj:=hb5.trans (jb.mono hb5.size)
 have r5:=RBox.make h5 k5
 have hgl4:gs<w5.heap.size:=Nat.lt_of_lt_of_le HB.out.lt hb5.size
 replace HB:=Lib.hid (HB.out.below hbj HB.out.lt)
 replace Hw0:=Lib.hid (Hw0.out.trans (hbj.mono Hw0.out.size))
 replace Hb:=Lib.hid (Hb.out.trans (hbj.mono Hb.out.size))
 have x0:=r5.c0
 have x1:=r5.c1
 have x2:=r5.c2
 have R5:=Lib.hid r5
 clear h5 k5 hb5 jb hbj r5 H3
 go_upto_region 6 with (fail)
 obtain ⟨wk,hwk⟩:∃ wk,wk=w5.alloc (rbox n5 A5 l5 c5 B5 m5 d5):=⟨_,rfl⟩
 obtain ⟨g5,e5⟩:∃ g,g=w5.heap.size:=⟨_,rfl⟩
 have hg5:gs<g5:=by rw [e5];exact hgl4
 rw [← hwk,← e5] at R5 x0 x1 x2
 rw [← hwk] at HB Hb Hw0 ⊢
 rw [← e5]
 clear hwk e5 hgl4
 have l5':=R5.out.lt
 have e1:(-((c:Nat):Int)).tdiv ((Nat.gcd ((c:Nat):Int).natAbs 1:Nat):Int)=-((c:Nat):Int):=by rw [Nat.gcd_one_right];exact Int.tdiv_one _
 have e2:1 / Nat.gcd ((c:Nat):Int).natAbs 1=1:=by rw [Nat.gcd_one_right]
 have E1:=Lib.hid e1
 have E2:=Lib.hid e2
 have hgu5:g5≠gs:=by omega
 have Hp:=Lib.hid (Ctx.out.hp.below ikN Hw0.out)
 have Hc4:=Lib.hid (Ctx.out.hc.below Hw0.out)
 clear e1 e2
 go_region_held3 (fun w'=>w'.cell? ⟨g5,0,none⟩=some (.bool n5)∧w'.cell? ⟨g5,1,none⟩=some (.slice A5 l5 c5)∧w'.cell? ⟨g5,2,none⟩=some (.slice B5 m5 d5)) (go_keep) (first
  | (go_at_call 59;go_must (refine (ratneg_any _ _ _ _ _ _ _ _ _ _ ?_ ?_ fc f1 Nat.one_pos).mono ?_;(exact R5.out.hz.below Bel.go);(exact R5.out.hq.below Bel.go);rintro e w6 ⟨⟨n6,A6,l6,c6,B6,m6,d6,rfl,h6,k6⟩,hb6⟩;rw [E1.out] at h6;rw [E2.out] at k6;have H6:=Lib.hid (And.intro h6 k6);have G6:Hid (Below wk.heap.size wk w6):=Lib.hid (Below.trans Bel.go (hb6.mono (by simp<;>omega)));obtain ⟨hcx,hfx⟩:=bcellS hb6;have i0:World.cell? w6 ⟨g5,0,none⟩=some (.bool n5):=(hcx _ (by go_simp)).trans (by go_simp);have i1:World.cell? w6 ⟨g5,1,none⟩=some (.slice A5 l5 c5):=(hcx _ (by go_simp)).trans (by go_simp);have i2:World.cell? w6 ⟨g5,2,none⟩=some (.slice B5 m5 d5):=(hcx _ (by go_simp)).trans (by go_simp);clear hcx hfx hb6 h6 k6))
  | (go_at_call 105;(have _hx:=G7);go_must (refine (mark_any Q PS gs A1 l1 c1 A4 l4 c4 (.slice none 0 0) _ _ _ _ _ _ _ 1 (((c:Nat):Int)) _ ?_ ?_ ?_ (by omega) (by omega) ?_ ?_ fB.at (fun p hp=>Ctx.out.el p hp _ _ fB.z fB.q) (Ctx.out.eq _ _ fB.z fB.q)).mono ?_;(exact (HB.out.below G7.out HB.out.lt).below Bel.go (HB.out.below G7.out HB.out.lt).lt);(exact (Hp.out.below ikN G7.out).below ikN Bel.go);(exact (Hc4.out.below G7.out).below Bel.go);(exact (R5.out.move G7.out).hz.below Bel.go);(exact (R5.out.move G7.out).hq.below Bel.go);rintro e w9 ⟨rfl,hb9⟩;have hbz:Below w7.heap.size w7 w9:=Below.trans Bel.go (hb9.mono (by simp<;>omega));have H9:=Lib.hid (And.intro (H7.out.1.below hbz) (H7.out.2.below hbz));have G9:Hid (Below wk.heap.size wk w9):=Lib.hid (G7.out.trans (hbz.mono G7.out.size));obtain ⟨hcx,hfx⟩:=bcellS hb9;have q0:World.cell? w9 ⟨g5,0,none⟩=some (.bool n5):=(hcx _ (by go_simp)).trans (by go_simp);have q1:World.cell? w9 ⟨g5,1,none⟩=some (.slice A5 l5 c5):=(hcx _ (by go_simp)).trans (by go_simp);have q2:World.cell? w9 ⟨g5,2,none⟩=some (.slice B5 m5 d5):=(hcx _ (by go_simp)).trans (by go_simp);clear hcx hfx hb9 hbz))
  | (go_at_call 105;go_must (refine (mark_any Q PS gs A1 l1 c1 A4 l4 c4 (.slice none 0 0) _ _ _ _ _ _ _ 1 (-((c:Nat):Int)) _ ?_ ?_ ?_ (by omega) (by omega) ?_ ?_ fA.at (fun p hp=>Ctx.out.el p hp _ _ fA.z fA.q) (Ctx.out.eq _ _ fA.z fA.q)).mono ?_;(exact (HB.out.below G6.out HB.out.lt).below Bel.go (HB.out.below G6.out HB.out.lt).lt);(exact (Hp.out.below ikN G6.out).below ikN Bel.go);(exact (Hc4.out.below G6.out).below Bel.go);(exact H6.out.1.below Bel.go);(exact H6.out.2.below Bel.go);rintro e w7 ⟨rfl,hb7⟩;have hbz:Below w6.heap.size w6 w7:=Below.trans Bel.go (hb7.mono (by simp<;>omega));have H7:=Lib.hid (And.intro (H6.out.1.below hbz) (H6.out.2.below hbz));have G7:Hid (Below wk.heap.size wk w7):=Lib.hid (G6.out.trans (hbz.mono G6.out.size));obtain ⟨hcx,hfx⟩:=bcellS hb7;have j0:World.cell? w7 ⟨g5,0,none⟩=some (.bool n5):=(hcx _ (by go_simp)).trans (by go_simp);have j1:World.cell? w7 ⟨g5,1,none⟩=some (.slice A5 l5 c5):=(hcx _ (by go_simp)).trans (by go_simp);have j2:World.cell? w7 ⟨g5,2,none⟩=some (.slice B5 m5 d5):=(hcx _ (by go_simp)).trans (by go_simp);clear hcx hfx hb7 hbz))
  | (go_at_call 104;go_must (refine (SPL.out (.slice none 0 0) [] _ _ _ _ _ _ _ _ _ _ _ _ _ _ _ _ _ _ (E3.out _ _) (E3.out _ _) rfl rfl _ hRl ?_ ?_ (Or.inl ⟨rfl,rfl⟩) ?_ ?_ ?_ ?_).mono ?_;(exact Below.trans (Hw0.out.trans (G9.out.mono Hw0.out.size)) (Below.mono Bel.go (Hw0.out.trans (G9.out.mono Hw0.out.size)).size));(exact (HB.out.below G9.out HB.out.lt).below Bel.go (HB.out.below G9.out HB.out.lt).lt);(exact H9.out.1.below Bel.go);(exact H9.out.2.below Bel.go);(exact (R5.out.move G9.out).hz.below Bel.go);(exact (R5.out.move G9.out).hq.below Bel.go);rintro e w12 ⟨⟨v12,rfl⟩,F',hB',hF',hfr,-⟩;have hst:=r_done (Below.trans G9.out (Below.mono Bel.go G9.out.size)) HB.out (noDigit_slice _ _ _) (noDigit_slice _ _ _) hfr hB' hF' R5.out hgu5;have ST:=Lib.hid hst;have k0:=hst.r5.c0;have k1:=hst.r5.c1;have k2:=hst.r5.c2;clear hst hB' hF' hfr)))
 rename_i hHeld
 obtain ⟨F',hB',hF'⟩:=ST.out.f
 obtain ⟨A',l',c',rfl,hR⟩:=hF'.rts
 have y2:w12.cell? ⟨gs,2,none⟩=some (.slice A' l' c'):=(hB'.cell 2).trans rfl
 have hbf:Below w.heap.size w w12:=ST.out.fr.mono Hb.out hgw hgw Hb.out.size
 have Hbf:=Lib.hid hbf
 have HR:=Lib.hid hR
 have hgl:=hB'.lt
 clear hHeld hbf hR hB' hF' ST k0 k1 k2 i0 i1 i2 j0 j1 j2 q0 q1 q2 x0 x1 x2 G6 G7 G9 H6 H7 H9 R5 HB Hb Hw0 SPL Ctx Hp Hc4 E3
 go_wp2_with fail
 go_ret
 exact ⟨⟨_,_,_,rfl,by rw [Hr.out,HR2.out];exact HR.out⟩,Hbf.out⟩
end Go.Proofs.YtjmglmgokfcgoaaGreat
namespace Go.Proofs.YtjmglmgokfcgoaaGreat
open Go Go.RowKit
structure TBox (w:World) (g:Nat) (n:Bool) (A:Option Addr) (l c:Nat) (B:Option Addr) (m d:Nat) (z:Int) (q:Nat) (n':Bool) (A':Option Addr) (l' c':Nat) (B':Option Addr) (m' d':Nat) (z':Int) (q':Nat):Prop where
 r:RBox w g n A l c B m d z q
 c3:w.cell? ⟨g,3,none⟩=some (.bool n')
 c4:w.cell? ⟨g,4,none⟩=some (.slice A' l' c')
 c5:w.cell? ⟨g,5,none⟩=some (.slice B' m' d')
 hz:IntN w n' A' l' c' z'
 hq:NatN w B' m' d' q'
abbrev tbox (n:Bool) (A:Option Addr) (l c:Nat) (B:Option Addr) (m d:Nat) (n':Bool) (A':Option Addr) (l' c':Nat) (B':Option Addr) (m' d':Nat):Obj:=.cells #[.bool n,.slice A l c,.slice B m d,.bool n',.slice A' l' c',.slice B' m' d'] 53
section
variable {w w':World} {g:Nat} {n:Bool} {A:Option Addr} {l c:Nat} {B:Option Addr} {m d:Nat} {z:Int} {q:Nat} {n':Bool} {A':Option Addr} {l' c':Nat} {B':Option Addr} {m' d':Nat} {z':Int} {q':Nat}
theorem TBox.make (hz:IntN w n A l c z) (hq:NatN w B m d q) (hz':IntN w n' A' l' c' z') (hq':NatN w B' m' d' q'):TBox (w.alloc (tbox n A l c B m d n' A' l' c' B' m' d')) w.heap.size n A l c B m d z q n' A' l' c' B' m' d' z' q':=by
 have hb:Blk (w.alloc (tbox n A l c B m d n' A' l' c' B' m' d')) w.heap.size 53 #[.bool n,.slice A l c,.slice B m d,.bool n',.slice A' l' c',.slice B' m' d']:=Blk.new _ _ _
 have ho:=below_new w (tbox n A l c B m d n' A' l' c' B' m' d')
 exact ⟨⟨hb.cell 0,hb.cell 1,hb.cell 2,hb.frozen 0,hb.frozen 1,hb.frozen 2,by simp,hz.below ho,hq.below ho⟩,hb.cell 3,hb.cell 4,hb.cell 5,hz'.below ho,hq'.below ho⟩
theorem TBox.move (h:TBox w g n A l c B m d z q n' A' l' c' B' m' d' z' q') (hb:Below w.heap.size w w'):TBox w' g n A l c B m d z q n' A' l' c' B' m' d' z' q' :=
 ⟨h.r.move hb,(hb.cell (p:=⟨g,3,none⟩) h.r.lt).trans h.c3,(hb.cell (p:=⟨g,4,none⟩) h.r.lt).trans h.c4,(hb.cell (p:=⟨g,5,none⟩) h.r.lt).trans h.c5,h.hz.below hb,h.hq.below hb⟩
end
noncomputable def fcount (f:List Int) (a b:Fq):Int:=ncount f a.z a.q b.z b.q
noncomputable def vld (k:Nat) (f:List Int) (a b:Fq):Bool :=
 if plen f<k then false
 else if a.z*(b.q:Int)<b.z*(a.q:Int) then (if a.sgn f=0 then false else if b.sgn f=0 then false else fcount f a b == 1)
 else if b.z*(a.q:Int)<a.z*(b.q:Int) then false else a.sgn f == 0
set_option maxRecDepth 100000 in
set_option maxHeartbeats 4000000 in
theorem valid_any {I:IntPred} (hI:IK I) (Af:Option Addr) (lf cf:Nat) (f:List Int) (a b:Fq) (n:Bool) (A:Option Addr) (l c:Nat) (B:Option Addr) (m d:Nat) (n':Bool) (A':Option Addr) (l' c':Nat) (B':Option Addr) (m' d':Nat) (w:World) (hf:PolyP I w Af lf cf f) (hl:f.length≤16) (h9:PQ f)
 (hz:IntN w n A l c a.z) (hq:NatN w B m d a.q) (hz':IntN w n' A' l' c' b.z) (hq':NatN w B' m' d' b.q) (ha:FqB a) (hb:FqB b) :
 Calls Tryz.prog 102 #[.slice Af lf cf,.agg #[.bool n,.slice A l c,.slice B m d,.bool n',.slice A' l' c',.slice B' m' d']] w fun e w'=>e=.returned (.bool (vld 2 f a b))∧Below w.heap.size w w':=by
 have o1:=below_new w (tbox n A l c B m d n' A' l' c' B' m' d')
 have T:=Lib.hid (TBox.make hz hq hz' hq')
 have HF:=Lib.hid (hf.below hI o1)
 have hlf:lf≤16:=by have:=hf.length;omega
 have Hb:=Lib.hid o1
 have pa:=h9.at hl ha.z ha.q
 have pb:=h9.at hl hb.z hb.q
 have sf:=h9.fit.smp
 have pa0:=ha.p
 have pb0:=hb.p
 obtain ⟨S1,hS1⟩:∃ S,S=a.sgn f:=⟨_,rfl⟩
 obtain ⟨S2,hS2⟩:∃ S,S=b.sgn f:=⟨_,rfl⟩
 obtain ⟨NC,hNC⟩:∃ S,S=fcount f a b:=⟨_,rfl⟩
 obtain ⟨V,hV⟩:∃ V,V=vld 2 f a b:=⟨_,rfl⟩
 rw [← hV]
 unfold vld at hV
 rw [← hS1,← hS2,← hNC] at hV
 have HV:=Lib.hid hV
 have HS1:=Lib.hid hS1
 have HS2:=Lib.hid hS2
 have HNC:=Lib.hid hNC
 clear hz hq hz' hq' hf o1 hS1 hS2 hNC hV
 go_enter Tryz.func102,Tryz.ntmps102
 have x0:=T.out.r.c0;have x1:=T.out.r.c1;have x2:=T.out.r.c2;have x3:=T.out.c3;have x4:=T.out.c4;have x5:=T.out.c5
 go_wp2_with fail
 refine (degree_any _ _ _ _ _ (HF.out.at_ hI) sf (by omega)).mono ?_
 rintro e w2 ⟨rfl,hb2⟩
 replace HF:=Lib.hid (HF.out.below hI hb2);replace T:=Lib.hid (T.out.move hb2);replace Hb:=Lib.hid (Hb.out.trans ((hb2).mono Hb.out.size))
 obtain ⟨D,hD⟩:∃ D,D=((plen f:Nat):Int)-1:=⟨_,rfl⟩
 rw [← hD]
 have HD:=Lib.hid hD
 clear hb2 hD
 clear x0 x1 x2 x3 x4 x5
 by_cases hlt:plen f<2
 ·have b1:decide (D<1)=true:=decide_eq_true (by have:=HD.out;omega)
  have hv:V=false:=by rw [HV.out,if_pos hlt]
  have Hv:=Lib.hid hv
  clear hv hlt
  go_wp2_with fail
  go_ret
  exact ⟨by first | (rw [Hv.out];rfl) | rw [Hv.out],Hb.out⟩
 have b1:decide (D<1)=false:=decide_eq_false (by have:=HD.out;omega)
 have hV:=HV.out
 rw [if_neg hlt] at hV
 replace HV:=Lib.hid hV
 clear hlt HD hV
 have x0:=T.out.r.c0;have x1:=T.out.r.c1;have x2:=T.out.r.c2;have x3:=T.out.c3;have x4:=T.out.c4;have x5:=T.out.c5
 go_wp2_with fail
 refine (rcmp_any _ _ _ _ _ _ _ _ _ _ _ _ _ _ _ _ _ _ _ T.out.r.hz.at_ T.out.r.hq.at_ T.out.hz.at_ T.out.hq.at_ (by omega) (by omega) ha.fz ha.fq hb.fz hb.fq).mono ?_
 rintro e w3 ⟨rfl,hb3⟩
 replace HF:=Lib.hid (HF.out.below hI hb3);replace T:=Lib.hid (T.out.move hb3);replace Hb:=Lib.hid (Hb.out.trans ((hb3).mono Hb.out.size))
 clear hb3
 clear x0 x1 x2 x3 x4 x5
 by_cases hlt:a.z*(b.q:Int)<b.z*(a.q:Int)
 ·have ec:cmpz (a.z*(b.q:Int)) (b.z*(a.q:Int))=-1:=by unfold cmpz;rw [if_pos hlt]
  rw [ec]
  have hV:=HV.out
  rw [if_pos hlt] at hV
  replace HV:=Lib.hid hV
  clear ec hlt hV
  have x0:=T.out.r.c0;have x1:=T.out.r.c1;have x2:=T.out.r.c2;have x3:=T.out.c3;have x4:=T.out.c4;have x5:=T.out.c5
  go_wp2_with fail
  refine (signat_any hI _ _ _ f _ _ _ _ _ _ _ _ _ _ HF.out pa.fit (by omega) T.out.r.hz T.out.r.hq ha.at.u ha.at.v ha.at.pos pa.ok ha.at.fz ha.at.fq).mono ?_;rintro e w4 ⟨he,hb0⟩;have he2:e=.returned (.int .i64 S1):=by rw [HS1.out];exact he
  subst he2
  clear he
  clear x0 x1 x2 x3 x4 x5
  replace HF:=Lib.hid (HF.out.below hI hb0);replace T:=Lib.hid (T.out.move hb0);replace Hb:=Lib.hid (Hb.out.trans ((hb0).mono Hb.out.size))
  clear hb0
  by_cases h1:S1=0
  ·have b2:(S1 == 0)=true:=by rw [h1];rfl
   have hv:V=false:=by rw [HV.out,if_pos h1]
   have Hv:=Lib.hid hv
   clear hv h1
   have x0:=T.out.r.c0;have x1:=T.out.r.c1;have x2:=T.out.r.c2;have x3:=T.out.c3;have x4:=T.out.c4;have x5:=T.out.c5
   go_wp2_with fail
   go_ret
   exact ⟨by first | (rw [Hv.out];rfl) | rw [Hv.out],Hb.out⟩
  have b2:(S1 == 0)=false:=by rw [beq_eq_false_iff_ne];exact h1
  have hV:=HV.out
  rw [if_neg h1] at hV
  replace HV:=Lib.hid hV
  clear h1 hV
  have x0:=T.out.r.c0;have x1:=T.out.r.c1;have x2:=T.out.r.c2;have x3:=T.out.c3;have x4:=T.out.c4;have x5:=T.out.c5
  go_wp2_with fail
  refine (signat_any hI _ _ _ f _ _ _ _ _ _ _ _ _ _ HF.out pb.fit (by omega) T.out.hz T.out.hq hb.at.u hb.at.v hb.at.pos pb.ok hb.at.fz hb.at.fq).mono ?_;rintro e w5 ⟨he,hb0⟩;have he2:e=.returned (.int .i64 S2):=by rw [HS2.out];exact he
  subst he2
  clear he
  clear x0 x1 x2 x3 x4 x5
  replace HF:=Lib.hid (HF.out.below hI hb0);replace T:=Lib.hid (T.out.move hb0);replace Hb:=Lib.hid (Hb.out.trans ((hb0).mono Hb.out.size))
  clear hb0
  by_cases h2:S2=0
  ·have b3:(S2 == 0)=true:=by rw [h2];rfl
   have hv:V=false:=by rw [HV.out,if_pos h2]
   have Hv:=Lib.hid hv
   clear hv h2
   have x0:=T.out.r.c0;have x1:=T.out.r.c1;have x2:=T.out.r.c2;have x3:=T.out.c3;have x4:=T.out.c4;have x5:=T.out.c5
   go_wp2_with fail
   go_ret
   exact ⟨by first | (rw [Hv.out];rfl) | rw [Hv.out],Hb.out⟩
  have b3:(S2 == 0)=false:=by rw [beq_eq_false_iff_ne];exact h2
  have hV:=HV.out
  rw [if_neg h2] at hV
  replace HV:=Lib.hid hV
  clear h2 hV
  have x0:=T.out.r.c0;have x1:=T.out.r.c1;have x2:=T.out.r.c2;have x3:=T.out.c3;have x4:=T.out.c4;have x5:=T.out.c5
  go_wp2_with fail
  refine (count_q hI _ _ _ f _ _ _ _ _ _ _ _ _ _ _ _ _ _ _ _ _ _ _ HF.out (by omega) h9 T.out.r.hz T.out.r.hq T.out.hz T.out.hq ha.at hb.at ha.z ha.q hb.z hb.q).mono ?_;rintro e w6 ⟨he,hb0⟩;have he2:e=.returned (.int .i64 NC):=by rw [HNC.out];exact he
  subst he2
  clear he
  clear x0 x1 x2 x3 x4 x5
  replace HF:=Lib.hid (HF.out.below hI hb0);replace T:=Lib.hid (T.out.move hb0);replace Hb:=Lib.hid (Hb.out.trans ((hb0).mono Hb.out.size))
  clear hb0
  go_wp2_with fail
  go_ret
  exact ⟨by first | (rw [HV.out];rfl) | rw [HV.out],Hb.out⟩
 by_cases hgt:b.z*(a.q:Int)<a.z*(b.q:Int)
 ·have ec:cmpz (a.z*(b.q:Int)) (b.z*(a.q:Int))=1:=by unfold cmpz;rw [if_neg hlt,if_neg (by omega)]
  rw [ec]
  have hv:V=false:=by rw [HV.out,if_neg hlt,if_pos hgt]
  have Hv:=Lib.hid hv
  clear ec hlt hgt hv
  have x0:=T.out.r.c0;have x1:=T.out.r.c1;have x2:=T.out.r.c2;have x3:=T.out.c3;have x4:=T.out.c4;have x5:=T.out.c5
  go_wp2_with fail
  go_ret
  exact ⟨by first | (rw [Hv.out];rfl) | rw [Hv.out],Hb.out⟩
 ·have ec:cmpz (a.z*(b.q:Int)) (b.z*(a.q:Int))=0:=by unfold cmpz;rw [if_neg hlt,if_pos (by omega)]
  rw [ec]
  have hV:=HV.out
  rw [if_neg hlt,if_neg hgt] at hV
  replace HV:=Lib.hid hV
  clear ec hlt hgt hV
  have x0:=T.out.r.c0;have x1:=T.out.r.c1;have x2:=T.out.r.c2;have x3:=T.out.c3;have x4:=T.out.c4;have x5:=T.out.c5
  go_wp2_with fail
  refine (signat_any hI _ _ _ f _ _ _ _ _ _ _ _ _ _ HF.out pa.fit (by omega) T.out.r.hz T.out.r.hq ha.at.u ha.at.v ha.at.pos pa.ok ha.at.fz ha.at.fq).mono ?_;rintro e w4 ⟨he,hb0⟩;have he2:e=.returned (.int .i64 S1):=by rw [HS1.out];exact he
  subst he2
  clear he
  clear x0 x1 x2 x3 x4 x5
  replace HF:=Lib.hid (HF.out.below hI hb0);replace T:=Lib.hid (T.out.move hb0);replace Hb:=Lib.hid (Hb.out.trans ((hb0).mono Hb.out.size))
  clear hb0
  go_wp2_with fail
  go_ret
  exact ⟨by first | (rw [HV.out];rfl) | rw [HV.out],Hb.out⟩
end Go.Proofs.YtjmglmgokfcgoaaGreat
namespace Go.Proofs.YtjmglmgokfcgoaaGreat
open Go.RowKit
theorem FqB.nf {a:Fq} (h:FqB a):FqB a.nf:=by
 have hn:=(Go.Proofs.YtjmglmgokfcgoaaGreat.nf_v (z:=a.z) h.p).2.1
 refine ⟨hn,?_,?_⟩
 ·show (rz a.z a.q).natAbs≤ZB
  unfold rz
  rw [Int.natAbs_tdiv]
  exact Nat.le_trans (Nat.div_le_self _ _) h.z
 ·show rq a.z a.q≤ZB
  unfold rq
  exact Nat.le_trans (Nat.div_le_self _ _) h.q
section
variable {f:List Int}
theorem proots_isl (h9:PQ f) (h0:plen f≠0) {xs:List Pt} (hx:Lst (fun x=>sgp f x=0) xs):∃ lo hi,Isl (qpart f) xs (proots f) lo hi:=by
 have hq:=q_facts h9.q h0
 have hx2:Lst (fun x=>sgp (qpart f) x=0) xs:=hx.congr fun x=>(hq.root x).symm
 unfold proots
 by_cases h:plen (qpart f)<2
 ·rw [if_pos h]
  have h1:plen (qpart f)=1:=by have:=hq.q0;omega
  have e:xs=[]:=by
   match xs,hx2 with
   | [],_=>rfl
   | x :: xs,hx2 =>
     have this:sgp (qpart f) x=0:=(hx2.2 x).1 (List.mem_cons_self ..)
     rw [sgp_one h1] at this
     exact absurd this (sg_ne (plead_ne (by omega)))
  rw [e]
  exact ⟨0,0,.nil _ _ Rat.le_refl⟩
 ·rw [if_neg h]
  exact ⟨_,_,roots_isl (SqF.of9 h9 h0) hx2⟩
theorem proots_len (h9:PQ f) (h0:plen f≠0):((proots f).length:Int)=nall f:=by
 obtain ⟨xs,hx⟩:=roots_lst h0 (fun _=>True)
 have hx1:Lst (fun x=>sgp f x=0) xs:=hx.congr fun x=>⟨fun h=>h.1,fun h=>⟨h,trivial⟩⟩
 obtain ⟨lo,hi,hi2⟩:=proots_isl h9 h0 hx1
 rw [hi2.length,nall_roots h9 h0 hx1]
theorem p9_w2:P9 w2:=by
 have e:∀ c∈w2,c.natAbs≤2:=by decide
 refine ⟨by decide,fun j=>?_⟩
 have h2:(w2.getD j 0).natAbs≤2:=by
  rw [List.getD_eq_getElem?_getD]
  cases h:w2[j]? with
  | none=>decide
  | some c=>exact e c (List.mem_of_getElem? h)
 refine Nat.le_trans h2 (Nat.le_trans ?_ (bbk_le (show 1≤10 by decide)))
 rw [Nat.pow_one,BB_eq]
 decide
theorem proots_w2:(proots w2).length=2:=by
 have h:=proots_len (f:=w2) p9_w2 (by decide)
 have e:nall w2=2:=by decide +kernel
 rw [e] at h
 omega
theorem no_roots (h1:plen f=1) (x:Pt):sgp f x≠0:=by
 rw [sgp_one h1]
 exact sg_ne (plead_ne (by omega))
theorem sgn_pt {a:Fq} (ha:0<a.q) (f:List Int):a.sgn f=sgp f a.p:=sat_eq ha f
end
end Go.Proofs.YtjmglmgokfcgoaaGreat
namespace Go.Proofs.YtjmglmgokfcgoaaGreat
open Go.RowKit
theorem isl_fqb {Q:List Int} {PS:List (List Int)}:∀ (n:Nat) (a b:Fq),IsFit Q PS n a b→∀ r∈isl Q PS n a b,FqB r.1∧FqB r.2
 | 0,_,_,h,_,_=>h.elim
 | n+1,a,b,⟨ha,hb,h⟩,r,hr=>by
   have e:isl Q PS (n+1) a b=if icnt Q PS a b<1 then [] else if icnt Q PS a b=1∧a.sgn Q≠0∧b.sgn Q≠0 then [(a.nf,b.nf)] else isl Q PS n a (a.mid b) ++ (if (a.mid b).sgn Q=0 then [((a.mid b).nf,(a.mid b).nf)] else []) ++ isl Q PS n (a.mid b) b:=rfl
   rw [e] at hr
   by_cases c1:icnt Q PS a b<1
   ·rw [if_pos c1] at hr;simp at hr
   rw [if_neg c1] at hr
   by_cases c2:icnt Q PS a b=1∧a.sgn Q≠0∧b.sgn Q≠0
   ·rw [if_pos c2,List.mem_singleton] at hr
    rw [hr]
    exact ⟨ha.nf,hb.nf⟩
   rw [if_neg c2] at hr
   obtain ⟨h1,h2,h3⟩:=(h.resolve_left c1).resolve_left c2
   rcases List.mem_append.1 hr with hr | hr
   ·rcases List.mem_append.1 hr with hr | hr
    ·exact isl_fqb n _ _ h2 r hr
    ·split at hr
     ·rw [List.mem_singleton] at hr
      rw [hr]
      exact ⟨h1.nf,h1.nf⟩
     ·simp at hr
   ·exact isl_fqb n _ _ h3 r hr
theorem proots_fqb {f:List Int} (h9:PQ f):∀ r∈proots f,FqB r.1∧FqB r.2:=by
 unfold proots
 by_cases h:plen (qpart f)<2
 ·rw [if_pos h];intro r hr;simp at hr
 ·rw [if_neg h]
  have h0:plen f≠0:=fun h0=>by rw [qpart_nil h0] at h;exact h (by decide)
  exact isl_fqb _ _ _ (roots_fit (SqF.of9 h9 h0)).1
theorem vld_lt {a b:Fq} (ha:0<a.q) (hb:0<b.q):a.z*(b.q:Int)<b.z*(a.q:Int)↔a.v<b.v:=(frac_lt ha hb).symm
section
variable {f:List Int} {a b:Fq} {x:Pt}
def IsoV (f:List Int) (x:Pt) (a b:Fq):Prop :=
 sgp f x=0∧((a.v=b.v∧x=a.p)∨(a.v<b.v∧sgp f a.p≠0∧sgp f b.p≠0∧a.p<x∧x<b.p∧∀ y,sgp f y=0→a.p<y→y<b.p→y=x))
theorem IsoV.le (h:IsoV f x a b):a.v≤b.v:=by
 rcases h.2 with h | h
 ·rw [h.1];exact Rat.le_refl
 ·grind
theorem Iso.v {Q:List Int} {r:Fq×Fq} (h:Iso Q x r) (hx:sgp f x=0) (e:∀ y,sgp f y=0↔sgp Q y=0):IsoV f x r.1 r.2:=by
 refine ⟨hx,?_⟩
 rcases h.2.2 with ⟨h1,h2⟩ | ⟨h1,h2,h3,h4,h5,h6⟩
 ·exact .inl ⟨by rw [h1],h2⟩
 ·exact .inr ⟨h1,fun h=>h2 ((e _).1 h),fun h=>h3 ((e _).1 h),h4,h5,fun y hy=>h6 y ((e y).1 hy)⟩
theorem vld_iff (h9:PQ f) (h0:plen f≠0) (ha:0<a.q) (hb:0<b.q):vld 2 f a b=true↔∃ x,IsoV f x a b:=by
 unfold vld
 by_cases h2:plen f<2
 ·rw [if_pos h2]
  have h1:plen f=1:=by omega
  exact ⟨fun h=>by simp at h,fun ⟨x,h⟩=>absurd h.1 (no_roots h1 x)⟩
 rw [if_neg h2]
 by_cases c:a.z*(b.q:Int)<b.z*(a.q:Int)
 ·rw [if_pos c]
  have cv:=(vld_lt ha hb).1 c
  have cp:a.p<b.p:=Pt.of_lt_of.2 cv
  rw [sgn_pt ha,sgn_pt hb]
  by_cases ea:sgp f a.p=0
  ·rw [if_pos ea]
   exact ⟨fun h=>by simp at h,fun ⟨x,h⟩=>by
    rcases h.2 with h | h
    ·grind
    ·exact absurd ea h.2.1⟩
  rw [if_neg ea]
  by_cases eb:sgp f b.p=0
  ·rw [if_pos eb]
   exact ⟨fun h=>by simp at h,fun ⟨x,h⟩=>by
    rcases h.2 with h | h
    ·grind
    ·exact absurd eb h.2.2.1⟩
  rw [if_neg eb]
  obtain ⟨xs,hx⟩:=roots_lst h0 (fun x=>a.p<x∧(x<b.p∨x=b.p))
  have hc:fcount f a b=xs.length:=ncount_half h9 h0 ha hb c hx
  rw [hc,beq_iff_eq]
  have hin:∀ y,y∈xs↔sgp f y=0∧a.p<y∧y<b.p:=fun y=>by
   rw [hx.2]
   exact ⟨fun ⟨h1,h2,h3⟩=>⟨h1,h2,h3.resolve_right fun e=>eb (e ▸ h1)⟩,fun ⟨h1,h2,h3⟩=>⟨h1,h2,.inl h3⟩⟩
  constructor
  ·intro h
   obtain ⟨x,rfl⟩:=List.length_eq_one_iff.1 (by omega:xs.length=1)
   have hm:=(hin x).1 (by simp)
   exact ⟨x,hm.1,.inr ⟨cv,ea,eb,hm.2.1,hm.2.2,fun y h1 h2 h3=>by simpa using (hin y).2 ⟨h1,h2,h3⟩⟩⟩
  ·rintro ⟨x,h,h1 | h1⟩
   ·grind
   ·have e:xs=[x]:=asc_uniq hx.1 (List.pairwise_singleton _ _) fun y=>by
     rw [hin,List.mem_singleton]
     exact ⟨fun h2=>h1.2.2.2.2.2 y h2.1 h2.2.1 h2.2.2,fun e=>e ▸ ⟨h,h1.2.2.2.1,h1.2.2.2.2.1⟩⟩
    rw [e];rfl
 rw [if_neg c]
 have cv:¬ a.v<b.v:=fun h=>c ((vld_lt ha hb).2 h)
 by_cases c2:b.z*(a.q:Int)<a.z*(b.q:Int)
 ·rw [if_pos c2]
  have cv2:=(vld_lt hb ha).1 c2
  exact ⟨fun h=>by simp at h,fun ⟨x,h⟩=>by have:=h.le;grind⟩
 rw [if_neg c2]
 have cv2:¬ b.v<a.v:=fun h=>c2 ((vld_lt hb ha).2 h)
 have e:a.v=b.v:=by grind
 rw [beq_iff_eq,sgn_pt ha]
 exact ⟨fun h=>⟨a.p,h,.inl ⟨e,rfl⟩⟩,fun ⟨x,h⟩=>by
  rcases h.2 with h2 | h2
  ·rw [← h2.2];exact h.1
  ·grind⟩
end
def r00:Fq×Fq:=(⟨0,1⟩,⟨0,1⟩)
instance instPt:Inhabited Pt:=⟨Pt.of 0⟩
structure RF (f:List Int) (xs:List Pt) (rs:List (Fq×Fq)):Prop where
 len:rs.length=xs.length
 lst:Lst (fun x=>sgp f x=0) xs
 iso:∀ k,k<xs.length→IsoV f (xs.getD k default) (rs.getD k r00).1 (rs.getD k r00).2
 ord:∀ j k,j<k→k<xs.length→(rs.getD j r00).2.v≤(rs.getD k r00).1.v
 fq:∀ r∈rs,FqB r.1∧FqB r.2
section
variable {f:List Int}
theorem Isl.get {Q:List Int} {xs:List Pt} {rs:List (Fq×Fq)} {lo hi:Rat} (h:Isl Q xs rs lo hi) :
 (∀ k,k<xs.length→Iso Q (xs.getD k default) (rs.getD k r00)∧lo≤(rs.getD k r00).1.v)∧∀ j k,j<k→k<xs.length→(rs.getD j r00).2.v≤(rs.getD k r00).1.v:=by
 induction h with
 | nil a b h=>exact ⟨fun k hk=>absurd hk (Nat.not_lt_zero _),fun j k _ hk=>absurd hk (Nat.not_lt_zero _)⟩
 | @cons x xs r l a c b h h1 h2 h3 ih =>
   refine ⟨fun k hk=>?_,fun j k hj hk=>?_⟩
   ·match k,hk with
    | 0,_=>exact ⟨h,h1⟩
    | k+1,hk =>
      obtain ⟨g1,g2⟩:=ih.1 k (by rw [List.length_cons] at hk;omega)
      have hl:=h.le
      exact ⟨g1,show a≤(l.getD k r00).1.v by grind⟩
   ·match j,k,hj,hk with
    | 0,k+1,_,hk =>
      have g2:=(ih.1 k (by rw [List.length_cons] at hk;omega)).2
      show r.2.v≤(l.getD k r00).1.v
      grind
    | j+1,k+1,hj,hk=>exact ih.2 j k (by omega) (by rw [List.length_cons] at hk;omega)
theorem getD_mem {α:Type} {l:List α} {k:Nat} (h:k<l.length) (d:α):l.getD k d∈l:=by
 rw [List.getD_eq_getElem?_getD,List.getElem?_eq_getElem h]
 exact List.getElem_mem h
theorem rf_ex (h9:PQ f) (h0:plen f≠0):∃ xs,RF f xs (proots f):=by
 obtain ⟨xs,hx⟩:=roots_lst h0 (fun _=>True)
 have hx1:Lst (fun x=>sgp f x=0) xs:=hx.congr fun x=>⟨fun h=>h.1,fun h=>⟨h,trivial⟩⟩
 obtain ⟨lo,hi,hi2⟩:=proots_isl h9 h0 hx1
 have hq:=q_facts h9.q h0
 have hg:=hi2.get
 exact ⟨xs,hi2.length,hx1,fun k hk=>(hg.1 k hk).1.v ((hx1.2 _).1 (getD_mem hk _)) fun y=>(hq.root y).symm,hg.2,proots_fqb h9⟩
theorem proots_nil (h0:plen f=0):proots f=[]:=by
 unfold proots
 rw [if_pos (by rw [qpart_nil h0];decide)]
theorem nall_nil (h0:plen f=0):nall f=0:=nall_none h0
theorem proots_le9 (h9:PQ f):(proots f).length≤9:=by
 unfold proots
 by_cases h:plen (qpart f)<2
 ·rw [if_pos h];exact Nat.zero_le _
 ·rw [if_neg h]
  exact nroots_len (SqF.of9 h9 fun h0=>by rw [qpart_nil h0] at h;exact h (by decide))
theorem RF.fa {xs:List Pt} {rs:List (Fq×Fq)} (h:RF f xs rs) {k:Nat} (hk:k<xs.length):FqB (rs.getD k r00).1∧FqB (rs.getD k r00).2:=h.fq _ (getD_mem (by rw [h.len];exact hk) _)
theorem RF.vld {xs:List Pt} {rs:List (Fq×Fq)} (h:RF f xs rs) (h9:PQ f) (h0:plen f≠0) {k:Nat} (hk:k<xs.length):vld 2 f (rs.getD k r00).1 (rs.getD k r00).2=true :=
 (vld_iff h9 h0 (h.fa hk).1.p (h.fa hk).2.p).2 ⟨_,h.iso k hk⟩
theorem asc_get {xs:List Pt} (h:Asc xs) {j k:Nat} (hj:j<k) (hk:k<xs.length):xs.getD j default<xs.getD k default:=by
 rw [List.getD_eq_getElem?_getD,List.getD_eq_getElem?_getD,List.getElem?_eq_getElem hk,List.getElem?_eq_getElem (Nat.lt_trans hj hk)]
 exact List.pairwise_iff_getElem.1 h j k _ hk hj
end
def fcmp (a b:Fq):Int:=cmpz (a.z*(b.q:Int)) (b.z*(a.q:Int))
theorem fcmp_lt {a b:Fq} (ha:0<a.q) (hb:0<b.q):fcmp a b=-1↔a.v<b.v:=by
 rw [← vld_lt ha hb];unfold fcmp cmpz;constructor
 ·intro h;split at h
  ·assumption
  ·split at h<;>omega
 ·intro h;rw [if_pos h]
theorem fcmp_gt {a b:Fq} (ha:0<a.q) (hb:0<b.q):fcmp a b=1↔b.v<a.v:=by
 rw [← vld_lt hb ha];unfold fcmp cmpz;constructor
 ·intro h;split at h
  ·omega
  ·split at h<;>omega
 ·intro h;rw [if_neg (by omega),if_neg (by omega)]
theorem fcmp_or (a b:Fq):fcmp a b=-1∨fcmp a b=0∨fcmp a b=1:=by
 unfold fcmp cmpz;split
 ·simp
 ·split<;>simp
theorem fcmp_pos {a b:Fq} (ha:0<a.q) (hb:0<b.q):0<fcmp a b↔b.v<a.v:=by
 rw [← fcmp_gt ha hb];rcases fcmp_or a b with h | h | h<;>omega
theorem fcmp_zero {a b:Fq} (ha:0<a.q) (hb:0<b.q):fcmp a b=0↔a.v=b.v:=by
 have h1:=fcmp_lt ha hb
 have h2:=fcmp_gt ha hb
 rcases fcmp_or a b with h | h | h
 ·have:=h1.1 h;exact ⟨fun e=>by omega,fun e=>by grind⟩
 ·exact ⟨fun _=>by
   have n1:¬ a.v<b.v:=fun e=>by have:=h1.2 e;omega
   have n2:¬ b.v<a.v:=fun e=>by have:=h2.2 e;omega
   grind,fun _=>h⟩
 ·have:=h2.1 h;exact ⟨fun e=>by omega,fun e=>by grind⟩
def prOK (p r:Fq×Fq):Prop:=¬ 0<fcmp p.2 r.1∧¬ (fcmp p.2 r.1=0∧fcmp p.1 p.2=0∧fcmp r.1 r.2=0)
def stOK (f:List Int) (rs:List (Fq×Fq)) (k:Nat):Prop:=vld 2 f (rs.getD k r00).1 (rs.getD k r00).2=true∧(0<k→prOK (rs.getD (k-1) r00) (rs.getD k r00))
def Cmpl (f:List Int) (rs:List (Fq×Fq)):Prop:=(rs.length:Int)=nall f∧∀ k,k<rs.length→stOK f rs k
section
variable {f:List Int}
theorem RF.pr {xs:List Pt} {rs:List (Fq×Fq)} (h:RF f xs rs) {j k:Nat} (hj:j<k) (hk:k<xs.length):prOK (rs.getD j r00) (rs.getD k r00):=by
 have a:=h.fa (Nat.lt_trans hj hk)
 have b:=h.fa hk
 refine ⟨fun c=>?_,fun ⟨c1,c2,c3⟩=>?_⟩
 ·have:=(fcmp_pos a.2.p b.1.p).1 c
  have:=h.ord j k hj hk
  grind
 ·have e1:=(fcmp_zero a.2.p b.1.p).1 c1
  have e2:=(fcmp_zero a.1.p a.2.p).1 c2
  have e3:=(fcmp_zero b.1.p b.2.p).1 c3
  have i1:=h.iso j (Nat.lt_trans hj hk)
  have i2:=h.iso k hk
  have lt:=asc_get h.lst.1 hj hk
  rcases i1.2 with i1 | i1
  ·rcases i2.2 with i2 | i2
   ·rw [i1.2,i2.2] at lt
    have:=Pt.of_lt_of.1 lt
    grind
   ·grind
  ·grind
end
end Go.Proofs.YtjmglmgokfcgoaaGreat
namespace Go.Proofs.YtjmglmgokfcgoaaGreat
theorem cmpl_same {f g:List Int} (hf:PQ f) (hg:PQ g) (he:∀ x,sgp g x=0↔sgp f x=0) (hz:plen f=0↔plen g=0):Cmpl f (proots g):=by
 by_cases h0:plen g=0
 ·rw [proots_nil h0]
  exact ⟨by rw [nall_nil (hz.2 h0)];rfl,fun k hk=>absurd hk (Nat.not_lt_zero _)⟩
 ·have f0:plen f≠0:=fun e=>h0 (hz.1 e)
  obtain ⟨xs,h⟩:=rf_ex hg h0
  have h':RF f xs (proots g):=⟨h.len,h.lst.congr he,fun k hk=>by
   obtain ⟨a,b⟩:=h.iso k hk
   refine ⟨(he _).1 a,b.imp id fun ⟨c1,c2,c3,c4,c5,c6⟩=>⟨c1,fun e=>c2 ((he _).2 e),fun e=>c3 ((he _).2 e),c4,c5,fun y hy=>c6 y ((he y).2 hy)⟩⟩,h.ord,h.fq⟩
  refine ⟨by rw [h'.len,nall_roots hf f0 h'.lst],fun k hk=>⟨h'.vld hf f0 (by rw [← h'.len];exact hk),fun hk0=>h'.pr (by omega) (by rw [← h'.len];exact hk)⟩⟩
def p101:List Int:=[1,0,1]
def ptm (f:List Int):List Int:=polymul (ptrim (polymul (ptrim f) (ptrim f))) (ptrim p101)
def ptg (f:List Int) (n:Int):List Int:=ptrim (psc n (ptm f))
section
variable {f:List Int} {n:Int}
theorem ptg_ev (x:Int):ev (ptg f n) x=n*(ev f x*ev f x*ev p101 x):=by
 unfold ptg ptm
 rw [ev_trim,ev_psc,ev_mul,ev_trim,ev_mul,ev_trim,ev_trim]
theorem p101_sgp (x:Pt):sgp p101 x≠0:=qd_sgp (p:=p101) ⟨rfl,by decide,fun s h=>by
 have:(0:Int)≤(s:Int)*(s:Int):=Int.mul_nonneg (by omega) (by omega)
 rw [h] at this
 exact absurd this (by decide)⟩ (by decide) x
theorem ptg_root (hn:n≠0) (x:Pt):sgp (ptg f n) x=0↔sgp f x=0:=by
 have e:sgp (ptg f n) x=sg n*(sgp f x*sgp f x*sgp p101 x):=by
  rw [sgp_ev (r:=psc n (polymul (polymul f f) p101)) (fun t=>by rw [ptg_ev,ev_psc,ev_mul,ev_mul]),sgp_psc,sgp_mul,sgp_mul]
 rw [e]
 have h1:=sg_ne hn
 have h2:=p101_sgp x
 constructor
 ·intro h
  rcases Int.mul_eq_zero.1 h with h | h
  ·exact absurd h h1
  ·rcases Int.mul_eq_zero.1 h with h | h
   ·exact (Int.mul_eq_zero.1 h).elim id id
   ·exact absurd h h2
 ·intro h
  rw [h];simp
theorem psc_ne {p:List Int} {c:Int} (hc:c≠0):plen (psc c p)=plen p:=by
 have a1:plen (psc c p)≤plen p:=plen_le_of fun k hk=>by rw [psc_get,getD_ge_plen p k hk,Int.mul_zero]
 have a2:plen p≤plen (psc c p):=plen_le_of fun k hk=>by
  have:=getD_ge_plen (psc c p) k hk
  rw [psc_get] at this
  exact (Int.mul_eq_zero.1 this).resolve_left hc
 omega
theorem ptg_plen (hn:n≠0) (h0:plen f≠0):plen (ptg f n)=2*plen f+1:=by
 unfold ptg ptm
 have e1:plen (polymul (ptrim f) (ptrim f))=2*plen f-1:=by
  rw [(plen_mul (by rw [plen_ptrim];omega) (by rw [plen_ptrim];omega)).1,plen_ptrim];omega
 rw [plen_ptrim,psc_ne hn,(plen_mul (by rw [plen_ptrim,e1];omega) (by decide)).1,plen_ptrim,e1,show plen (ptrim p101)=3 by decide]
 omega
theorem ptg_zero (h0:plen f=0):plen (ptg f n)=0:=by
 have e:∀ x,ev (ptg f n) x=ev [] x:=fun x=>by
  rw [ptg_ev,ev_congr (p:=f) (q:=[]) (fun k=>by rw [getD_ge_plen f k (by omega)];simp) x,ev_nil]
  simp
 rw [plen_ev e];rfl
theorem ptg_iff (hn:n≠0):plen f=0↔plen (ptg f n)=0:=⟨ptg_zero,fun h=>Classical.byContradiction fun h0=>by rw [ptg_plen hn h0] at h;omega⟩
theorem ptg_bd {M:Nat} (h6:plen f≤6) (hM:∀ j,(f.getD j 0).natAbs≤M) (j:Nat):((ptg f n).getD j 0).natAbs≤n.natAbs*(11*((6*(M*M))*1)):=by
 unfold ptg ptm
 rw [ptrim_getD,psc_get,Int.natAbs_mul]
 refine Nat.mul_le_mul_left _ ?_
 have key:∀ (a b:List Int) (X Y A:Nat),plen a≤A→(∀ j,(a.getD j 0).natAbs≤X)→(∀ j,(b.getD j 0).natAbs≤Y)→∀ j,((polymul a b).getD j 0).natAbs≤A*(X*Y):=fun a b X Y A hA hX hY j=>by
  rw [ev_inj2 (p:=polymul a b) (a:=b) (b:=a) (fun x=>by rw [ev_mul,Int.mul_comm]) j]
  exact Nat.le_trans (pc_bd_len hX hY j) (Nat.mul_le_mul_right _ hA)
 have h1:∀ j,((polymul (ptrim f) (ptrim f)).getD j 0).natAbs≤6*(M*M):=key _ _ M M 6 (by rw [plen_ptrim];exact h6) (fun j=>by rw [ptrim_getD];exact hM j) (fun j=>by rw [ptrim_getD];exact hM j)
 refine key _ _ (6*(M*M)) 1 11 ?_ (fun j=>by rw [ptrim_getD];exact h1 j) (fun j=>?_) j
 ·rw [plen_ptrim]
  by_cases h0:plen f=0
  ·rw [rmul_zero (.inl (by rw [plen_ptrim];exact h0))];omega
  ·rw [(plen_mul (by rw [plen_ptrim];omega) (by rw [plen_ptrim];omega)).1,plen_ptrim];omega
 ·rw [ptrim_getD]
  have e:∀ c∈p101,c.natAbs≤1:=by decide
  rw [List.getD_eq_getElem?_getD]
  cases h:p101[j]? with
  | none=>decide
  | some c=>exact e c (List.mem_of_getElem? h)
theorem dv_psc1 (c:Int) (x:Int):∀ p:List Int,dv (psc c p) x=c*dv p x
 | []=>by show (0:Int)=c*0;omega
 | a :: t=>by
   show ev (psc c t) x+x*dv (psc c t) x=c*(ev t x+x*dv t x)
   rw [ev_psc,dv_psc1 c x t]
   grind
theorem ptg_part (hn:n≠0) (hq:QOK (ptg f n)) (h6:plen f≤6):plen (qpart (ptg f n))≤9:=by
 by_cases h0:plen f=0
 ·rw [qpart_nil (ptg_zero h0)];decide
 have hl:=ptg_plen hn h0
 have g0:plen (ptg f n)≠0:=by omega
 have Q:=q_facts hq g0
 have p0:plen (pprim (ptg f n))≠0:=by rw [gp_plen];exact g0
 have hg':IsGcd (pprim (ptg f n)) (pder (pprim (ptg f n))) (qdiv (ptg f n)):=(gres_is Q.ga).resolve_left (fun h=>p0 h.1) |>.2
 obtain ⟨c,hc⟩:∃ c,c=sg (plead (ptg f n))*(pcont (ptg f n):Int):=⟨_,rfl⟩
 have c0:c≠0:=by rw [hc];exact gp_ne g0
 have eg:∀ x,ev (ptg f n) x=c*ev (pprim (ptg f n)) x:=fun x=>by
  rw [← ev_psc]
  exact ev_congr (fun k=>by rw [psc_get,hc];exact gp_get g0 k) x
 obtain ⟨b,hb⟩:∃ b,b=psc n (polymul f p101):=⟨_,rfl⟩
 have ep:∀ x,ev (psc c (pprim (ptg f n))) x=ev f x*ev b x:=fun x=>by
  rw [ev_psc,← eg,ptg_ev,hb,ev_psc,ev_mul]
  grind
 have e2:∀ x,dv b x=n*(dv f x*ev p101 x+ev f x*dv p101 x):=fun x=>by
  rw [hb,dv_psc1,dv_mul (p:=polymul f p101) (a:=f) (b:=p101) (fun x=>ev_mul _ _ _)]
 have d1:Dvq f (pprim (ptg f n)):=⟨c,b,c0,fun x=>by rw [← ev_psc,ep,Int.mul_comm]⟩
 have d2:Dvq f (pder (pprim (ptg f n))):=⟨c,psc n (padd (psc 2 (polymul (pder f) p101)) (polymul f (pder p101))),c0,fun x=>by
  rw [pder_ev,← dv_psc1,dv_mul ep,e2,ev_psc,ev_padd,ev_psc,ev_mul,ev_mul,pder_ev,pder_ev,hb,ev_psc,ev_mul]
  grind⟩
 have d3:=dvq_plen (Dvq.comb d1 d2 hg'.c) Q.d0
 have e3:plen (pprim (ptg f n))=plen (polymul (qpart (ptg f n)) (qdiv (ptg f n))):=plen_ev fun x=>by rw [ev_mul,Q.prod]
 have q1:=Q.q0
 have q2:=Q.d0
 rw [gp_plen,(plen_mul (by omega) (by omega)).1,hl] at e3
 omega
theorem ptg_pq (hn:n≠0) (hb:n.natAbs≤32768) (h6:plen f≤6) (hM:∀ j,(f.getD j 0).natAbs≤32768):PQ (ptg f n):=by
 have h1:∀ j,((ptg f n).getD j 0).natAbs≤BB^3:=fun j=>by
  refine Nat.le_trans (ptg_bd h6 hM j) (Nat.le_trans (Nat.mul_le_mul_right _ hb) ?_)
  rw [BB_eq];decide
 have hl:plen (ptg f n)≤16:=by
  by_cases h0:plen f=0
  ·rw [ptg_zero h0];omega
  ·rw [ptg_plen hn h0];omega
 exact ⟨hl,fun j=>Nat.le_trans (h1 j) (bbk_le (by decide)),ptg_part hn ⟨hl,fun j=>Nat.le_trans (pprim_abs _ j) (Nat.le_trans (h1 j) (bbk_le (by decide)))⟩ h6⟩
end
end Go.Proofs.YtjmglmgokfcgoaaGreat
namespace Go.Proofs.YtjmglmgokfcgoaaGreat
open Go Go.RowKit
def BoolE (P:Prop) (e:Ending):Prop:=∃ v:Bool,e=.returned (.bool v)∧(v=true↔P)
theorem BoolE.yes {P:Prop} (h:P):BoolE P (.returned (.bool true)):=⟨true,rfl,⟨fun _=>h,fun _=>rfl⟩⟩
theorem BoolE.no {P:Prop} (h:¬ P):BoolE P (.returned (.bool false)):=⟨false,rfl,⟨fun h=>(by cases h),fun h2=>absurd h2 h⟩⟩
theorem BoolE.get {P:Prop} {e:Ending} (h:BoolE P e) (p:P):e=.returned (.bool true):=by
 obtain ⟨v,rfl,hv⟩:=h
 rw [hv.2 p]
theorem Vals.get {w:World} {g o:Nat} {rs:List (Fq×Fq)} (h:Vals w g o rs) {k:Nat} (hk:k<rs.length) :
 ∃ n A l c B m d n' A' l' c' B' m' d',w.cell? ⟨g,o+k*6,none⟩=some (.bool n)∧w.cell? ⟨g,o+k*6+1,none⟩=some (.slice A l c)∧w.cell? ⟨g,o+k*6+2,none⟩=some (.slice B m d)∧w.cell? ⟨g,o+k*6+3,none⟩=some (.bool n')∧w.cell? ⟨g,o+k*6+4,none⟩=some (.slice A' l' c')∧w.cell? ⟨g,o+k*6+5,none⟩=some (.slice B' m' d') ∧
   IntN w n A l c (rs.getD k r00).1.z∧NatN w B m d (rs.getD k r00).1.q∧IntN w n' A' l' c' (rs.getD k r00).2.z∧NatN w B' m' d' (rs.getD k r00).2.q:=by
 have e:rs[k]?=some (rs.getD k r00):=by rw [List.getD_eq_getElem?_getD,List.getElem?_eq_getElem hk];rfl
 obtain ⟨vs,⟨n,A,l,c,B,m,d,n',A',l',c',B',m',d',hv,h1,h2,h3,h4⟩,hc⟩:=h k _ e
 subst hv
 exact ⟨n,A,l,c,B,m,d,n',A',l',c',B',m',d',hc 0 _ rfl,hc 1 _ rfl,hc 2 _ rfl,hc 3 _ rfl,hc 4 _ rfl,hc 5 _ rfl,h1,h2,h3,h4⟩
theorem getD_fqb {rs:List (Fq×Fq)} (h:∀ r∈rs,FqB r.1∧FqB r.2) {k:Nat} (hk:k<rs.length):FqB (rs.getD k r00).1∧FqB (rs.getD k r00).2:=by
 rw [List.getD_eq_getElem?_getD,List.getElem?_eq_getElem hk]
 exact h _ (List.getElem_mem hk)
set_option maxRecDepth 100000 in
set_option maxHeartbeats 8000000 in
theorem complete_any {I:IntPred} (hI:IK I) (Af:Option Addr) (lf cf:Nat) (f:List Int) (A:Option Addr) (la ca:Nat) (rs:List (Fq×Fq)) (w:World) (hf:PolyP I w Af lf cf f) (hl:f.length≤16) (h9:PQ f) (hr:RtsAt w A la ca rs) (hfq:∀ r∈rs,FqB r.1∧FqB r.2) (hla:la≤1000) :
 Calls Tryz.prog 31 #[.slice Af lf cf,.slice A la ca] w fun e w'=>BoolE (Cmpl f rs) e∧Below w.heap.size w w':=by
 have hlf:lf≤16:=by have:=hf.length;omega
 have hrl:=hr.length
 have HF:=Lib.hid hf
 have HRs:=Lib.hid hr
 have Hfq:=Lib.hid hfq
 clear hf hr hfq
 go_enter Tryz.func31,Tryz.ntmps31
 go_wp2_with fail
 refine (all_q hI _ _ _ f _ HF.out h9 (by omega)).mono ?_
 rintro e w1 ⟨rfl,hb1⟩
 obtain ⟨NA,hNA⟩:∃ N,N=nall f:=⟨_,rfl⟩
 rw [← hNA]
 have HNA:=Lib.hid hNA
 replace HF:=Lib.hid (HF.out.below hI hb1)
 replace HRs:=Lib.hid (HRs.out.below hb1)
 have Hb:=Lib.hid hb1
 clear hb1 hNA
 by_cases hn:(la:Int)=NA
 ·have b1:((la:Int) != NA)=false:=by rw [hn];simp
  have Hn:=Lib.hid hn
  have Hrl:=Lib.hid hrl
  clear hn hrl
  go_wp2_with fail
  obtain ⟨wo,hwo⟩:∃ wo,wo=w1:=⟨_,rfl⟩
  rw [← hwo] at HF HRs Hb ⊢
  clear hwo
  go_loopw [16] (fun s16 wr=>∃ k:Nat,k≤la∧s16=.int .i64 (k:Int)∧(∀ i,i<k→stOK f rs i)∧Below wo.heap.size wo wr) (fun s16 _=>la-(intOf s16).toNat)
  case atStart=>exact ⟨0,Nat.zero_le _,rfl,fun i hi=>absurd hi (Nat.not_lt_zero _),Bel.go⟩
  case round =>
   obtain ⟨k,hk,rfl,hst,hbw⟩:=hrel
   have Hst:=Lib.hid hst
   have HFr:=Lib.hid (HF.out.below hI hbw)
   have HRr:=Lib.hid (HRs.out.below hbw)
   have Hbw:=Lib.hid hbw
   clear hst
   by_cases hlt:k<la
   ·have Hkl:=Lib.hid hlt
    obtain ⟨b,o,rfl,hb0,hv⟩:∃ b o,A=some ⟨b,o,none⟩∧b<wr.heap.size∧Vals wr b o rs:=by
     rcases HRr.out.elems with ⟨h0,_⟩ | h
     ·omega
     ·exact h
    obtain ⟨n,A1,l1,c1,B1,m1,d1,n',A2,l2,c2,B2,m2,d2,e0,e1,e2,e3,e4,e5,z1,z2,z3,z4⟩:=hv.get (k:=k) (by rw [Hrl.out];exact hlt)
    obtain ⟨fa,fb⟩:=getD_fqb Hfq.out (k:=k) (by rw [Hrl.out];exact hlt)
    obtain ⟨r,hr⟩:∃ r,r=rs.getD k r00:=⟨_,rfl⟩
    rw [← hr] at z1 z2 z3 z4 fa fb
    have Hr:=Lib.hid hr
    have ka:(k:Int)<(la:Int):=by omega
    have p1:=fa.p
    have p2:=fb.p
    have T:=Lib.hid (TBox.make z1 z2 z3 z4)
    have jb:=below_new wr (tbox n A1 l1 c1 B1 m1 d1 n' A2 l2 c2 B2 m2 d2)
    replace HFr:=Lib.hid (HFr.out.below hI jb)
    have Hbx:=Lib.hid (Hbw.out.trans (jb.mono Hbw.out.size))
    have Hjb:=Lib.hid jb
    have x0:=T.out.r.c0
    have x1:=T.out.r.c1
    have x2:=T.out.r.c2
    have x3:=T.out.c3
    have x4:=T.out.c4
    have x5:=T.out.c5
    clear z1 z2 z3 z4 hv hr hk hlt
    go_wp2_with fail
    obtain ⟨V,hV⟩:∃ V,V=vld 2 f r.1 r.2:=⟨_,rfl⟩
    refine (valid_any hI _ _ _ f r.1 r.2 _ _ _ _ _ _ _ _ _ _ _ _ _ _ _ HFr.out (by omega) h9 T.out.r.hz T.out.r.hq T.out.hz T.out.hq fa fb).mono ?_
    rintro e w3 ⟨he,hb3⟩
    have he2:e=.returned (.bool V):=by rw [hV];exact he
    subst he2
    have HV:=Lib.hid hV
    replace HFr:=Lib.hid (HFr.out.below hI hb3)
    replace HRr:=Lib.hid (HRr.out.below (jb.trans (hb3.mono jb.size)))
    replace T:=Lib.hid (T.out.move hb3)
    replace Hbx:=Lib.hid (Hbx.out.trans (hb3.mono Hbx.out.size))
    clear hb3 he hV x0 x1 x2 x3 x4 x5 jb e0 e1 e2 e3 e4 e5
    cases V with
    | false =>
      have FIN:=Lib.hid (show ¬ Cmpl f rs from fun h=>by
       have h1:=(h.2 k (by rw [Hrl.out];exact Hkl.out)).1
       rw [← Hr.out,← HV.out] at h1
       cases h1)
      go_wp2_with fail
      go_ret
      exact ⟨.no FIN.out,Hb.out.trans (Hbx.out.mono Hb.out.size)⟩
    | true =>
      by_cases hk0:k=0
      ·subst hk0
       have b2:((0:Int) == 0)=true:=rfl
       have ST:=Lib.hid (show stOK f rs 0 from ⟨by rw [← Hr.out];exact HV.out.symm,fun h=>absurd h (Nat.lt_irrefl _)⟩)
       go_wp2_with fail
       go_roundw
       case rel=>exact ⟨1,Hkl.out,rfl,fun i hi=>(by obtain rfl:i=0:=(by omega);exact ST.out),Hbx.out⟩
       case measure=>have:=Hkl.out;simp [intOf];omega
      ·obtain ⟨j,hj⟩:∃ j,k=j+1:=⟨k-1,by omega⟩
       have b2:((k:Int) == 0)=false:=by rw [beq_eq_false_iff_ne];omega
       have e1:(k:Int)-1=(j:Int):=by omega
       have i1:IntKind.i64.wrap (j:Int)=(j:Int):=IntWalk.i64_in _ (by have:=Hkl.out;omega)
       have w1:IntKind.i64.wrap ((k:Int)+1)=(k:Int)+1:=IntWalk.i64_in _ (by have:=Hkl.out;omega)
       have ja:(j:Int)<(la:Int):=by omega
       obtain ⟨hbl,hv3⟩:b<w3.heap.size∧Vals w3 b o rs:=by
        rcases HRr.out.elems with ⟨_,h0,_⟩ | ⟨b',o',h1,h2,h3⟩
        ·cases h0
        ·cases h1;exact ⟨h2,h3⟩
       have hjl:j<rs.length:=by rw [Hrl.out];have:=Hkl.out;omega
       obtain ⟨n3,A3,l3,c3,B3,m3,d3,n4,A4,l4,c4,B4,m4,d4,e0,e1',e2,e3,e4,e5,z1,z2,z3,z4⟩:=hv3.get hjl
       obtain ⟨fp1,fp2⟩:=getD_fqb Hfq.out hjl
       obtain ⟨p,hp⟩:∃ p,p=rs.getD j r00:=⟨_,rfl⟩
       rw [← hp] at z1 z2 z3 z4 fp1 fp2
       have ST:=Lib.hid (show prOK p r→stOK f rs k from fun h=>⟨by rw [← Hr.out];exact HV.out.symm,fun _=>by rw [show k-1=j by omega,← hp,← Hr.out];exact h⟩)
       have NO:=Lib.hid (show ¬ prOK p r→¬ Cmpl f rs from fun h h2=>h (by
        have h3:=(h2.2 k (by rw [Hrl.out];exact Hkl.out)).2 (by omega)
        rw [show k-1=j by omega,← hp,← Hr.out] at h3
        exact h3))
       have q1:=fp1.p
       have q2:=fp2.p
       have S:=Lib.hid (TBox.make z1 z2 z3 z4)
       have jb:=below_new w3 (tbox n3 A3 l3 c3 B3 m3 d3 n4 A4 l4 c4 B4 m4 d4)
       replace T:=Lib.hid (T.out.move jb)
       replace HFr:=Lib.hid (HFr.out.below hI jb)
       replace HRr:=Lib.hid (HRr.out.below jb)
       replace Hbx:=Lib.hid (Hbx.out.trans (jb.mono Hbx.out.size))
       have x0:=T.out.r.c0;have x1:=T.out.r.c1;have x2:=T.out.r.c2;have y3:=S.out.c3;have y4:=S.out.c4;have y5:=S.out.c5
       clear z1 z2 z3 z4 hv3 hp jb hj hk0 hbl hjl
       go_wp2_with fail
       refine (rcmp_any _ _ _ _ _ _ _ _ _ _ _ _ _ _ _ _ _ _ _ S.out.hz.at_ S.out.hq.at_ T.out.r.hz.at_ T.out.r.hq.at_ (by omega) (by omega) fp2.fz fp2.fq fa.fz fa.fq).mono ?_
       rintro e w5 ⟨rfl,hb5⟩
       obtain ⟨C1,hC1⟩:∃ C,C=cmpz (p.2.z*(r.1.q:Int)) (r.1.z*(p.2.q:Int)):=⟨_,rfl⟩
       rw [← hC1]
       have HC1:=Lib.hid (show C1=fcmp p.2 r.1 from hC1)
       replace T:=Lib.hid (T.out.move hb5)
       replace S:=Lib.hid (S.out.move hb5)
       replace HFr:=Lib.hid (HFr.out.below hI hb5)
       replace HRr:=Lib.hid (HRr.out.below hb5)
       replace Hbx:=Lib.hid (Hbx.out.trans (hb5.mono Hbx.out.size))
       clear hC1 hb5 x0 x1 x2 y3 y4 y5 e0 e1' e2 e3 e4 e5
       by_cases g1:0<C1
       ·have b3:decide (0<C1)=true:=decide_eq_true g1
        have FIN:=Lib.hid (NO.out fun h=>h.1 (by rw [← HC1.out];exact g1))
        clear g1
        go_wp2_with fail
        go_ret
        exact ⟨.no FIN.out,Hb.out.trans (Hbx.out.mono Hb.out.size)⟩
       have b3:decide (0<C1)=false:=decide_eq_false g1
       have G1:=Lib.hid g1
       clear g1
       by_cases g2:C1=0
       ·have b4:(C1 == 0)=true:=by rw [g2];rfl
        have G2:=Lib.hid g2
        clear g2
        have x0:=S.out.r.c0;have x1:=S.out.r.c1;have x2:=S.out.r.c2;have x3:=S.out.c3;have x4:=S.out.c4;have x5:=S.out.c5
        go_wp2_with fail
        refine (rcmp_any _ _ _ _ _ _ _ _ _ _ _ _ _ _ _ _ _ _ _ S.out.r.hz.at_ S.out.r.hq.at_ S.out.hz.at_ S.out.hq.at_ (by omega) (by omega) fp1.fz fp1.fq fp2.fz fp2.fq).mono ?_
        rintro e w6 ⟨rfl,hb5⟩
        obtain ⟨C2,hC2⟩:∃ C,C=cmpz (p.1.z*(p.2.q:Int)) (p.2.z*(p.1.q:Int)):=⟨_,rfl⟩
        rw [← hC2]
        have HC2:=Lib.hid (show C2=fcmp p.1 p.2 from hC2)
        replace T:=Lib.hid (T.out.move hb5)
        replace HFr:=Lib.hid (HFr.out.below hI hb5)
        replace HRr:=Lib.hid (HRr.out.below hb5)
        replace Hbx:=Lib.hid (Hbx.out.trans (hb5.mono Hbx.out.size))
        clear hC2 hb5 x0 x1 x2 x3 x4 x5 S
        by_cases g3:C2=0
        ·have b5:(C2 == 0)=true:=by rw [g3];rfl
         have G3:=Lib.hid g3
         clear g3
         have x0:=T.out.r.c0;have x1:=T.out.r.c1;have x2:=T.out.r.c2;have x3:=T.out.c3;have x4:=T.out.c4;have x5:=T.out.c5
         go_wp2_with fail
         refine (rcmp_any _ _ _ _ _ _ _ _ _ _ _ _ _ _ _ _ _ _ _ T.out.r.hz.at_ T.out.r.hq.at_ T.out.hz.at_ T.out.hq.at_ (by omega) (by omega) fa.fz fa.fq fb.fz fb.fq).mono ?_
         rintro e w7 ⟨rfl,hb5⟩
         obtain ⟨C3,hC3⟩:∃ C,C=cmpz (r.1.z*(r.2.q:Int)) (r.2.z*(r.1.q:Int)):=⟨_,rfl⟩
         rw [← hC3]
         have HC3:=Lib.hid (show C3=fcmp r.1 r.2 from hC3)
         replace Hbx:=Lib.hid (Hbx.out.trans (hb5.mono Hbx.out.size))
         clear hC3 hb5 x0 x1 x2 x3 x4 x5 T HFr HRr
         by_cases g4:C3=0
         ·have b6:(C3 == 0)=true:=by rw [g4];rfl
          have FIN:=Lib.hid (NO.out fun h=>h.2 ⟨by rw [← HC1.out];exact G2.out,by rw [← HC2.out];exact G3.out,by rw [← HC3.out];exact g4⟩)
          clear g4
          go_wp2_with fail
          go_ret
          exact ⟨.no FIN.out,Hb.out.trans (Hbx.out.mono Hb.out.size)⟩
         ·have b6:(C3 == 0)=false:=by rw [beq_eq_false_iff_ne];exact g4
          have FIN:=Lib.hid (ST.out ⟨by rw [← HC1.out];have:=G1.out;omega,fun h=>g4 (by rw [HC3.out];exact h.2.2)⟩)
          clear g4
          go_wp2_with fail
          go_roundw;(case rel=>exact ⟨k+1,Hkl.out,by go_num,fun i hi=>(by by_cases hi2:i<k;exact Hst.out i hi2;obtain rfl:i=k:=(by omega);exact FIN.out),Hbx.out⟩);(case measure=>have:=Hkl.out;simp [intOf];omega)
        ·have b5:(C2 == 0)=false:=by rw [beq_eq_false_iff_ne];exact g3
         have FIN:=Lib.hid (ST.out ⟨by rw [← HC1.out];have:=G1.out;omega,fun h=>g3 (by rw [HC2.out];exact h.2.1)⟩)
         clear g3
         go_wp2_with fail
         go_roundw;(case rel=>exact ⟨k+1,Hkl.out,by go_num,fun i hi=>(by by_cases hi2:i<k;exact Hst.out i hi2;obtain rfl:i=k:=(by omega);exact FIN.out),Hbx.out⟩);(case measure=>have:=Hkl.out;simp [intOf];omega)
       ·have b4:(C1 == 0)=false:=by rw [beq_eq_false_iff_ne];exact g2
        have FIN:=Lib.hid (ST.out ⟨by rw [← HC1.out];have:=G1.out;omega,fun h=>g2 (by rw [HC1.out];exact h.1)⟩)
        clear g2
        go_wp2_with fail
        go_roundw;(case rel=>exact ⟨k+1,Hkl.out,by go_num,fun i hi=>(by by_cases hi2:i<k;exact Hst.out i hi2;obtain rfl:i=k:=(by omega);exact FIN.out),Hbx.out⟩);(case measure=>have:=Hkl.out;simp [intOf];omega)
   ·have t1:¬ (k:Int)<(la:Int):=by omega
    have hk2:k=la:=by omega
    subst hk2
    have FIN:=Lib.hid (show Cmpl f rs from ⟨by rw [Hrl.out,Hn.out,HNA.out],fun i hi=>Hst.out i (by rw [← Hrl.out];exact hi)⟩)
    clear hlt
    go_wp2_with fail
    go_ret
    exact ⟨.yes FIN.out,Hb.out.trans (Hbw.out.mono Hb.out.size)⟩
 ·have b1:((la:Int) != NA)=true:=by simpa using hn
  have FIN:=Lib.hid (show ¬ Cmpl f rs from fun h=>hn (by rw [← hrl,HNA.out];exact h.1))
  clear hn hrl
  go_wp2_with fail
  go_ret
  exact ⟨.no FIN.out,Hb.out⟩
end Go.Proofs.YtjmglmgokfcgoaaGreat
namespace Go.Proofs.YtjmglmgokfcgoaaGreat
open Go Go.RowKit
theorem w2_atI (w:World):I64At (w.alloc (.cells #[.int .i64 (-2),.int .i64 0,.int .i64 1] 2)) (some ⟨w.heap.size,0,none⟩) 3 3 w2:=by
 refine ⟨rfl,by omega,.inr ⟨w.heap.size,0,rfl,by simp,fun j hj=>?_⟩⟩
 match j,hj with
 | 0,_=>simp [w2]
 | 1,_=>simp [w2]
 | 2,_=>simp [w2]
theorem w2_trimI:ptrim w2=w2:=by decide
set_option maxHeartbeats 1000000 in
theorem awake16_any (w:World) :
 Calls Tryz.prog 21 #[] w fun e w'=>e=.returned (.bool true)∧Below w.heap.size w w':=by
 have jb:=below_new w (.cells #[.int .i64 (-2),.int .i64 0,.int .i64 1] 2)
 have hat:=w2_atI w
 have Hb:=Lib.hid jb
 clear jb
 go_enter Tryz.func21,Tryz.ntmps21
 go_wp2_with fail
 refine (pof_any _ _ _ _ _ hat (by intro c hc;simp [w2] at hc;rcases hc with rfl | rfl | rfl<;>(unfold I64;omega)) (by omega)).mono ?_
 rintro e w1 ⟨A1,l1,c1,rfl,h1,hb1⟩
 rw [show ptrim w2=w2 from w2_trimI] at h1
 have hl1:l1≤3:=by have:=h1.length;have e:w2.length=3:=rfl;omega
 replace Hb:=Lib.hid (Hb.out.trans (hb1.mono Hb.out.size))
 have h9:=p9_w2
 clear hb1 hat
 go_wp2_with fail
 refine (roots_any ikN _ _ _ w2 _ h1 h9.cp.fit.smp (fun _=>h9.q) (fun h=>SqF.of9 h9 h) (by omega)).mono ?_
 rintro e w2' ⟨⟨A2,l2,c2,rfl,h2⟩,hb2⟩
 obtain rfl:l2=2:=by rw [← h2.length];exact proots_w2
 replace Hb:=Lib.hid (Hb.out.trans (hb2.mono Hb.out.size))
 clear hb2 h1 h2
 go_wp2
 go_ret
 exact ⟨rfl,Hb.out⟩
end Go.Proofs.YtjmglmgokfcgoaaGreat
namespace Go.Proofs.YtjmglmgokfcgoaaGreat
open Go Go.RowKit
theorem p101_at (w:World):I64At (w.alloc (.cells #[.int .i64 1,.int .i64 0,.int .i64 1] 2)) (some ⟨w.heap.size,0,none⟩) 3 3 p101:=by
 refine ⟨rfl,by omega,.inr ⟨w.heap.size,0,rfl,by simp,fun j hj=>?_⟩⟩
 match j,hj with
 | 0,_=>simp [p101]
 | 1,_=>simp [p101]
 | 2,_=>simp [p101]
theorem mul_fit {a b:List Int} {X Y k A:Nat} (hA:plen a≤A) (hX:∀ j,(a.getD j 0).natAbs≤X) (hY:∀ j,(b.getD j 0).natAbs≤Y) (h:A*(X*Y)≤BB^k) (hk:k<100):FitP (polymul a b):=fun j=>by
 refine Nat.lt_of_le_of_lt (m:=BB^k) ?_ (Nat.pow_lt_pow_right (by rw [BB_eq];decide) (by rw [FW_eq];omega))
 rw [ev_inj2 (p:=polymul a b) (a:=b) (b:=a) (fun x=>by rw [ev_mul,Int.mul_comm]) j]
 exact Nat.le_trans (Nat.le_trans (pc_bd_len hX hY j) (Nat.mul_le_mul_right _ hA)) h
theorem pmul_len_le (f g:List Int):(polymul f g).length≤f.length+g.length:=by
 unfold polymul
 split
 ·exact Nat.zero_le _
 ·rw [pmul_length];omega
theorem p101_abs (j:Nat):(p101.getD j 0).natAbs≤1:=by
 have e:∀ c∈p101,c.natAbs≤1:=by decide
 rw [List.getD_eq_getElem?_getD]
 cases h:p101[j]? with
 | none=>decide
 | some c=>exact e c (List.mem_of_getElem? h)
theorem p101_fit:FitP p101:=fun j=>Nat.lt_of_le_of_lt (Nat.le_trans (p101_abs j) (show 1≤BB^1 by rw [Nat.pow_one,BB_eq];decide)) (Nat.pow_lt_pow_right (by rw [BB_eq];decide) (by rw [FW_eq];decide))
theorem ptm_bd {f:List Int} (h6:plen f≤6) (hM:∀ j,(f.getD j 0).natAbs≤32768) (j:Nat):((ptm f).getD j 0).natAbs≤BB^2:=by
 have h:=ptg_bd (n:=1) h6 hM j
 unfold ptg at h
 rw [ptrim_getD,psc_get,Int.one_mul] at h
 refine Nat.le_trans h ?_
 rw [BB_eq];decide
theorem bb_fit {p:List Int} {k:Nat} (h:∀ j,(p.getD j 0).natAbs≤BB^k) (hk:k<100):FitP p:=fun j=>Nat.lt_of_le_of_lt (h j) (Nat.pow_lt_pow_right (by rw [BB_eq];decide) (by rw [FW_eq];omega))
set_option maxRecDepth 100000 in
set_option maxHeartbeats 8000000 in
theorem law_parts (A:Option Addr) (la ca:Nat) (cs:List Int) (n:Int) (w:World) (h:I16At w A la ca cs) (hlm:la≤9223372036854775807) (hn:-32768≤n∧n≤32767) :
 Calls Tryz.prog 5 #[.slice A la ca,.int .i16 n] w fun e w'=>e=.returned (.bool true)∧Below w.heap.size w w':=by
 have Hi:=Lib.hid h
 have F9:P9 (ptrim (cs.take 6)):=short_p9 h (by omega)
 obtain ⟨pF,lF,tF,bF⟩:=short_bd h 6
 obtain ⟨F,hF⟩:∃ F,F=ptrim (cs.take 6):=⟨_,rfl⟩
 rw [← hF] at F9 pF lF tF bF
 have HFe:=Lib.hid hF.symm
 clear h hF
 go_enter Tryz.func5,Tryz.ntmps5
 go_wp2_with fail
 refine (awake16_any _).mono ?_
 rintro e w1 ⟨rfl,hb1⟩
 replace Hi:=Lib.hid (Hi.out.below hb1)
 have Hb:=Lib.hid hb1
 clear hb1
 by_cases n0:n=0
 ·have bn:(n == 0)=true:=by rw [beq_iff_eq];exact n0
  clear n0
  go_wp2_with fail
  refine (awake16_any _).mono ?_
  rintro e w2 ⟨rfl,hb2⟩
  replace Hb:=Lib.hid (Hb.out.trans (hb2.mono Hb.out.size))
  clear hb2
  go_wp2
  go_ret
  exact ⟨rfl,Hb.out⟩
 have bn:(n == 0)=false:=by rw [beq_eq_false_iff_ne];exact n0
 have N0:=Lib.hid n0
 clear n0
 go_wp2_with fail
 refine (short_any _ _ _ 6 _ _ Hi.out (by omega) hlm).mono ?_
 rintro e w2 ⟨Af,lf,cf,rfl,h2f,hb2⟩
 rw [HFe.out] at h2f
 have hlf:lf≤6:=by have:=h2f.length;omega
 have HP:=Lib.hid h2f
 replace Hb:=Lib.hid (Hb.out.trans (hb2.mono Hb.out.size))
 have fF:FitP F:=F9.cp.fit
 have f1:FitP (polymul (ptrim F) (ptrim F)):=mul_fit (k:=2) (X:=32768) (Y:=32768) (A:=6) (by rw [plen_ptrim];exact pF) (fun j=>by rw [ptrim_getD];exact bF j) (fun j=>by rw [ptrim_getD];exact bF j) (by rw [BB_eq];decide) (by decide)
 have PG:=Lib.hid (ptg_pq (f:=F) N0.out (by omega) pF bF)
 have PL:=Lib.hid (show (ptg F n).length≤16 by unfold ptg;rw [ptrim_length,← plen_ptrim];exact PG.out.len)
 obtain ⟨M1,hM1⟩:∃ M,M=polymul (ptrim F) (ptrim F):=⟨_,rfl⟩
 have hM1l:M1.length≤12:=by rw [hM1];have:=pmul_len_le (ptrim F) (ptrim F);rw [tF] at this ⊢;omega
 rw [← hM1] at f1
 have HM1:=Lib.hid hM1
 clear hb2 h2f Hi hM1
 go_wp2_with fail
 refine (polymul_any ikN ikN _ _ _ F _ _ _ F _ HP.out HP.out fF fF (by omega) (by omega)).mono ?_
 rintro e w3 ⟨A3,l3,c3,rfl,h3,hb3⟩
 rw [← HM1.out] at h3
 have hb03:=below_new w3 (.cells #[.int .i64 1,.int .i64 0,.int .i64 1] 2)
 replace HP:=Lib.hid ((HP.out.below ikN hb3).below ikN hb03)
 have H3:=Lib.hid (h3.below ikN hb03)
 have hl3:l3≤12:=by rw [← h3.length];exact hM1l
 replace Hb:=Lib.hid ((Hb.out.trans (hb3.mono Hb.out.size)).trans (hb03.mono (Hb.out.trans (hb3.mono Hb.out.size)).size))
 clear hb3 h3 hb03 hM1l
 go_wp2_with fail
 refine (pof_any _ _ _ p101 _ (p101_at w3) (by intro c hc;simp [p101] at hc;rcases hc with rfl | rfl | rfl<;>(unfold I64;omega)) (by omega)).mono ?_
 rintro e w4 ⟨A4,l4,c4,rfl,h4,hb4⟩
 have t101:ptrim p101=p101:=by decide
 rw [t101] at h4
 have hl4:l4≤3:=by rw [← h4.length];decide
 replace HP:=Lib.hid (HP.out.below ikN hb4)
 replace H3:=Lib.hid (H3.out.below ikN hb4)
 have H4:=Lib.hid h4
 replace Hb:=Lib.hid (Hb.out.trans (hb4.mono Hb.out.size))
 have f101:=p101_fit
 clear hb4 h4
 go_wp2_with fail
 refine (polymul_any ikN ikN _ _ _ M1 _ _ _ p101 _ H3.out H4.out f1 f101 (by omega) (by omega)).mono ?_
 rintro e w5 ⟨A5,l5,c5,rfl,h5,hb5⟩
 have hM2:polymul (ptrim M1) (ptrim p101)=ptm F:=by rw [HM1.out];rfl
 have hM2l:(polymul (ptrim M1) (ptrim p101)).length≤15:=by
  have h1:=pmul_len_le (ptrim M1) (ptrim p101)
  rw [ptrim_length,ptrim_length] at h1
  have h2:=plen_le M1
  have h3:=plen_le p101
  have h4:p101.length=3:=rfl
  have h6:M1.length≤12:=by have:=H3.out.length;omega
  omega
 rw [hM2] at h5 hM2l
 have hl5:l5≤15:=by rw [← h5.length];exact hM2l
 replace HP:=Lib.hid (HP.out.below ikN hb5)
 have H5:=Lib.hid h5
 replace Hb:=Lib.hid (Hb.out.trans (hb5.mono Hb.out.size))
 have fM:=bb_fit (ptm_bd pF bF) (by decide)
 have fG:FitP (psc n (ptm F)):=bb_fit (k:=3) (fun j=>by
  rw [psc_get,Int.natAbs_mul,Nat.pow_succ,Nat.mul_comm]
  exact Nat.mul_le_mul (ptm_bd pF bF j) (by rw [BB_eq];omega)) (by decide)
 have i64n:I64 n:=by unfold I64;omega
 have wn:IntKind.i64.wrap n=n:=IntWalk.i64_in _ (by omega)
 clear hb5 h5 hM2 hM2l H3 H4 f1 f101 t101 hl3 hl4 HM1
 go_wp2_with fail
 refine (iof_any n _ i64n).mono ?_
 rintro e w6 ⟨n6,A6,l6,c6,rfl,h6,hb6⟩
 replace HP:=Lib.hid (HP.out.below ikN hb6)
 replace H5:=Lib.hid (H5.out.below ikN hb6)
 have H6:=Lib.hid h6
 replace Hb:=Lib.hid (Hb.out.trans (hb6.mono Hb.out.size))
 have sn:SmI n:=SmI.of64 i64n
 clear hb6 h6
 go_wp2_with fail
 refine (scale_any ikN _ _ _ (ptm F) _ _ _ _ n _ H5.out H6.out fM.smp sn (fun _=>trivial) fG.smp (by omega)).mono ?_
 rintro e w7 ⟨A7,l7,c7,rfl,h7,hb7⟩
 obtain ⟨G,hG⟩:∃ G,G=ptg F n:=⟨_,rfl⟩
 have h7':PolyN w7 A7 l7 c7 G:=by rw [hG];exact h7
 rw [← hG] at PG PL
 have C1:=Lib.hid (show Cmpl G (proots F) by rw [hG];rw [hG] at PG;exact cmpl_same PG.out F9 (fun x=>(ptg_root N0.out x).symm) (ptg_iff N0.out).symm)
 have C2:=Lib.hid (show Cmpl F (proots G) by rw [hG];rw [hG] at PG;exact cmpl_same F9 PG.out (fun x=>ptg_root N0.out x) (ptg_iff N0.out))
 have hl7:l7≤16:=by rw [← h7'.length];exact PL.out
 have HG:=Lib.hid h7'
 replace HP:=Lib.hid (HP.out.below ikN hb7)
 replace Hb:=Lib.hid (Hb.out.trans (hb7.mono Hb.out.size))
 clear hb7 h7 h7' hG H5 H6 fM fG sn
 go_wp2_with fail
 refine (roots_any ikN _ _ _ F _ HP.out F9.cp.fit.smp (fun _=>F9.q) (fun h=>SqF.of9 F9.pq h) (by omega)).mono ?_
 rintro e w8 ⟨⟨A8,l8,c8,rfl,h8⟩,hb8⟩
 have hl8:l8≤9:=by rw [← h8.length];exact proots_le9 F9.pq
 have FQ:=Lib.hid (proots_fqb F9.pq)
 replace HP:=Lib.hid (HP.out.below ikN hb8)
 replace HG:=Lib.hid (HG.out.below ikN hb8)
 replace Hb:=Lib.hid (Hb.out.trans (hb8.mono Hb.out.size))
 have HR:=Lib.hid h8
 clear hb8 h8
 go_wp2_with fail
 refine (complete_any ikN _ _ _ G _ _ _ (proots F) _ HG.out PL.out PG.out HR.out FQ.out (by omega)).mono ?_
 rintro e w9 ⟨he,hb9⟩
 have he2:=he.get C1.out
 subst he2
 replace HP:=Lib.hid (HP.out.below ikN hb9)
 replace HG:=Lib.hid (HG.out.below ikN hb9)
 replace Hb:=Lib.hid (Hb.out.trans (hb9.mono Hb.out.size))
 clear hb9 he HR FQ
 go_wp2_with fail
 refine (roots_any ikN _ _ _ G _ HG.out PG.out.fit.smp (fun _=>PG.out.q) (fun h=>SqF.of9 PG.out h) (by omega)).mono ?_
 rintro e w10 ⟨⟨A10,l10,c10,rfl,h10⟩,hb10⟩
 have hl10:l10≤9:=by rw [← h10.length];exact proots_le9 PG.out
 have FQ:=Lib.hid (proots_fqb PG.out)
 replace HP:=Lib.hid (HP.out.below ikN hb10)
 replace Hb:=Lib.hid (Hb.out.trans (hb10.mono Hb.out.size))
 have HR:=Lib.hid h10
 clear hb10 h10
 go_wp2_with fail
 refine (complete_any ikN _ _ _ F _ _ _ (proots G) _ HP.out (by omega) F9 HR.out FQ.out (by omega)).mono ?_
 rintro e w11 ⟨he,hb11⟩
 have he2:=he.get C2.out
 subst he2
 replace Hb:=Lib.hid (Hb.out.trans (hb11.mono Hb.out.size))
 clear hb11 he
 go_wp2
 go_ret
 exact ⟨rfl,Hb.out⟩
end Go.Proofs.YtjmglmgokfcgoaaGreat
namespace Go.Proofs.YtjmglmgokfcgoaaGreat
open Go.ChangeShapes Go.WideShapes Go.ChangeAt Go.RowKit
set_option maxRecDepth 100000 in
theorem parts_lifted (os:Os) (started:os.Started) (H:Type) (enc:TypeId×Value→H) :
 ReturnsInHanded {} Tryz.checked os 5 .any (Rows.isolatePartsSpec.pre6 enc Tryz.prog Tryz.f5 Rows.isolatePartsRow.domain false) (Rows.isolatePartsSpec.post enc Tryz.prog Tryz.f5 false true false false):=by
 refine returnsInHanded_of_change (C:=Tryz.checked) Tryz.own started (by kernel_rfl) Tryz.func5
  (ChangeSpec.witness6 (enc:=enc) (C:=Tryz.checked) false ⟨#[],#[.slice none 0 0,.int .i16 0],[]⟩ 8 (by kernel_rfl) (by kernel_rfl) (by kernel_rfl) (by kernel_rfl)) ?_
 intro W base args ds gs before hval0 hW hcnd _
 exact lifted_s16n _ Tryz.f5 Tryz.params5 rfl enc _ rfl (fun _ _=>rfl) (fun A la ca p n w h1 hl hn=>law_parts A la ca p n w h1 hl hn) W args ds gs before hval0 hW
theorem isolateParts_holds:Rows.IsolatePartsSaid :=
 OpenClaim.holds_of_wide 5 Tryz.f5 rfl rfl rfl rfl rfl rfl rfl ⟨rfl,rfl,rfl,rfl,rfl⟩ rfl rfl rfl rfl rfl (by kernel_rfl) Tryz.func5 (by kernel_rfl)
  (of_decide_eq_true (by kernel_rfl)) (by unfold Func.isWrapper;first | (rw [if_pos (by decide +kernel)];kernel_rfl) | (rw [if_neg (by decide +kernel)];exact ⟨rfl,rfl⟩))
  (fun os started H enc _=>parts_lifted os started H enc)
#print axioms isolateParts_holds
end Go.Proofs.YtjmglmgokfcgoaaGreat
