/- The walks of squarefree.Part, sturm.All and sturm.Count at polynomials that are not too large. -/
import Derived.Test.YtkefcldcfeolbaaGreatRpg
import Derived.Test.YtkefcldcfeolbaaGreatChc
import Derived.Test.YtkefcldcfeolbaaGreatStg
import Derived.Test.YtkefcldcfeolbaaGreatExq
import Derived.Test.YtkefcldcfeolbaaGreatGcx
import Derived.Test.YtkefcldcfeolbaaGreatPart
import Derived.Test.YtkefcldcfeolbaaGreatLes
namespace Go.Proofs.YtkefcldcfeolbaaGreat
open Go.RowKit
theorem atu (S:List Int) (hS:∀ s∈S,s=-1∨s=0∨s=1):∀ n k,k+n=S.length->((vst S k).1:Int)+chg (vst S k).2 (S.drop k)=chg (vst S (k+n)).2 (S.drop (k+n))+(vst S (k+n)).1:=by
 intro n
 induction n with
 | zero=>intro k _;rw[Nat.add_zero];omega
 | succ n ih =>
   intro k hk
   have h1:=ih (k+1) (by omega)
   rw[show k+(n+1)=k+1+n by omega,<- h1]
   have hlt:k<S.length:=by omega
   rw[List.drop_eq_getElem_cons hlt]
   have hg:S.getD k 0=S[k]:=by rw[List.getD_eq_getElem?_getD,List.getElem?_eq_getElem hlt];rfl
   have hs:=hS _ (List.getElem_mem hlt)
   have hsg:sg S[k]=S[k]:=by rcases hs with h | h | h<;>rw[h]<;>rfl
   rw[show vst S (k+1)=if sg (S.getD k 0)=0 then vst S k else (if sg (S.getD k 0)=-(vst S k).2 then (vst S k).1+1 else (vst S k).1,sg (S.getD k 0)) from rfl,hg,hsg]
   generalize S[k]=s at *
   by_cases h0:s=0
   ·rw[if_pos h0,h0,ai7]
   ·rw[if_neg h0]
    conv=>lhs;rw[chg,if_neg h0]
    by_cases h2:s=-(vst S k).2
    ·rw[if_pos h2,if_pos h2]
     push_cast
     omega
    ·rw[if_neg h2,if_neg h2]
theorem apc (S:List Int) (hS:∀ s∈S,s=-1∨s=0∨s=1):((vst S S.length).1:Int)=chg 0 S:=by
 have h:=atu S hS S.length 0 (by omega)
 rw[Nat.zero_add,List.drop_length] at h
 have e1:chg (vst S S.length).2 []=0:=rfl
 have e2:vst S 0=(0,0):=rfl
 rw[e1,e2,List.drop_zero] at h
 simp only at h
 omega
theorem avr (m:Bool) (f:List Int):sge m f=sgE m f:=by
 unfold sge sgE
 rcases Nat.eq_zero_or_pos (aad f) with h0 | h0
 ·have e:aai f=0:=aaj f _ (by omega)
  rw[e]
  cases m<;>simp[sg]
 ·cases m with
  | false=>simp
  | true =>
    simp only[true_and,if_true]
    have e:((aad f:Nat):Int).tmod 2=((aad f % 2:Nat):Int):=by rw[Int.tmod_eq_emod_of_nonneg (by omega)];rfl
    rw[e]
    rcases afO (aad f-1) with ⟨e1,e2⟩ | ⟨e1,e2⟩
    ·rw[e1,if_neg (by omega),Int.one_mul]
    ·rw[e1,if_pos (by omega)];omega
theorem apd (m:Bool) (fs:List (List Int)):((vst (fs.map (sge m)) fs.length).1:Int)=chE m fs:=by
 have h:=apc (fs.map (sge m)) (fun s hs=>by
  obtain ⟨f,_,rfl⟩:=List.mem_map.1 hs
  exact amf m f)
 rw[List.length_map] at h
 rw[h]
 unfold chE
 rw[List.map_congr_left fun f _=>avr m f]
theorem avs (p:List Int) (z q:Int):∀ t,t<=p.length->∀ (x:Rat),x*(q:Rat)=(z:Rat) ->
  (((scs p z q p.length t).1:Int):Rat)*q=(q:Rat)^t*pv (p.drop (p.length-t)) x/\((scs p z q p.length t).2:Int)=q^(t-1):=by
 intro t
 induction t with
 | zero =>
   intro _ x _
   rw[Nat.sub_zero,List.drop_length]
   refine ⟨?_,by show (1:Int)=q^0;rw[Int.pow_zero]⟩
   show ((0:Int):Rat)*_=_*(0:Rat)
   rw[Rat.mul_zero]
   exact Rat.zero_mul _
 | succ t ih =>
   intro ht x hx
   obtain ⟨h1,h2⟩:=ih (by omega) x hx
   have hpw:(scs p z q p.length (t+1)).2=q^t:=by
    show (if t=0 then (scs p z q p.length t).2 else (scs p z q p.length t).2*q)=_
    by_cases c:t=0
    ·rw[if_pos c,h2,c]
    ·rw[if_neg c,h2]
     obtain ⟨s,rfl⟩:∃ s,t=s+1:=⟨t-1,by omega⟩
     rw[Nat.add_sub_cancel,Int.pow_succ]
   refine ⟨?_,by rw[Nat.add_sub_cancel];exact hpw⟩
   have e1:(scs p z q p.length (t+1)).1=(scs p z q p.length t).1*z+p.getD (p.length-1-t) 0*(scs p z q p.length (t+1)).2:=rfl
   rw[e1,hpw]
   have hlt:p.length-1-t<p.length:=by omega
   have hd:p.drop (p.length-(t+1))=p.getD (p.length-1-t) 0 :: p.drop (p.length-t):=by
    rw[show p.length-(t+1)=p.length-1-t by omega,List.drop_eq_getElem_cons hlt,show p.length-1-t+1=p.length-t by omega]
    rw[List.getD_eq_getElem?_getD,List.getElem?_eq_getElem hlt];rfl
   rw[hd]
   show _=(q:Rat)^(t+1)*(((p.getD (p.length-1-t) 0:Int):Rat)+x*pv (p.drop (p.length-t)) x)
   generalize p.getD (p.length-1-t) 0=c at *
   generalize pv (p.drop (p.length-t)) x=v at *
   generalize (scs p z q p.length t).1=s at *
   rw[Rat.intCast_add,Rat.intCast_mul,Rat.intCast_mul,Rat.intCast_pow]
   rw[Rat.pow_succ]
   generalize (q:Rat)^t=r at *
   generalize (z:Rat)=zz at *
   subst hx
   grind
theorem agM {z:Int} {q:Nat} (hq:0<q) (f:List Int):sat z q f=sgp f (Pt.of ((z:Rat) / (q:Rat))):=by
 obtain ⟨g,hg⟩:∃ g,g=Nat.gcd z.natAbs q:=⟨_,rfl⟩
 have hg0:0<g:=by rw[hg];exact Nat.gcd_pos_of_pos_right _ hq
 have hd1:(g:Int)∣z:=by rw[hg,<- Int.natAbs_dvd_natAbs,Int.natAbs_natCast];exact Nat.gcd_dvd_left _ _
 have hd2:g∣q:=by rw[hg];exact Nat.gcd_dvd_right _ _
 unfold sat
 rw[<- hg]
 obtain ⟨a,ha⟩:=hd1
 obtain ⟨b,hb⟩:=hd2
 have e1:z.tdiv (g:Int)=a:=by rw[ha,Int.mul_tdiv_cancel_left _ (by omega)]
 have e2:q / g=b:=by rw[hb,Nat.mul_div_cancel_left _ hg0]
 rw[e1,e2]
 have hb0:0<b:=Nat.pos_of_ne_zero fun h=>by rw[h,Nat.mul_zero] at hb;omega
 have hbr:(0:Rat)<(b:Rat):=by exact_mod_cast hb0
 have hgr:(0:Rat)<(g:Rat):=by exact_mod_cast hg0
 have hx:(z:Rat) / (q:Rat)*((b:Int):Rat)=((a:Int):Rat):=by
  have hgb:=Rat.mul_pos hgr hbr
  rw[ha,hb,Rat.intCast_mul,Rat.natCast_mul,Rat.intCast_natCast,Rat.intCast_natCast,Rat.div_def]
  generalize ((g:Nat):Rat)=x at *
  generalize ((b:Nat):Rat)=y at *
  generalize ((a:Int):Rat)=u at *
  grind
 obtain ⟨x,hxd⟩:∃ x,x=(z:Rat) / (q:Rat):=⟨_,rfl⟩
 rw[<- hxd] at hx ⊢
 have h:=(avs (aaf f) a (b:Int) (aaf f).length (Nat.le_refl _) x hx).1
 rw[Nat.sub_self,List.drop_zero] at h
 have hl:=aae f
 have e3:ano f a ((b:Nat):Int)=(scs (aaf f) a (b:Int) (aaf f).length (aaf f).length).1:=by unfold ano;rw[hl]
 rw[e3]
 generalize (scs (aaf f) a (b:Int) (aaf f).length (aaf f).length).1=s at *
 have e4:sgp f (Pt.of x)=sgp (aaf f) (Pt.of x):=abp (fun k=>(aau f k).symm) _
 rw[e4]
 unfold sgp
 rw[alZ (adZ _)]
 generalize pv (aaf f) x=v at *
 have hp:(0:Rat)<((b:Int):Rat)^(aaf f).length:=Rat.pow_pos (by exact_mod_cast hb0)
 generalize ((b:Int):Rat)^(aaf f).length=r at *
 have ayr:(0:Rat)<((b:Int):Rat):=by exact_mod_cast hb0
 generalize ((b:Int):Rat)=bb at *
 rcases aav s with ⟨hs,e⟩ | ⟨hs,e⟩ | ⟨hs,e⟩
 ·rw[e]
  have hs':(s:Rat)<0:=by exact_mod_cast hs
  have hv:v<0:=by
   refine Classical.byContradiction fun hc=>?_
   have h1:0<=r*v:=Rat.mul_nonneg (Rat.le_of_lt hp) (by grind)
   have h2:0<(-(s:Rat))*bb:=Rat.mul_pos (by grind) ayr
   grind
  rw[if_neg (by grind),if_pos hv]
 ·rw[e]
  have hs':(s:Rat)=0:=by rw[hs];rfl
  have hv:v=0:=by
   rw[hs',Rat.zero_mul] at h
   rcases Rat.mul_eq_zero.1 h.symm with h1 | h1
   ·exact absurd h1 (by grind)
   ·exact h1
  rw[if_neg (by grind),if_neg (by grind)]
 ·rw[e]
  have hs':0<(s:Rat):=by exact_mod_cast hs
  have hv:0<v:=by
   refine Classical.byContradiction fun hc=>?_
   have h1:0<=r*(-v):=Rat.mul_nonneg (Rat.le_of_lt hp) (by grind)
   have h2:0<(s:Rat)*bb:=Rat.mul_pos hs' ayr
   grind
  rw[if_pos hv]
theorem amw {z:Int} {q:Nat} (hq:0<q) (fs:List (List Int)):((vst (fs.map (sat z q)) fs.length).1:Int)=chv fs (Pt.of ((z:Rat) / (q:Rat))):=by
 have h:=apc (fs.map (sat z q)) (fun s hs=>by
  obtain ⟨f,_,rfl⟩:=List.mem_map.1 hs
  exact aml z q f)
 rw[List.length_map] at h
 rw[h]
 unfold chv
 rw[List.map_congr_left fun f _=>agM hq f]
theorem pred_mul (f:List Int):∃ d:Int,0<d/\∀ k,f.getD k 0=d*(pred f).getD k 0:=by
 by_cases h0:aad f=0
 ·refine ⟨1,by omega,fun k=>?_⟩
  rw[aaj f k (by omega),aaj (pred f) k (by rw[acr];omega)];rfl
 ·refine ⟨(aam f:Int),by have:=Nat.pos_of_ne_zero (acf h0);omega,fun k=>?_⟩
  rw[aqO h0,aoX]
  have h1:=Int.mul_tdiv_add_tmod (f.getD k 0) (aam f:Int)
  rw[aoW f k] at h1
  omega
theorem atv (f:List Int):∃ d:Int,0<d/\∀ x,ev f x=d*ev (pred f) x:=by
 obtain ⟨d,hd,h⟩:=pred_mul f
 refine ⟨d,hd,fun x=>?_⟩
 rw[<- aaH]
 exact aay (fun k=>by rw[aaG,h k]) x
theorem ag9 (f:List Int):PEq f (pred f):=by
 obtain ⟨d,hd,h⟩:=pred_mul f
 exact ⟨1,d,by omega,hd,fun k=>by rw[h k];omega⟩
theorem afW (f:List Int) (x:Pt):sgp (pred f) x=sgp f x:=((ag9 f).sgp x).symm
theorem avt (f:List Int) (x:Int):ev (pmn f) x=- ev f x:=by
 have:ev (pmn f) x=ev (psc (-1) f) x:=aay (fun k=>by rw[agk,aaG];omega) x
 rw[this,aaH];omega
theorem afX (f:List Int) (x:Int):ev (aaf f) x=ev f x:=aay (fun k=>aau f k) x
theorem aqY {a b:List Int} (ha:aad a=a.length) (hb:aad b=b.length) (h1:1<=aad b):Rel a b (agn a b):=by
 have hps:=fun x=>arJ a b h1 x
 have hst:aad a-(aad b-1)=a.length+1-b.length:=by omega
 rw[hst] at hps
 have hl0:aai b≠0:=abf (by omega)
 obtain ⟨d,hd,hr⟩:=atv (psr a b)
 unfold agn
 generalize a.length+1-b.length=s at *
 split
 ·rename_i hc
  have hneg:aai b^s<0:=by
   obtain ⟨m,rfl⟩:∃ m,s=2*m+1:=⟨s / 2,by omega⟩
   rw[Int.pow_succ,Int.pow_mul]
   have:0<(aai b^2)^m:=Int.pow_pos (by rw[show aai b^2=aai b*aai b by rw[Int.pow_succ,Int.pow_succ,Int.pow_zero,Int.one_mul]];have:=Int.mul_pos_of_neg_of_neg hc.2 hc.2;omega)
   have h2:=Int.mul_pos this (show 0 < -aai b by omega)
   rw[Int.mul_neg] at h2
   omega
  refine ⟨-(aai b^s),psc (-1) (psq a b),d,by omega,hd,fun x=>?_⟩
  have h2:=hps x
  rw[hr x] at h2
  rw[aaH]
  grind
 ·rename_i hc
  have hpos:0<aai b^s:=by
   rcases Int.lt_or_lt_of_ne hl0 with hn | hp
   ·obtain ⟨m,rfl⟩:∃ m,s=2*m:=⟨s / 2,by omega⟩
    rw[Int.pow_mul]
    exact Int.pow_pos (by rw[show aai b^2=aai b*aai b by rw[Int.pow_succ,Int.pow_succ,Int.pow_zero,Int.one_mul]];have:=Int.mul_pos_of_neg_of_neg hn hn;omega)
   ·exact Int.pow_pos hp
  refine ⟨aai b^s,psq a b,d,hpos,hd,fun x=>?_⟩
  have h2:=hps x
  rw[hr x] at h2
  rw[avt,afX]
  grind
theorem ape:∀ (k:Nat) (a b:List Int),aad a≠0->aad a=a.length->aad b=b.length->ajH k a b->SCh (a :: chn k a b)
 | 0,_,_,_,_,_,h=>h.elim
 | k+1,a,b,h0,ha,hb,hok=>by
   by_cases c:b=[]
   ·rw[chn,if_pos c];exact h0
   ·rw[chn,if_neg c]
    rcases hok with hok | ⟨hf,hok⟩
    ·exact absurd hok c
    have hr:=aqY ha hb hf.b1
    have hne:aad b≠0:=by have:=hf.b1;omega
    have ih:=ape k b (agn a b) hne hb (by rw[akj,ami]) hok
    by_cases ce:agn a b=[]
    ·have e:chn k b (agn a b)=[]:=by
      cases k with
      | zero=>rfl
      | succ k=>rw[chn,if_pos ce]
     rw[e]
     rw[ce] at hr
     exact ⟨h0,hne,hr⟩
    ·cases k with
     | zero=>exact hok.elim
     | succ k =>
       rw[chn,if_neg ce] at ih ⊢
       exact ⟨h0,hr,ih⟩
theorem ags {k:Nat} {f g:List Int} (h0:aad f≠0) (hok:ajH k (pred f) (pred g)):aaN k f g=pred f :: chn k (pred f) (pred g)/\SCh (pred f :: chn k (pred f) (pred g)) :=
 ⟨by unfold aaN;rw[if_neg h0],ape k _ _ (by rw[acr];exact h0) (by rw[acr,adf]) (by rw[acr,adf]) hok⟩
theorem apf {k:Nat} {f g:List Int} (h0:aad f≠0) (hk:1<=k) (x:Pt):asX x (pred f) (chn k (pred f) (pred g))=if aad g=0 then 0 else jmp x f g:=by
 obtain ⟨j,rfl⟩:∃ j,k=j+1:=⟨k-1,by omega⟩
 by_cases c:aad g=0
 ·have e:pred g=[]:=List.eq_nil_of_length_eq_zero (by rw[adf,c])
  rw[chn,if_pos e,if_pos c];rfl
 ·have e:pred g≠[]:=fun h=>by have:=adf g;rw[h] at this;exact c this.symm
  rw[chn,if_neg e,if_neg c]
  show jmp x (pred f) (pred g)=_
  exact ((ag9 f).jmp (ag9 g) x h0 c).symm
theorem ajl {k:Nat} {a b:List Int} (h:ajH k a b):1<=k:=by
 cases k with
 | zero=>exact h.elim
 | succ k=>omega
noncomputable def jm (x:Pt) (f g:List Int):Int:=if aad g=0 then 0 else jmp x f g
def ah3 (k:Nat) (f g:List Int):Int:=chE true (aaN k f g)-chE false (aaN k f g)
theorem amx {k:Nat} {f g:List Int} (h0:aad f≠0) (hok:ajH k (pred f) (pred g)) {xs:List Pt} (hx:Lst (fun x=>sgp f x=0) xs):ah3 k f g=aj8 (xs.map fun x=>jm x f g):=by
 obtain ⟨e,h⟩:=ags h0 hok
 unfold ah3
 rw[e,anh h (hx.congr fun x=>by rw[afW])]
 congr 1
 exact List.map_congr_left fun x _=>apf h0 (ajl hok) x
theorem atw {k:Nat} {f g:List Int} (h0:aad f≠0) (hok:ajH k (pred f) (pred g)) {a b:Pt} (hab:a<b) (ha:sgp f a≠0) (hb:sgp f b≠0) {xs:List Pt} (hx:Lst (fun x=>sgp f x=0/\a<x/\x<b) xs) :
  chv (aaN k f g) a-chv (aaN k f g) b=aj8 (xs.map fun x=>jm x f g):=by
 obtain ⟨e,h⟩:=ags h0 hok
 rw[e,ahw h hab (by rw[afW];exact ha) (by rw[afW];exact hb) (hx.congr fun x=>by rw[afW])]
 congr 1
 exact List.map_congr_left fun x _=>apf h0 (ajl hok) x
theorem ajm {f:List Int} (h0:aad f≠0) {x:Pt} (hx:sgp f x=0):aad (aaz f)≠0:=(ac8 h0 hx).2
theorem ar1 {f:List Int} (h0:aad f≠0) {x:Pt} (hx:sgp f x=0):jm x f (aaz f)=1:=by
 unfold jm
 rw[if_neg (ajm h0 hx)]
 exact aoF h0 hx
theorem apg {f g h:List Int} (h0:aad f≠0) (e:∀ k,h.getD k 0=(aag (aaz f) g).getD k 0) {x:Pt} (hx:sgp f x=0):jm x f h=sgp g x:=by
 unfold jm
 by_cases c:aad g=0
 ·rw[if_pos (by rw[abY e];exact abV (.inr c)),afM c]
 ·have hp:=adk (ajm h0 hx) c
  rw[if_neg (by rw[abY e];exact hp),<- ang h0 c hx]
  have:PEq h (aag (aaz f) g):=⟨1,1,by omega,by omega,fun k=>by rw[e k]⟩
  exact (PEq.refl f).jmp this x h0 (by rw[abY e];exact hp)
theorem ahG {k:Nat} {f:List Int} (h0:aad f≠0) (hok:ajH k (pred f) (pred (aaz f))) {xs:List Pt} (hx:Lst (fun x=>sgp f x=0) xs):ah3 k f (aaz f)=xs.length:=by
 rw[amx h0 hok hx]
 exact ag1 xs fun x h=>ar1 h0 ((hx.2 x).1 h)
theorem anx {k:Nat} {f:List Int} (h0:aad f≠0) (hok:ajH k (pred f) (pred (aaz f))) {a b:Pt} (hab:a<b) (ha:sgp f a≠0) (hb:sgp f b≠0) {xs:List Pt} (hx:Lst (fun x=>sgp f x=0/\a<x/\x<b) xs) :
  chv (aaN k f (aaz f)) a-chv (aaN k f (aaz f)) b=xs.length:=by
 rw[atw h0 hok hab ha hb hx]
 exact ag1 xs fun x h=>ar1 h0 ((hx.2 x).1 h).1
end Go.Proofs.YtkefcldcfeolbaaGreat
namespace Go.Proofs.YtkefcldcfeolbaaGreat
open Go.RowKit
noncomputable def GK:Nat:=Classical.choose (⟨3000,rfl⟩:∃ n:Nat,n=3000)
theorem aqZ:GK=3000:=Classical.choose_spec (⟨3000,rfl⟩:∃ n:Nat,n=3000)
theorem alr {G m n:Nat} (hs:m+n<=32) (hG:1<=G) (hb:G<BB^90):GOK G m n 0 1100:=by
 have mul:∀ {a b:Nat},a<=34->b<=32->a*b<=1100:=fun {a b} ha hb=>Nat.le_trans (Nat.mul_le_mul ha hb) (by decide)
 refine ⟨?_,hG,by omega,fun x h1 y h2 h3 h4=>mul (by omega) (by omega),fun x h1 y h2 h3 h4=>mul (by omega) (by omega),fun y h1 z h2 h3 h4 h5=>mul (by omega) (by omega),by omega⟩
 obtain ⟨K,hK⟩:∃ K,K=1100:=⟨_,rfl⟩
 rw[<- hK]
 calc G^K<(BB^90)^K:=Nat.pow_lt_pow_left hb (by omega)
  _=BB^(90*K):=by rw[<- Nat.pow_mul]
  _<=BB^FW:=Nat.pow_le_pow_right aaI (by rw[abZ];omega)
theorem aa1 {a b:Nat} (h:a<=b):BB^a<=BB^b:=Nat.pow_le_pow_right aaI h
theorem aeH {c k:Nat} (hc:c<=4294967296):c*BB^k<=BB^(k+1):=by
 rw[Nat.pow_succ,Nat.mul_comm]
 exact Nat.mul_le_mul_left _ (by rw[aan];exact hc)
theorem ar2 {f g:List Int} (hs:aad f+aad g<=34) (hf:∀ j,(f.getD j 0).natAbs<=BB^80) (hg:∀ j,(g.getD j 0).natAbs<=BB^80) (f0:aad f≠0) (g0:aad g≠0):GC f g 0 (BB^80):=by
 have h1:1<=BB^80:=Nat.pow_pos aaI
 refine ⟨f0,g0,hs,by omega,by omega,fun p _ h=>by omega,fun j=>Nat.le_trans (acM f j) (hf j),fun j=>Nat.le_trans (acM g j) (hg j),h1,fun m n h3 h4 h5 h6=>⟨1100,alr (by omega) (by omega) ?_⟩,?_⟩
 ·have h7:BB^80*32<=BB^81:=by rw[Nat.mul_comm];exact aeH (by decide)
  exact Nat.lt_of_le_of_lt h7 (Nat.pow_lt_pow_right (by rw[aan];decide) (by decide))
 ·rw[ae3]
  have:=amu (a:=aam f) (acf g0) (ag7 g0 hg)
  omega
theorem ar4 {f g:List Int} (hs:aad f+aad g<=34) (hf:∀ j,(f.getD j 0).natAbs<=BB^80) (hg:∀ j,(g.getD j 0).natAbs<=BB^80):aqV f g:=by
 by_cases f0:aad f=0
 ·exact .inl f0
 by_cases g0:aad g=0
 ·exact .inr (.inl g0)
 exact .inr (.inr ⟨_,_,ar2 hs hf hg f0 g0⟩)
theorem amy {f g:List Int} (hs:aad f+aad g<=34) (hf:∀ j,(f.getD j 0).natAbs<=BB^80) (hg:∀ j,(g.getD j 0).natAbs<=BB^80) (j:Nat):((gres f g).getD j 0).natAbs<=BB^GK:=by
 have up:∀ p:List Int,(∀ j,(p.getD j 0).natAbs<=BB^80)->((ae1 p).getD j 0).natAbs<=BB^GK:=fun p hp=>by
  have h2:BB^80<=BB^GK:=aa1 (by rw[aqZ];decide)
  rcases ahE p with ⟨h1,_⟩ | ⟨h1,_⟩
  ·rw[h1];exact Nat.le_trans (hp j) h2
  ·rw[h1,Int.natAbs_neg];exact Nat.le_trans (hp j) h2
 unfold gres
 split
 ·exact up g hg
 ·rename_i f0
  split
  ·exact up f hf
  ·rename_i g0
   have hc:=ar2 hs hf hg f0 g0
   obtain ⟨hi,_,_,h4,_⟩:=hc.all
   have hD:=hi.ne
   rw[acA hD,Int.natAbs_mul,Int.natAbs_mul,Int.natAbs_natCast]
   have c1:(sg (aai (ag8 f g))).natAbs<=1:=by rcases aav (aai (ag8 f g)) with ⟨_,e⟩ | ⟨_,e⟩ | ⟨_,e⟩<;>rw[e]<;>decide
   have c2:aam (ag8 f g)<=BB^80:=by
    rw[hi.cont]
    exact amu (acf g0) (ag7 g0 hg)
   have c3:=h4 j
   obtain ⟨K,hK⟩:∃ K,K=81*34:=⟨_,rfl⟩
   have c4:(BB^80*32)^(max 1 (aad f+aad g-2*aad (ag8 f g)))<=BB^K:=by
    have h7:BB^80*32<=BB^81:=by rw[Nat.mul_comm];exact aeH (by decide)
    have h8:1<=BB^80:=Nat.pow_pos aaI
    calc (BB^80*32)^(max 1 (aad f+aad g-2*aad (ag8 f g)))<=(BB^80*32)^34:=Nat.pow_le_pow_right (by omega) (by omega)
     _<=(BB^81)^34:=Nat.pow_le_pow_left h7 _
     _=BB^K:=by rw[<- Nat.pow_mul,hK]
   calc (sg (aai (ag8 f g))).natAbs*aam (ag8 f g)*((aal (ag8 f g)).getD j 0).natAbs<=1*BB^80*BB^K:=Nat.mul_le_mul (Nat.mul_le_mul c1 c2) (Nat.le_trans c3 c4)
    _=BB^(80+K):=by rw[Nat.one_mul,<- Nat.pow_add]
    _<=BB^GK:=aa1 (by rw[aqZ];omega)
theorem ar5 (X:Nat):∀ n V,fbb X V n<=V*(2*X+3)^n
 | 0,V=>by show V<=V*1;omega
 | n+1,V=>by
   have h:=ar5 X n (2*V)
   have h1:1<=(2*X+3)^n:=Nat.one_le_pow _ _ (by omega)
   have h2:V*1<=V*(2*X+3)^n:=Nat.mul_le_mul_left V h1
   have h3:=Nat.mul_le_mul_left (1+X) h
   have e:(1+X)*(2*V*(2*X+3)^n)+V*(2*X+3)^n=V*(2*X+3)^(n+1):=by
    rw[Nat.pow_succ]
    generalize (2*X+3)^n=r
    grind
   show (1+X)*fbb X (2*V) n+V<=_
   omega
theorem aeI {p q g:List Int} {k:Nat} (hp:aad p<=16) (p0:aad p≠0) (hM:∀ j,(p.getD j 0).natAbs<=BB^k) (h:∀ x,ev p x=ev g x*ev q x) (j:Nat):(q.getD j 0).natAbs<=BB^(k+6):=by
 refine Nat.le_trans (apb (n:=15) (M:=BB^k) hp p0 hM h j) (Nat.le_trans (ar5 _ _ _) ?_)
 have e:16*31^15*65^15<=BB^6:=by rw[aan];first | decide +kernel | (rw[abZ];decide +kernel)
 calc (15+1)*(BB^k*(2*15+1)^15)*(2*(2*15+1)+3)^15=BB^k*(16*31^15*65^15):=by
       generalize BB^k=r
       have:∀ a b:Nat,(15+1)*(r*a)*b=r*(16*a*b):=fun a b=>by
        rw[Nat.mul_comm r (16*a*b),show (15+1)*(r*a)*b=16*r*a*b by rw[Nat.mul_assoc 16 r a]]
        rw[Nat.mul_right_comm 16 r a,Nat.mul_right_comm (16*a) r b]
       exact this _ _
  _<=BB^k*BB^6:=Nat.mul_le_mul_left _ e
  _=BB^(k+6):=by rw[Nat.pow_add]
theorem atx {p r:List Int} (h:∀ t,ev p t=ev r t) (p0:aad p≠0) (x:Pt):mult x p=mult x r:=by
 have hk:=ach h
 exact (PEq.mult (f:=p) (g:=r) ⟨1,1,by decide,by decide,fun k=>by rw[hk k]⟩ x p0).1
theorem adt {p a b:List Int} (h:∀ t,ev p t=ev a t*ev b t) (a0:aad a≠0) (b0:aad b≠0) (x:Pt):mult x p=mult x a+mult x b:=by
 have h1:∀ t,ev (aag a b) t=ev p t:=fun t=>by rw[aaC,h]
 rw[<- ai6 a0 b0 x,atx h1 (adk a0 b0)]
theorem anz {c:Int} (hc:c≠0) (x:Pt):mult x [c]=0:=by
 have h1:aad [c]=1:=aje hc
 rw[aaX (by omega),afL]
 exact afN hc
theorem afY {p r:List Int} {c:Int} (hc:c≠0) (h:∀ t,ev r t=c*ev p t) (p0:aad p≠0) (x:Pt):mult x r=mult x p:=by
 rw[adt (a:=[c]) (b:=p) (fun t=>by rw[h t,abh]) (by rw[aje hc];decide) p0 x,anz hc,Nat.zero_add]
theorem adu {p r:List Int} (h:∀ t,ev p t=ev r t):aad p=aad r:=abY (ach h)
theorem ahH {p r:List Int} {c:Int} (hc:c≠0) (h:∀ t,ev r t=c*ev p t):aad r≠0↔aad p≠0:=by
 have h1:∀ t,ev r t=ev [c] t*ev p t:=fun t=>by rw[h t,abh]
 constructor
 ·intro hr hp
  refine hr ?_
  rw[adu (p:=r) (r:=[]) fun t=>by rw[h t,aay (p:=p) (q:=[]) (fun k=>by rw[aaj p k (by omega)];rfl),ab3,Int.mul_zero]]
  rfl
 ·intro hp
  rw[adu (p:=r) (r:=aag [c] p) fun t=>by rw[aaC,h1]]
  exact adk (by rw[aje hc];decide) hp
theorem aha {f g:List Int} (h:Dvq f g) (g0:aad g≠0) (x:Pt):mult x f<=mult x g:=by
 obtain ⟨c,q,hc,e⟩:=h
 have e1:∀ t,ev (psc c g) t=ev q t*ev f t:=fun t=>by rw[aaH,e]
 have n1:aad (psc c g)≠0:=(ahH hc (fun t=>aaH _ _ _)).2 g0
 have hne:aad q≠0/\aad f≠0:=by
  constructor
  ·intro hq
   exact n1 (by rw[adu (r:=aag q f) fun t=>by rw[aaC,e1]];exact abV (.inl hq))
  ·intro hq
   exact n1 (by rw[adu (r:=aag q f) fun t=>by rw[aaC,e1]];exact abV (.inr hq))
 have h1:=adt e1 hne.1 hne.2 x
 rw[afY hc (fun t=>aaH _ _ _) g0] at h1
 omega
theorem aph {f g d:List Int} (h:acV f g d) (d0:aad d≠0) (x:Pt) {m:Nat} (hf:Van x m f) (hg:Van x m g):m<=mult x d:=by
 obtain ⟨c,u,v,hc,e⟩:=h
 have h1:Van x m (psc c d):=((hf.mul u).add (hg.mul v)).ev fun t=>by rw[aaH,acJ,aaC,aaC,e]
 exact (ab9 d0).1 (h1.aoE hc)
def ap5 (F:List Int):List Int:=gres (aal F) (aaz (aal F))
def aaq (F:List Int):List Int:=if aad F=0 then [] else arP (aal F) (ap5 F)
structure QOK (F:List Int):Prop where
 len:aad F<=16
 b:∀ j,((aal F).getD j 0).natAbs<=BB^40
structure QF (F:List Int):Prop where
 ga:aqV (aal F) (aaz (aal F))
 fp:abw (aal F)
 fr:abw (aaz (aal F))
 fd:abw (ap5 F)
 d0:aad (ap5 F)≠0
 dl:(ap5 F).length<=16
 ok:au5 1000000000 (aal F) (ap5 F)
 e:aaq F=arP (aal F) (ap5 F)
 prod:∀ x,ev (aal F) x=ev (aaq F) x*ev (ap5 F) x
 t:aaf (aaq F)=aaq F
 q0:aad (aaq F)≠0
 l:aad (aaq F)<=aad F
 b:∀ k,(∀ j,((aal F).getD j 0).natAbs<=BB^k)->∀ j,((aaq F).getD j 0).natAbs<=BB^(k+6)
 m:∀ x,mult x (aaq F)=if sgp F x=0 then 1 else 0
theorem acN {p:List Int} {k:Nat} (hp:aad p<=16) (h:∀ j,(p.getD j 0).natAbs<=BB^k) (j:Nat):((aaz p).getD j 0).natAbs<=BB^(k+1):=by
 rw[abo,Int.natAbs_mul]
 by_cases c:j+1<16
 ·rw[Nat.pow_succ]
  refine Nat.mul_le_mul (h _) ?_
  rw[aan];omega
 ·rw[aaj p _ (by omega)];simp
theorem abx {F:List Int} (hF:QOK F) (F0:aad F≠0):QF F:=by
 have p0:aad (aal F)≠0:=by rw[ac9];exact F0
 have cP:aam (aal F)=1:=agr F0
 have hl:=hF.len
 have hpl:aad (aal F)=aad F:=ac9 F
 have hb:=hF.b
 have hdl:aad (aaz (aal F))<=15:=by have:=aat (aaz (aal F));rw[abm] at this;omega
 have aw2:∀ j,((aal F).getD j 0).natAbs<=BB^80:=fun j=>Nat.le_trans (hb j) (aa1 (by decide))
 have aw3:∀ j,((aaz (aal F)).getD j 0).natAbs<=BB^80:=fun j=>Nat.le_trans (acN (by omega) hb j) (aa1 (by decide))
 have ga:=ar4 (f:=aal F) (g:=aaz (aal F)) (by omega) aw2 aw3
 have bD:∀ j,((ap5 F).getD j 0).natAbs<=BB^GK:=amy (by omega) aw2 aw3
 have apj:∀ {k:Nat},k<100000->BB^k<BB^FW:=fun h=>Nat.pow_lt_pow_right (by rw[aan];decide) (by rw[abZ];exact h)
 obtain ⟨P,hPe⟩:∃ P,P=aal F:=⟨_,rfl⟩
 obtain ⟨D,hDe⟩:∃ D,D=ap5 F:=⟨_,rfl⟩
 have hg:=alo ga
 have hD2:gres (aal F) (aaz (aal F))=D:=hDe.symm
 rw[hD2] at hg
 have hg':ad7 (aal F) (aaz (aal F)) D:=hg.resolve_left (fun h=>p0 h.1) |>.2
 have fP:abw (aal F):=fun j=>Nat.lt_of_le_of_lt (aw2 j) (apj (by decide))
 have fR:abw (aaz (aal F)):=fun j=>Nat.lt_of_le_of_lt (aw3 j) (apj (by decide))
 rw[<- hDe] at bD
 rw[<- hPe] at hg' cP p0 ga hb hpl hdl fP fR
 have cD:aam D=1:=by rw[hg'.cont,cP,Nat.gcd_one_left]
 have D0:aad D≠0:=hg'.ne
 have dP:aad D<=aad P:=ae2 hg'.l p0
 have fD:abw D:=fun j=>Nat.lt_of_le_of_lt (bD j) (apj (by rw[aqZ];decide))
 obtain ⟨c,r,hc,e1⟩:=hg'.l
 obtain ⟨s,hs⟩:=aeG (l:=D) (f:=P) (r:=r) cD hc (fun x=>by rw[e1,Int.mul_comm])
 obtain ⟨Q,hQ⟩:∃ Q,Q=aaf s:=⟨_,rfl⟩
 have hQs:∀ x,ev P x=ev D x*ev Q x:=fun x=>by rw[hQ,ahp];exact hs x
 have tQ:aaf Q=Q:=by rw[hQ,adV]
 have Q0:aad Q≠0:=fun e=>p0 (by rw[adu (r:=aag D Q) fun x=>by rw[aaC,hQs]];exact abV (.inr e))
 have bQ:∀ k,(∀ j,(P.getD j 0).natAbs<=BB^k)->∀ j,(Q.getD j 0).natAbs<=BB^(k+6):=fun k hk=>aeI (by omega) p0 hk hQs
 have fQ:abw Q:=fun j=>Nat.lt_of_le_of_lt (bQ 40 hb j) (apj (by decide))
 have hQl:aad Q<=aad P:=ae2 ⟨1,D,by decide,fun x=>by rw[Int.one_mul,hQs]⟩ p0
 obtain ⟨x1,x2⟩:=anl (f:=P) (g:=D) (q:=Q) (ato hQs) tQ Q0 D0 fQ fD (by omega)
 have hpart:aaq F=Q:=by
  unfold aaq
  rw[if_neg F0,<- hPe,<- hDe];exact x2
 have hmul:∀ x,mult x P=mult x Q+mult x D:=fun x=>adt (fun t=>by rw[hQs,Int.mul_comm]) Q0 D0 x
 have hPF:∀ x,mult x P=mult x F:=fun x=>(afY (agT F0) (fun t=>by rw[<- aaH];exact aay (fun k=>by rw[aaG,hPe];exact acA F0 k) t) p0 x).symm
 refine ⟨by rw[<- hPe];exact ga,by rw[<- hPe];exact fP,by rw[<- hPe];exact fR,by rw[<- hDe];exact fD,by rw[<- hDe];exact D0,by rw[<- hDe,<- hg'.trim,aae];omega,by rw[<- hPe,<- hDe];exact x1,by rw[hpart,<- hPe,<- hDe];exact x2.symm,fun x=>by rw[hpart,<- hPe,<- hDe,hQs,Int.mul_comm],by rw[hpart];exact tQ,by rw[hpart];exact Q0,by rw[hpart];omega,by rw[hpart,<- hPe];exact bQ,fun x=>?_⟩
 rw[hpart]
 have h1:=hmul x
 by_cases hx:sgp F x=0
 ·rw[if_pos hx]
  have hmF:mult x F≠0:=fun h=>(aaX F0).1 h hx
  have hP0:sgp P x=0:=Classical.byContradiction fun h=>by
   have:=(aaX p0).2 h
   rw[hPF x] at this;exact hmF this
  obtain ⟨h2,h3⟩:=ac8 p0 hP0
  have h4:=aha hg'.r h3 x
  have h5:=aph hg'.c D0 x (m:=mult x P-1) ((ab9 p0).2 (by omega)) ((ab9 h3).2 (by omega))
  have:=hPF x
  omega
 ·rw[if_neg hx]
  have:=(aaX F0).2 hx
  have:=hPF x
  omega
theorem QF.root {F:List Int} (h:QF F) (x:Pt):sgp (aaq F) x=0↔sgp F x=0:=by
 have h1:=h.m x
 have h2:=aaX h.q0 (x:=x)
 by_cases c:sgp F x=0
 ·rw[if_pos c] at h1
  exact ⟨fun _=>c,fun _=>Classical.byContradiction fun hn=>by have:=h2.2 hn;omega⟩
 ·rw[if_neg c] at h1
  exact ⟨fun e=>absurd e (h2.1 h1),fun e=>absurd e c⟩
theorem QF.simple {F:List Int} (h:QF F) (x:Pt):mult x (aaq F)<=1:=by
 rw[h.m x];split<;>omega
theorem akt:∀ (fs:List (List Int)),fs≠[]->agS fs∈fs:=by
 intro fs
 induction fs with
 | nil=>intro h;exact absurd rfl h
 | cons a r ih =>
   intro _
   match r,ih with
   | [],_=>exact List.mem_cons_self ..
   | b :: r,ih=>exact List.mem_cons_of_mem _ (ih (by simp))
theorem apk {f g:List Int} {gs:List (List Int)} (h:SCh (f :: g :: gs)) (hd:PEq g (aaz f)) (hs:∀ x,mult x f<=1) (x:Pt):sgp (agS (f :: g :: gs)) x≠0:=by
 have hl:=h.ne _ (akt (f :: g :: gs) (by simp))
 refine (aaX hl).1 ?_
 obtain ⟨hv,_⟩:=SCh.van (x:=x) h rfl
 have hf:=h.ne f (by simp)
 have hg:=h.ne g (by simp)
 have h1:=(ab9 hf).1 (hv f (by simp))
 have h2:=(ab9 hg).1 (hv g (by simp))
 have h3:=hs x
 by_cases c:sgp f x=0
 ·obtain ⟨h4,h5⟩:=ac8 hf c
  have h6:=(hd.mult x hg).1
  omega
 ·have:=(aaX hf).2 c
  omega
theorem amA {f:List Int}:PEq (pred (aaz f)) (aaz (pred f)):=by
 obtain ⟨d,hd,h⟩:=pred_mul f
 obtain ⟨c,hc,h'⟩:=pred_mul (aaz f)
 refine ⟨c,d,hc,hd,fun k=>?_⟩
 rw[<- h' k,abo,abo,h (k+1),Int.mul_assoc]
theorem aty {k:Nat} {a b:List Int} (hk:1<=k) (hb:aad b≠0):∃ r,chn k a b=b :: r:=by
 obtain ⟨j,rfl⟩:∃ j,k=j+1:=⟨k-1,by omega⟩
 exact ⟨_,by rw[chn,if_neg (fun e=>hb (by rw[e];rfl))]⟩
theorem apl {f:List Int} (h0:aad f≠0) (x:Pt):mult x (pred f)=mult x f:=((ag9 f).mult x h0).1.symm
theorem agt {k:Nat} {f:List Int} (h0:aad f≠0) (hs:∀ x,mult x f<=1) (hok:ajH k (pred f) (pred (aaz f))) {a b:Pt} (hab:a<b) {xs:List Pt} (hx:Lst (fun x=>sgp f x=0/\a<x/\(x<b∨x=b)) xs) :
  chv (aaN k f (aaz f)) a-chv (aaN k f (aaz f)) b=xs.length:=by
 by_cases d0:aad (aaz f)=0
 ·have nr:∀ x,sgp f x≠0:=fun x c=>ajm h0 c d0
  have e:xs=[]:=List.eq_nil_iff_forall_not_mem.2 fun x h=>nr x ((hx.2 x).1 h).1
  rw[anx h0 hok hab (nr a) (nr b) (xs:=[]) ⟨List.Pairwise.nil,fun x=>⟨fun h=>by simp at h,fun h=>absurd h.1 (nr x)⟩⟩,e]
 ·obtain ⟨e,h⟩:=ags h0 hok
  obtain ⟨r,er⟩:=aty (a:=pred f) (b:=pred (aaz f)) (ajl hok) (by rw[acr];exact d0)
  rw[er] at e h
  rw[e]
  have hl:=apk h amA (fun x=>by rw[apl h0];exact hs x)
  exact ak7 h amA hab (h.ne _ (akt _ (by simp))) (hl a) (hl b) (hx.congr fun x=>by rw[afW])
end Go.Proofs.YtkefcldcfeolbaaGreat
namespace Go.Proofs.YtkefcldcfeolbaaGreat
open Go.RowKit
noncomputable def TB:Nat:=Classical.choose (⟨1024,rfl⟩:∃ n:Nat,n=1024)
theorem anA:TB=1024:=Classical.choose_spec (⟨1024,rfl⟩:∃ n:Nat,n=1024)
set_option maxRecDepth 100000 in
theorem atz:((List.range 11).all fun la=>(List.range 11).all fun lb=>chk 12 la lb 1024 1024)=true:=by decide +kernel
structure CP (f:List Int):Prop where
 len:aad f<=10
 b:∀ j,(f.getD j 0).natAbs<=BB^32
theorem afZ (k:Nat):BB^k=2^(32*k):=by rw[aan,show (4294967296:Nat)=2^32 from rfl,<- Nat.pow_mul]
theorem CP.bits {f:List Int} (h:CP f):Bd (2^TB) f:=fun j=>by
 have h1:=h.b j
 rw[afZ,show 32*32=TB by rw[anA]] at h1
 exact h1
structure Elm (p:List Int):Prop where
 b:Bd (2^CB) p
 l:p.length<=10
theorem atA {f:List Int} (h:CP f):Elm (pred f):=by
 have h1:Bd (2^TB) f:=h.bits
 exact ⟨(ahz h1).mono (Nat.pow_le_pow_right (by decide) (by rw[alh,anA];decide)),by rw[adf];exact h.len⟩
theorem abL {f g:List Int} (hf:CP f) (hg:CP g):ajH 12 (pred f) (pred g)/\(∀ p∈aaN 12 f g,Elm p)/\(chn 12 (pred f) (pred g)).length<=12/\(aaN 12 f g).length<=13:=by
 have e1:=adf f
 have e2:=adf g
 have l1:=hf.len
 have l2:=hg.len
 have bf:Bd (2^TB) f:=hf.bits
 have bg:Bd (2^TB) g:=hg.bits
 have ht:=atz
 simp only[List.all_eq_true,List.mem_range] at ht
 have h:=aoU 12 (sa:=TB) (sb:=TB) (a:=pred f) (b:=pred g) (by rw[anA];exact ht _ (by omega) _ (by omega)) (by rw[acr,e1]) (by rw[acr,e2]) (by omega) (by omega) (ahz bf) (ahz bg)
 have h3:=aoV 12 (pred f) (pred g)
 refine ⟨h.1,fun p hp=>?_,h3,?_⟩
 ·unfold aaN at hp
  split at hp
  ·simp at hp
  ·rcases List.mem_cons.1 hp with rfl | hp
   ·exact atA hf
   ·have:=h.2 p hp
    exact ⟨this.1,by have:=this.2;omega⟩
 ·unfold aaN
  split
  ·simp
  ·rw[List.length_cons];omega
theorem ahI {k:Nat} (h:k<3200000):2^k<BB^FW:=by
 rw[afZ]
 exact Nat.pow_lt_pow_right (by decide) (by rw[abZ];omega)
theorem Elm.fit {p:List Int} (h:Elm p):abw p:=fun j=>Nat.lt_of_le_of_lt (h.b j) (ahI (by rw[alh];decide))
theorem Elm.smp {p:List Int} (h:Elm p):SmP p/\p.length<=1000000000:=⟨h.fit.smp,by have:=h.l;omega⟩
theorem als {M Z:Nat} (hZ:1<=Z) {p:List Int} {z q:Int} (n:Nat) (hp:∀ k,(p.getD k 0).natAbs<=M) (hz:z.natAbs<=Z) (hq:q.natAbs<=Z):∀ t,(scs p z q n t).2.natAbs<=Z^t/\(scs p z q n t).1.natAbs<=t*(M*Z^t)
 | 0=>by simp[scs]
 | t+1=>by
   obtain ⟨h1,h2⟩:=als hZ n hp hz hq t
   have hpw:(scs p z q n (t+1)).2.natAbs<=Z^(t+1):=by
    show (if t=0 then (scs p z q n t).2 else (scs p z q n t).2*q).natAbs<=_
    have h3:Z^t<=Z^(t+1):=Nat.pow_le_pow_right (by omega) (by omega)
    split
    ·omega
    ·rw[Int.natAbs_mul,Nat.pow_succ];exact Nat.mul_le_mul h1 hq
   refine ⟨hpw,?_⟩
   show ((scs p z q n t).1*z+p.getD (n-1-t) 0*(scs p z q n (t+1)).2).natAbs<=_
   have e1:((scs p z q n t).1*z).natAbs<=t*(M*Z^t)*Z:=by rw[Int.natAbs_mul];exact Nat.mul_le_mul h2 hz
   have e2:(p.getD (n-1-t) 0*(scs p z q n (t+1)).2).natAbs<=M*Z^(t+1):=by rw[Int.natAbs_mul];exact Nat.mul_le_mul (hp _) hpw
   have e3:t*(M*Z^t)*Z=t*(M*Z^(t+1)):=by rw[Nat.pow_succ,Nat.mul_assoc,Nat.mul_assoc]
   rw[Nat.add_mul,Nat.one_mul]
   omega
theorem avu {p:List Int} {z:Int} {q:Nat} (hb:Bd (2^CB) p) (hl:p.length<=10) (hz:z.natAbs<=ZB) (hq:q<=ZB):ajf z q p:=by
 have ft:abw p:=fun j=>Nat.lt_of_le_of_lt (hb j) (ahI (by rw[alh];decide))
 have hz':(z.tdiv (Nat.gcd z.natAbs q)).natAbs<=ZB:=by
  rw[Int.natAbs_tdiv]
  exact Nat.le_trans (Nat.div_le_self _ _) hz
 have hq':(((q / Nat.gcd z.natAbs q:Nat):Int)).natAbs<=ZB:=by
  rw[Int.natAbs_natCast]
  exact Nat.le_trans (Nat.div_le_self _ _) hq
 refine ⟨ft,by omega,fun t ht=>?_⟩
 have hpl:=aat p
 have z1:1<=ZB:=by have:=arW;omega
 obtain ⟨h1,h2⟩:=als (p:=aaf p) (M:=2^CB) z1 (aad p) (fun k=>by rw[aau];exact hb k) hz' hq' t
 have e:ZB^t<=2^(32*(ZK*10)):=by
  refine Nat.le_trans (Nat.pow_le_pow_right z1 (show t<=10 by omega)) ?_
  unfold ZB
  rw[<- Nat.pow_mul,afZ]
  exact Nat.le_refl _
 constructor
 ·refine Nat.lt_of_le_of_lt h2 ?_
  refine Nat.lt_of_le_of_lt (Nat.mul_le_mul (show t<=2^4 by omega) (Nat.mul_le_mul_left (2^CB) e)) ?_
  rw[<- Nat.pow_add,<- Nat.pow_add]
  exact ahI (by rw[alh,akm];decide)
 ·exact Nat.lt_of_le_of_lt (Nat.le_trans h1 e) (ahI (by rw[akm];decide))
theorem Elm.at {p:List Int} {z:Int} {q:Nat} (h:Elm p) (hz:z.natAbs<=ZB) (hq:q<=ZB):ajf z q p:=avu h.b (by have:=h.l;omega) hz hq
theorem CP.bd {f:List Int} (h:CP f):Bd (2^CB) f:=h.bits.mono (Nat.pow_le_pow_right (by decide) (by rw[alh,anA];decide))
theorem CP.fit {f:List Int} (h:CP f):abw f:=fun j=>Nat.lt_of_le_of_lt (h.bd j) (ahI (by rw[alh];decide))
theorem CP.at {f:List Int} {z:Int} {q:Nat} (h:CP f) (hl:f.length<=10) (hz:z.natAbs<=ZB) (hq:q<=ZB):ajf z q f:=avu h.bd hl hz hq
structure PQ (f:List Int):Prop where
 len:aad f<=16
 b:∀ j,(f.getD j 0).natAbs<=BB^10
 pl:aad (aaq f)<=9
structure P9 (f:List Int):Prop where
 len:aad f<=9
 b:∀ j,(f.getD j 0).natAbs<=BB^10
theorem P9.cp {f:List Int} (h:P9 f):CP f:=⟨by have:=h.len;omega,fun j=>Nat.le_trans (h.b j) (aa1 (by decide))⟩
theorem acO (f:List Int):aad (aaz f)<=aad f-1:=by have:=aat (aaz f);rw[abm] at this;exact this
theorem P9.der {f:List Int} (h:P9 f):CP (aaz f):=by
 have h1:=h.len
 have h2:=acO f
 refine ⟨by omega,fun j=>Nat.le_trans (acN (k:=10) (by omega) h.b j) (aa1 (by decide))⟩
theorem P9.q {f:List Int} (h:P9 f):QOK f:=⟨by have:=h.len;omega,fun j=>Nat.le_trans (acM f j) (Nat.le_trans (h.b j) (aa1 (by decide)))⟩
theorem abW {f:List Int} (h:aad f=0):aaq f=[]:=by unfold aaq;rw[if_pos h]
theorem P9.apm {f:List Int} (h:P9 f):aad (aaq f)<=aad f:=by
 by_cases h0:aad f=0
 ·rw[abW h0];exact Nat.zero_le _
 ·exact (abx h.q h0).l
theorem P9.pq {f:List Int} (h:P9 f):PQ f:=⟨by have:=h.len;omega,h.b,by have:=h.apm;have:=h.len;omega⟩
theorem PQ.q {f:List Int} (h:PQ f):QOK f:=⟨h.len,fun j=>Nat.le_trans (acM f j) (Nat.le_trans (h.b j) (aa1 (by decide)))⟩
theorem PQ.fit {f:List Int} (h:PQ f):abw f:=fun j=>Nat.lt_of_le_of_lt (h.b j) (Nat.pow_lt_pow_right (by rw[aan];decide) (by rw[abZ];decide))
theorem PQ.cp {f:List Int} (h:PQ f) (hl:aad f<=10):CP f:=⟨hl,fun j=>Nat.le_trans (h.b j) (aa1 (by decide))⟩
theorem PQ.der {f:List Int} (h:PQ f) (hl:aad f<=10):CP (aaz f):=⟨by have:=acO f;omega,fun j=>Nat.le_trans (acN (k:=10) h.len h.b j) (aa1 (by decide))⟩
theorem PQ.aiv {f:List Int} (h:PQ f) (j:Nat):((aaq f).getD j 0).natAbs<=BB^16:=by
 by_cases h0:aad f=0
 ·rw[abW h0];simp
 ·exact (abx h.q h0).b 10 (fun j=>Nat.le_trans (acM f j) (h.b j)) j
theorem PQ.part {f:List Int} (h:PQ f):CP (aaq f):=⟨by have:=h.pl;omega,fun j=>Nat.le_trans (h.aiv j) (aa1 (by decide))⟩
theorem PQ.aaz {f:List Int} (h:PQ f):CP (aaz (aaq f)):=by
 have h2:=h.pl
 have h3:=acO (aaq f)
 exact ⟨by omega,fun j=>Nat.le_trans (acN (k:=16) (by omega) h.aiv j) (aa1 (by decide))⟩
theorem PQ.aiw {f:List Int} (h:PQ f):aaf (aaq f)=aaq f:=by
 by_cases h0:aad f=0
 ·rw[abW h0];rfl
 ·exact (abx h.q h0).t
theorem PQ.at {f:List Int} {z:Int} {q:Nat} (h:PQ f) (hl:f.length<=16) (hz:z.natAbs<=ZB) (hq:q<=ZB):ajf z q f:=by
 have hz':(z.tdiv (Nat.gcd z.natAbs q)).natAbs<=ZB:=by
  rw[Int.natAbs_tdiv]
  exact Nat.le_trans (Nat.div_le_self _ _) hz
 have hq':(((q / Nat.gcd z.natAbs q:Nat):Int)).natAbs<=ZB:=by
  rw[Int.natAbs_natCast]
  exact Nat.le_trans (Nat.div_le_self _ _) hq
 refine ⟨h.fit,by omega,fun t ht=>?_⟩
 have hpl:=aat f
 have hT:∀ j,(f.getD j 0).natAbs<=2^TB:=fun j=>by
  have h1:=Nat.le_trans (h.b j) (aa1 (show 10<=32 by decide))
  rw[afZ,show 32*32=TB by rw[anA]] at h1
  exact h1
 have z1:1<=ZB:=by have:=arW;omega
 obtain ⟨h1,h2⟩:=als (p:=aaf f) (M:=2^TB) z1 (aad f) (fun k=>by rw[aau];exact hT k) hz' hq' t
 have e:ZB^t<=2^(32*(ZK*16)):=by
  refine Nat.le_trans (Nat.pow_le_pow_right z1 (show t<=16 by omega)) ?_
  unfold ZB
  rw[<- Nat.pow_mul,afZ]
  exact Nat.le_refl _
 constructor
 ·refine Nat.lt_of_le_of_lt h2 ?_
  refine Nat.lt_of_le_of_lt (Nat.mul_le_mul (show t<=2^4 by omega) (Nat.mul_le_mul_left (2^TB) e)) ?_
  rw[<- Nat.pow_add,<- Nat.pow_add]
  exact ahI (by rw[anA,akm];decide)
 ·exact Nat.lt_of_le_of_lt (Nat.le_trans h1 e) (ahI (by rw[akm];decide))
theorem P9.aiv {f:List Int} (h:P9 f) (j:Nat):((aaq f).getD j 0).natAbs<=BB^16:=h.pq.aiv j
theorem P9.part {f:List Int} (h:P9 f):CP (aaq f):=h.pq.part
theorem P9.aaz {f:List Int} (h:P9 f):CP (aaz (aaq f)):=h.pq.aaz
theorem P9.aiw {f:List Int} (h:P9 f):aaf (aaq f)=aaq f:=h.pq.aiw
def nall (f:List Int):Int:=if aad f<=10 then ah3 12 f (aaz f) else ah3 12 (aaq f) (aaz (aaq f))
theorem aku {k:Nat} {f g:List Int} (h:aad f=0):ah3 k f g=0:=by unfold ah3 aaN;rw[if_pos h];rfl
theorem ahJ {f:List Int} (h:aad f=0):nall f=0:=by unfold nall;rw[if_pos (by omega)];exact aku h
theorem acB {f:List Int} (hf:CP f) (hd:CP (aaz f)) (h0:aad f≠0) {xs:List Pt} (hx:Lst (fun x=>sgp f x=0) xs):nall f=xs.length:=by unfold nall;rw[if_pos hf.len];exact ahG h0 (abL hf hd).1 hx
theorem aix {f:List Int} (h:PQ f) (h0:aad f≠0) {xs:List Pt} (hx:Lst (fun x=>sgp f x=0) xs):nall f=xs.length:=by
 by_cases hl:aad f<=10
 ·exact acB (h.cp hl) (h.der hl) h0 hx
 ·have hq:=abx h.q h0
  unfold nall
  rw[if_neg hl]
  exact ahG hq.q0 (abL h.part h.aaz).1 (hx.congr fun x=>(hq.root x).symm)
theorem apn {f:List Int} (h:PQ f):nall (aaq f)=nall f:=by
 by_cases h0:aad f=0
 ·rw[abW h0,ahJ h0];exact ahJ rfl
 ·have hq:=abx h.q h0
  obtain ⟨xs,hx⟩:=abE h0 (fun _=>True)
  have hx1:Lst (fun x=>sgp f x=0) xs:=hx.congr fun x=>⟨fun h=>h.1,fun h=>⟨h,trivial⟩⟩
  rw[aix h h0 hx1,acB h.part h.aaz hq.q0 (hx1.congr fun x=>(hq.root x).symm)]
theorem apo {f:List Int} (h:PQ f):nall f=ah3 12 (aaq f) (aaz (aaq f)):=by
 rw[<- apn h]
 unfold nall
 rw[if_pos (by have:=h.pl;omega)]
noncomputable def aw4 (f:List Int) (a b:Pt):Int:=chv (aaN 12 f (aaz f)) a-chv (aaN 12 f (aaz f)) b
end Go.Proofs.YtkefcldcfeolbaaGreat
namespace Go.Proofs.YtkefcldcfeolbaaGreat
open Go.RowKit
set_option maxRecDepth 100000 in
set_option maxHeartbeats 1000000 in
theorem ahK {I:aas} (hI:IK I) (A:Option Addr) (la ca:Nat) (F:List Int) (w:World) (hf:aar I w A la ca F) (sf:SmP F) (hF:aad F≠0->QOK F) (hla:la<=1000000) :
  Calls Tryz.prog 15 #[.slice A la ca] w fun e w'=>∃ A1 l1 c1,e=.returned (.slice A1 l1 c1)/\aaB w' A1 l1 c1 (aaq F)/\Below w.heap.size w w':=by
 by_cases F0:aad F=0
 ·have hq:=Lh (abW F0)
  have hd:((aad F:Nat):Int)-1=-1:=by omega
  have Hd:=Lh hd
  clear F0 hd hF
  go_enter Tryz.func15,Tryz.ntmps15
  go_wp2_with fail
  refine (aaO _ _ _ _ _ (hf.at_ hI) sf (by omega)).mono ?_
  rintro e w1 ⟨rfl,hb1⟩
  rw[Hd.out]
  have Hb1:=Lh hb1
  clear hf hb1
  go_wp2
  go_ret
  exact ⟨_,_,_,rfl,by rw[hq.out];exact aar.nil _ _ _ _,Hb1.out⟩
 have PF:=abx (hF F0) F0
 have hlen:=(hF F0).len
 have Hdf:Hid (((aad F:Nat):Int)-1=((aad F-1:Nat):Int)):=Lh (by omega)
 have tP:=ajj F
 have hl1:aad (aal F)<=16:=by rw[ac9];exact hlen
 obtain ⟨P,hP⟩:∃ P,P=aal F:=⟨_,rfl⟩
 obtain ⟨D,hD⟩:∃ D,D=ap5 F:=⟨_,rfl⟩
 obtain ⟨Q,hQ⟩:∃ Q,Q=aaq F:=⟨_,rfl⟩
 have ga:=PF.ga
 have fP:=PF.fp
 have fdr:=PF.fr
 have fd:=PF.fd
 have d0:=PF.d0
 have dl:=PF.dl
 have ok:=PF.ok
 have he:=PF.e
 rw[<- hP] at ga ok fP fdr hl1 tP he
 rw[<- hD] at fd d0 dl ok he
 rw[<- hQ] at he
 have hDe:gres P (aaz P)=D:=by rw[hD,hP];rfl
 have HP:=Lh hP
 have HD:=Lh hDe
 have HQ:=Lh he.symm
 rw[<- hQ]
 have hpl:P.length<=16:=by rw[<- tP,aae];exact hl1
 have hdl:(aaz P).length<=16:=by rw[abm];omega
 clear PF hP hD hQ hDe he hF
 go_enter Tryz.func15,Tryz.ntmps15
 go_wp2_with fail
 refine (aaO _ _ _ _ _ (hf.at_ hI) sf (by omega)).mono ?_
 rintro e w1 ⟨rfl,hb1⟩
 rw[Hdf.out]
 have azv:¬ (((aad F-1:Nat):Int)<0):=by omega
 have hf1:=hf.below hI hb1
 have Hb1:=Lh hb1
 clear hf hb1
 go_wp2_with fail
 refine (abg hI _ _ _ _ _ hf1 sf (by omega)).mono ?_
 rintro e w3 ⟨A3,l3,c3,rfl,h3,hb3⟩
 rw[<- HP.out] at h3
 have hl3:l3<=16:=by have:=h3.length;omega
 have H3:=Lh h3
 have Hb3:=Lh (Hb1.out.trans (hb3.mono Hb1.out.size))
 clear hf1 hb3 Hb1 azv
 go_wp2_with fail
 refine (acp ikN _ _ _ _ _ h3 fP.smp (by omega)).mono ?_
 rintro e w4 ⟨A4,l4,c4,rfl,h4,hb4⟩
 have hl4:l4<=16:=by have:=h4.length;omega
 have h34:=H3.out.below ikN hb4
 have Hb4:=Lh (Hb3.out.trans (hb4.mono Hb3.out.size))
 have H34:=Lh h34
 clear h3 hb4 H3 Hb3
 go_wp2_with fail
 refine (alq ikN ikN _ _ _ P _ _ _ (aaz P) _ h34 h4 fP.smp fdr.smp (by omega) (by omega) ga).mono ?_
 rintro e w5 ⟨A5,l5,c5,rfl,h5,hb5⟩
 rw[HD.out] at h5
 have hl5:l5<=16:=by have:=h5.length;omega
 have h35:=H34.out.below ikN hb5
 have Hb5:=Lh (Hb4.out.trans (hb5.mono Hb4.out.size))
 clear h34 h4 hb5 H34 Hb4
 go_wp2_with fail
 refine (agK ikN ikN _ _ _ P _ _ _ D 1000000000 _ h35 h5 fP.smp fd (by omega) (by omega) (by omega) (by omega) ok).mono ?_
 rintro e w6 ⟨A6,l6,c6,rfl,h6,hb6⟩
 rw[HQ.out] at h6
 have H6:=Lh h6
 have Hb6:=Lh (Hb5.out.trans (hb6.mono Hb5.out.size))
 clear h35 h5 h6 hb6 Hb5
 go_wp2
 go_ret
 exact ⟨_,_,_,rfl,H6.out,Hb6.out⟩
set_option maxHeartbeats 400000 in
theorem apq (A:Option Addr) (len cap:Nat) (k:Nat) (f g:List Int) (w:World) (h:aiX w A len cap (aaN k f g)) (hs:∀ p∈aaN k f g,Elm p) (hl:(aaN k f g).length<=100) :
  Calls Tryz.prog 27 #[.slice A len cap] w fun e w'=>e=.returned (.int .i64 (ah3 k f g))/\Below w.heap.size w w':=by
 have e:=h.length
 refine (aqL _ _ _ _ _ h (fun p hp=>(hs p hp).smp) (by omega)).mono ?_
 rintro e' w' ⟨h1,h2⟩
 rw[<- e,apd,apd] at h1
 exact ⟨h1,h2⟩
set_option maxHeartbeats 400000 in
theorem avv {I:aas} (hI:IK I) (A:Option Addr) (la ca:Nat) (F:List Int) (w:World) (hf:aar I w A la ca F) (h9:PQ F) (hla:la<=1000000) :
  Calls Tryz.prog 12 #[.slice A la ca] w fun e w'=>e=.returned (.int .i64 (nall F))/\Below w.heap.size w w':=by
 have sf:=h9.fit.smp
 have c1:=h9.part
 have c2:=h9.aaz
 have hn:=Lh (apo h9).symm
 obtain ⟨V,hV⟩:∃ V,V=nall F:=⟨_,rfl⟩
 rw[<- hV] at hn ⊢
 clear hV
 go_enter Tryz.func12,Tryz.ntmps12
 go_wp2_with fail
 refine (ahK hI _ _ _ _ _ hf sf (fun _=>h9.q) hla).mono ?_
 rintro e w1 ⟨A1,l1,c1',rfl,h1,hb1⟩
 have hl:=h1.length
 have ht:=h9.aiw
 have hlp:=c1.len
 have hl1:l1<=10:=by rw[<- hl,<- ht,aae];exact hlp
 have Hb1:=Lh hb1
 obtain ⟨Q,hQ⟩:∃ Q,Q=aaq F:=⟨_,rfl⟩
 rw[<- hQ] at h1 c1 c2 hn
 obtain ⟨k1,k2,k3,k4⟩:=abL c1 c2
 clear hf hb1 hl ht hlp hQ
 go_wp2_with fail
 refine (ad5 _ _ _ _ _ h1 c1.fit.smp c2.fit.smp (by omega) 12 k1 (by omega)).mono ?_
 rintro e w2' ⟨A2,l2,c2',rfl,h2,hb2⟩
 have Hb2:=Lh (Hb1.out.trans (hb2.mono Hb1.out.size))
 clear h1 hb2 Hb1
 go_wp2_with fail
 refine (apq _ _ _ _ _ _ _ h2 k2 (by omega)).mono ?_
 rintro e w3 ⟨he,hb3⟩
 have he2:e=.returned (.int .i64 V):=by rw[he,<- hn.out]
 subst he2
 have Hb3:=Lh (Hb2.out.trans (hb3.mono Hb2.out.size))
 clear h2 hb3 Hb2 he
 go_wp2
 go_ret
 exact ⟨rfl,Hb3.out⟩
noncomputable def aeJ (f:List Int) (z:Int) (q:Nat) (z':Int) (q':Nat):Int:=if z*(q':Int)<z'*(q:Int) then aw4 (aaq f) (Pt.of ((z:Rat) / (q:Rat))) (Pt.of ((z':Rat) / (q':Rat))) else 0
set_option maxRecDepth 100000 in
set_option maxHeartbeats 4000000 in
theorem apr {I:aas} (hI:IK I) (Af:Option Addr) (lf cf:Nat) (f:List Int) (n:Bool) (A:Option Addr) (l c:Nat) (B:Option Addr) (m d q:Nat) (z:Int) (n':Bool) (A':Option Addr) (l' c':Nat) (B':Option Addr) (m' d' q':Nat) (z':Int) (w:World) (hf:aar I w Af lf cf f) (hfm:lf<=1000000) (h9:PQ f)
  (hz:aaA w n A l c z) (hq:aaT w B m d q) (hz':aaA w n' A' l' c' z') (hq':aaT w B' m' d' q') (ha:aun z q) (ha':aun z' q') (z8:z.natAbs<=ZB) (q8:q<=ZB) (z8':z'.natAbs<=ZB) (q8':q'<=ZB) :
  Calls Tryz.prog 52 #[.slice Af lf cf,.agg #[.bool n,.slice A l c,.slice B m d],.agg #[.bool n',.slice A' l' c',.slice B' m' d']] w fun e w'=>e=.returned (.int .i64 (aeJ f z q z' q'))/\Below w.heap.size w w':=by
 have o1:=aak w (aa0 n A l c B m d)
 have o2:=aak (w.alloc (aa0 n A l c B m d)) (aa0 n' A' l' c' B' m' d')
 have b2:Below w.heap.size w ((w.alloc (aa0 n A l c B m d)).alloc (aa0 n' A' l' c' B' m' d')):=o1.alloc (by simp) _
 have R1:=(aci.make hz hq).move o2
 have R2:=aci.make (hz'.below o1) (hq'.below o1)
 simp only[World.size_alloc] at R2
 have hf2:=hf.below hI b2
 replace R1:=Lh R1
 replace R2:=Lh R2
 have HF:=Lh hf2
 have Hb:=Lh b2
 obtain ⟨V,hV⟩:∃ V,V=aeJ f z q z' q':=⟨_,rfl⟩
 rw[<- hV]
 have HV:=Lh hV
 have hp:=ha.pos
 have hp':=ha'.pos
 have sf:=h9.fit.smp
 have c1:=h9.part
 have c2:=h9.aaz
 have ht:=h9.aiw
 have x0:=R1.out.c0
 have x1:=R1.out.c1
 have x2:=R1.out.c2
 have y0:=R2.out.c0
 have y1:=R2.out.c1
 have y2:=R2.out.c2
 clear o1 o2 b2 hz hq hz' hq' hf hV hf2
 go_enter Tryz.func52,Tryz.ntmps52
 go_wp2_with fail
 refine (ag6 _ _ _ _ _ _ _ _ _ _ _ _ _ _ _ _ _ _ _ R1.out.hz.at_ R1.out.hq.at_ R2.out.hz.at_ R2.out.hq.at_ (by omega) (by omega) ha.u ha.v ha'.u ha'.v).mono ?_
 rintro e w2 ⟨rfl,hb2⟩
 replace R1:=Lh (R1.out.move hb2)
 replace R2:=Lh (R2.out.move hb2)
 replace HF:=Lh (HF.out.below hI hb2)
 replace Hb:=Lh (Hb.out.trans (hb2.mono Hb.out.size))
 clear hb2 x0 x1 x2 y0 y1 y2
 obtain ⟨C,hC⟩:∃ C,C=afd (z*(q':Int)) (z'*(q:Int)):=⟨_,rfl⟩
 rw[<- hC]
 by_cases hlt:z*(q':Int)<z'*(q:Int)
 ·have hcm:¬ (0<=C):=by rw[hC];unfold afd;rw[if_pos hlt];omega
  obtain ⟨Q,hQ⟩:∃ Q,Q=aaq f:=⟨_,rfl⟩
  obtain ⟨PS,hPS⟩:∃ PS,PS=aaN 12 Q (aaz Q):=⟨_,rfl⟩
  rw[<- hQ] at c1 c2 ht
  obtain ⟨k1,k2,k3,k4⟩:=abL c1 c2
  rw[<- hPS] at k2 k4
  obtain ⟨N1,hN1⟩:∃ N,N=(vst (PS.map (sat z q)) PS.length).1:=⟨_,rfl⟩
  obtain ⟨N2,hN2⟩:∃ N,N=(vst (PS.map (sat z' q')) PS.length).1:=⟨_,rfl⟩
  have hVe:V=(N1:Int)-(N2:Int):=by
   rw[HV.out]
   unfold aeJ aw4
   rw[if_pos hlt,hN1,hN2,amw hp,amw hp',hPS,hQ]
  have n1:=(afD (PS.map (sat z q)) PS.length).1
  have n2:=(afD (PS.map (sat z' q')) PS.length).1
  rw[<- hN1] at n1
  rw[<- hN2] at n2
  have HVe:=Lh hVe
  have HN1:=Lh hN1
  have HN2:=Lh hN2
  have HQ:=Lh hQ
  have HPS:=Lh hPS
  have hlq:Q.length<=10:=by rw[<- ht,aae];exact c1.len
  have hw:IntKind.i64.wrap ((N1:Int)-(N2:Int))=(N1:Int)-(N2:Int):=IntWalk.i64_in _ (by omega)
  have K2:=Lh k2
  clear hVe hC hN1 hN2 hlt hQ hPS k2 ht
  go_wp2_with fail
  refine (ahK hI _ _ _ _ _ HF.out sf (fun _=>h9.q) hfm).mono ?_
  rintro e w3 ⟨A3,l3,c3,rfl,h3,hb3⟩
  rw[<- HQ.out] at h3
  have hl3:l3<=10:=by have:=h3.length;omega
  replace R1:=Lh (R1.out.move hb3)
  replace R2:=Lh (R2.out.move hb3)
  replace Hb:=Lh (Hb.out.trans (hb3.mono Hb.out.size))
  clear hb3 HF
  go_wp2_with fail
  refine (ad5 _ _ _ _ _ h3 c1.fit.smp c2.fit.smp (by omega) 12 k1 (by omega)).mono ?_
  rintro e w4 ⟨A4,l4,c4,rfl,h4,hb4⟩
  rw[<- HPS.out] at h4
  obtain rfl:l4=PS.length:=h4.length.symm
  have HC:=Lh h4
  replace R1:=Lh (R1.out.move hb4)
  replace R2:=Lh (R2.out.move hb4)
  replace Hb:=Lh (Hb.out.trans (hb4.mono Hb.out.size))
  clear hb4 h3 h4
  have x0:=R1.out.c0
  have x1:=R1.out.c1
  have x2:=R1.out.c2
  have y0:=R2.out.c0
  have y1:=R2.out.c1
  have y2:=R2.out.c2
  have hlp:PS.length<=1000000:=by omega
  have e1:∀ p∈PS,ajf z q p:=fun p hp=>(K2.out p hp).at z8 q8
  have e2:∀ p∈PS,ajf z' q' p:=fun p hp=>(K2.out p hp).at z8' q8'
  obtain ⟨L,hL⟩:∃ L,L=PS.length:=⟨_,rfl⟩
  rw[<- hL] at HC HN1 HN2 hlp n1 n2 k4 ⊢
  obtain ⟨wb,hwb⟩:∃ wb,wb=w4:=⟨_,rfl⟩
  rw[<- hwb] at R1 R2 HC Hb x0 x1 x2 y0 y1 y2 ⊢
  clear hL hwb
  go_wp2_with fail
  go_region_held3 (fun w'=>w'.cell? ⟨w.heap.size,0,none⟩=some (.bool n)/\w'.cell? ⟨w.heap.size,1,none⟩=some (.slice A l c)/\w'.cell? ⟨w.heap.size,2,none⟩=some (.slice B m d)/\w'.cell? ⟨w.heap.size+1,0,none⟩=some (.bool n')/\w'.cell? ⟨w.heap.size+1,1,none⟩=some (.slice A' l' c')/\w'.cell? ⟨w.heap.size+1,2,none⟩=some (.slice B' m' d')) (go_keep) (first
   | (go_at_call 48;(have _hx:=G7);go_must (refine (afS _ _ _ PS _ _ _ _ _ _ _ _ _ _ ?_ ?_ ?_ ha' e2 hlp).mono ?_;(exact ((HC.out.below G7.out).below Bel.go));(exact (R2.out.move G7.out).hz.below Bel.go);(exact (R2.out.move G7.out).hq.below Bel.go);rintro e w9 ⟨rfl,hb9⟩;rw[show (vst (PS.map (sat z' q')) L).1=N2 from HN2.out.symm];have G9:Hid (Below wb.heap.size wb w9):=Lh (G7.out.trans ((Below.trans Bel.go (hb9.mono (by simp<;>omega))).mono G7.out.size));obtain ⟨hcx,hfx⟩:=aao hb9;have j0:World.cell? w9 ⟨w.heap.size,0,none⟩=some (.bool n):=(hcx _ (by go_simp)).trans (by go_simp);have j0b:World.cell? w9 ⟨w.heap.size,1,none⟩=some (.slice A l c):=(hcx _ (by go_simp)).trans (by go_simp);have j0c:World.cell? w9 ⟨w.heap.size,2,none⟩=some (.slice B m d):=(hcx _ (by go_simp)).trans (by go_simp);have j0d:World.cell? w9 ⟨w.heap.size+1,0,none⟩=some (.bool n'):=(hcx _ (by go_simp)).trans (by go_simp);have j0e:World.cell? w9 ⟨w.heap.size+1,1,none⟩=some (.slice A' l' c'):=(hcx _ (by go_simp)).trans (by go_simp);have j0f:World.cell? w9 ⟨w.heap.size+1,2,none⟩=some (.slice B' m' d'):=(hcx _ (by go_simp)).trans (by go_simp);clear hcx hfx hb9))
   | (go_at_call 48;go_must (refine (afS _ _ _ PS _ _ _ _ _ _ _ _ _ _ ?_ ?_ ?_ ha e1 hlp).mono ?_;(exact HC.out.below Bel.go);(exact R1.out.hz.below Bel.go);(exact R1.out.hq.below Bel.go);rintro e w7 ⟨rfl,hb7⟩;rw[show (vst (PS.map (sat z q)) L).1=N1 from HN1.out.symm];have G7:Hid (Below wb.heap.size wb w7):=Lh (Below.trans Bel.go (hb7.mono (by simp<;>omega)));obtain ⟨hcx,hfx⟩:=aao hb7;have i0:World.cell? w7 ⟨w.heap.size,0,none⟩=some (.bool n):=(hcx _ (by go_simp)).trans (by go_simp);have i0b:World.cell? w7 ⟨w.heap.size,1,none⟩=some (.slice A l c):=(hcx _ (by go_simp)).trans (by go_simp);have i0c:World.cell? w7 ⟨w.heap.size,2,none⟩=some (.slice B m d):=(hcx _ (by go_simp)).trans (by go_simp);have i0d:World.cell? w7 ⟨w.heap.size+1,0,none⟩=some (.bool n'):=(hcx _ (by go_simp)).trans (by go_simp);have i0e:World.cell? w7 ⟨w.heap.size+1,1,none⟩=some (.slice A' l' c'):=(hcx _ (by go_simp)).trans (by go_simp);have i0f:World.cell? w7 ⟨w.heap.size+1,2,none⟩=some (.slice B' m' d'):=(hcx _ (by go_simp)).trans (by go_simp);clear hcx hfx hb7)))
  rename_i hHeld
  have Hb9:=Lh (Hb.out.trans (G9.out.mono Hb.out.size))
  clear hHeld j0 j0b j0c j0d j0e j0f i0 i0b i0c i0d i0e i0f x0 x1 x2 y0 y1 y2 R1 R2 HC Hb G7 G9
  go_wp2
  go_ret
  exact ⟨by show Ending.returned (.int .i64 ((N1:Int)-(N2:Int)))=_;rw[HVe.out],Hb9.out⟩
 ·have hcm:0<=C:=by rw[hC];unfold afd;rw[if_neg hlt];split<;>omega
  have hV0:V=0:=by rw[HV.out];unfold aeJ;rw[if_neg hlt]
  have HV0:=Lh hV0
  clear hV0 hC hlt R1 R2 HF
  go_wp2_with fail
  go_ret
  exact ⟨by show Ending.returned (.int .i64 0)=_;rw[HV0.out],Hb.out⟩
structure SqF (Q:List Int) (k:Nat):Prop where
 t:aaf Q=Q
 q0:aad Q≠0
 len:aad Q<=10
 b:∀ j,(Q.getD j 0).natAbs<=BB^k
 s:∀ x,mult x Q<=1
theorem SqF.fit {Q:List Int} {k:Nat} (h:SqF Q k) (hk:k<=100):abw Q:=fun j=>Nat.lt_of_le_of_lt (h.b j) (Nat.pow_lt_pow_right (by rw[aan];decide) (by rw[abZ];omega))
theorem SqF.cp {Q:List Int} {k:Nat} (h:SqF Q k) (hk:k<=32):CP Q:=⟨h.len,fun j=>Nat.le_trans (h.b j) (aa1 hk)⟩
theorem SqF.lq {Q:List Int} {k:Nat} (h:SqF Q k):Q.length<=10:=by rw[<- h.t,aae];exact h.len
def rz (z:Int) (q:Nat):Int:=z.tdiv (Nat.gcd z.natAbs q)
def rq (z:Int) (q:Nat):Nat:=q / Nat.gcd z.natAbs q
theorem SqF.of9 {f:List Int} (h:PQ f) (h0:aad f≠0):SqF (aaq f) 16:=by
 have hq:=abx h.q h0
 exact ⟨hq.t,hq.q0,by have:=h.pl;omega,h.aiv,hq.simple⟩
theorem aps {z z':Int} {q q':Nat} (hq:0<q) (hq':0<q'):((z:Rat) / (q:Rat))<((z':Rat) / (q':Rat))↔z*(q':Int)<z'*(q:Int):=by
 have h1:(0:Rat)<((q:Nat):Rat):=by exact_mod_cast hq
 have h2:(0:Rat)<((q':Nat):Rat):=by exact_mod_cast hq'
 rw[Rat.div_lt_iff h1,show ((z':Int):Rat) / ((q':Nat):Rat)*((q:Nat):Rat)=((z':Int):Rat)*((q:Nat):Rat) / ((q':Nat):Rat) by rw[Rat.div_def,Rat.div_def];grind,Rat.lt_div_iff h2]
 rw[<- Rat.intCast_natCast,<- Rat.intCast_natCast,<- Rat.intCast_mul,<- Rat.intCast_mul,Rat.intCast_lt_intCast]
theorem aw5 {z z':Int} {q q':Nat} (hq:0<q) (hq':0<q'):Pt.of ((z:Rat) / (q:Rat))<Pt.of ((z':Rat) / (q':Rat))↔z*(q':Int)<z'*(q:Int):=by rw[Pt.aaZ,aps hq hq']
theorem Lst.append {P Q:Pt->Prop} {xs ys:List Pt} (h:Lst P xs) (h':Lst Q ys) (hpq:∀ x y,P x->Q y->x<y):Lst (fun x=>P x∨Q x) (xs ++ ys) :=
 ⟨List.pairwise_append.2 ⟨h.1,h'.1,fun x hx y hy=>hpq x y ((h.2 x).1 hx) ((h'.2 y).1 hy)⟩,fun x=>by rw[List.mem_append,h.2,h'.2]⟩
def Hf (f:List Int) (a b:Pt) (xs:List Pt):Prop:=Lst (fun x=>sgp f x=0/\a<x/\(x<b∨x=b)) xs
theorem ahL {f:List Int} (h:PQ f) (h0:aad f≠0) {z z':Int} {q q':Nat} (hq:0<q) (hq':0<q') (hlt:z*(q':Int)<z'*(q:Int)) {xs:List Pt} (hx:Hf f (Pt.of ((z:Rat) / (q:Rat))) (Pt.of ((z':Rat) / (q':Rat))) xs):aeJ f z q z' q'=xs.length:=by
 have hf:=abx h.q h0
 unfold aeJ aw4
 rw[if_pos hlt]
 exact agt hf.q0 hf.simple (abL h.part h.aaz).1 ((aw5 hq hq').2 hlt) (hx.congr fun x=>by rw[hf.root])
structure Pai (W:World) (g:Nat) (x0 x1:Int):Prop where
 c0:W.cell? ⟨g,0,none⟩=some (.int .i8 x0)
 c1:W.cell? ⟨g,1,none⟩=some (.int .i8 x1)
theorem Pai.move {W W':World} {g:Nat} {x0 x1:Int} (h:Pai W g x0 x1) (hb:Below W.heap.size W W'):Pai W' g x0 x1:=by
 obtain ⟨hc,_⟩:=aao hb
 exact ⟨(hc _ (by rw[h.c0];rfl)).trans h.c0,(hc _ (by rw[h.c1];rfl)).trans h.c1⟩
theorem Pai.make (W:World) (x0 x1:Int) (t:TypeId):Pai (W.alloc (.cells #[.int .i8 x0,.int .i8 x1] t)) W.heap.size x0 x1:=⟨by go_simp,by go_simp⟩
end Go.Proofs.YtkefcldcfeolbaaGreat
