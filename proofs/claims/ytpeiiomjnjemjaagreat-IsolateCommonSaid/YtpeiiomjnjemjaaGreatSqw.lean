/- The walks of squarefree.Part, sturm.All and sturm.Count at polynomials that are not too large. -/
import Derived.Test.YtpeiiomjnjemjaaGreatRpg
import Derived.Test.YtpeiiomjnjemjaaGreatChc
import Derived.Test.YtpeiiomjnjemjaaGreatStg
import Derived.Test.YtpeiiomjnjemjaaGreatExq
import Derived.Test.YtpeiiomjnjemjaaGreatGcx
import Derived.Test.YtpeiiomjnjemjaaGreatPart
import Derived.Test.YtpeiiomjnjemjaaGreatLes
namespace Go.Proofs.YtpeiiomjnjemjaaGreat
open Go.RowKit
theorem vst_chg (S:List Int) (hS:∀ s∈S,s=-1∨s=0∨s=1):∀ n k,k+n=S.length->((vst S k).1:Int)+chg (vst S k).2 (S.drop k)=chg (vst S (k+n)).2 (S.drop (k+n))+(vst S (k+n)).1:=by
 intro n
 induction n with
 | zero=>intro k _;rw[Nat.add_zero];omega
 | succ n ih =>
   intro k hk
   have h1:=ih (k+1) (by omega)
   rw[show k+(n+1)=k+1+n by omega,<- h1]
   have hlt:k<S.length:=by omega
   rw[List.drop_eq_getElem_cons hlt]
   have hg:S.getD k 0=S[k]:=by rw[List.getD_eq_getElem?_getD,List.getElem?_eq_getElem hlt];rfl
   have hs:=hS _ (List.getElem_mem hlt)
   have hsg:sg S[k]=S[k]:=by rcases hs with h | h | h<;>rw[h]<;>rfl
   rw[show vst S (k+1)=if sg (S.getD k 0)=0 then vst S k else (if sg (S.getD k 0)=-(vst S k).2 then (vst S k).1+1 else (vst S k).1,sg (S.getD k 0)) from rfl,hg,hsg]
   generalize S[k]=s at *
   by_cases h0:s=0
   ·rw[if_pos h0,h0,chg_zero]
   ·rw[if_neg h0]
    conv=>lhs;rw[chg,if_neg h0]
    by_cases h2:s=-(vst S k).2
    ·rw[if_pos h2,if_pos h2]
     push_cast
     omega
    ·rw[if_neg h2,if_neg h2]
theorem vst_all (S:List Int) (hS:∀ s∈S,s=-1∨s=0∨s=1):((vst S S.length).1:Int)=chg 0 S:=by
 have h:=vst_chg S hS S.length 0 (by omega)
 rw[Nat.zero_add,List.drop_length] at h
 have e1:chg (vst S S.length).2 []=0:=rfl
 have e2:vst S 0=(0,0):=rfl
 rw[e1,e2,List.drop_zero] at h
 simp only at h
 omega
theorem sge_eq (m:Bool) (f:List Int):sge m f=sgE m f:=by
 unfold sge sgE
 rcases Nat.eq_zero_or_pos (plen f) with h0 | h0
 ·have e:plead f=0:=getD_ge_plen f _ (by omega)
  rw[e]
  cases m<;>simp[sg]
 ·cases m with
  | false=>simp
  | true =>
    simp only[true_and,if_true]
    have e:((plen f:Nat):Int).tmod 2=((plen f % 2:Nat):Int):=by rw[Int.tmod_eq_emod_of_nonneg (by omega)];rfl
    rw[e]
    rcases pm_pow (plen f-1) with ⟨e1,e2⟩ | ⟨e1,e2⟩
    ·rw[e1,if_neg (by omega),Int.one_mul]
    ·rw[e1,if_pos (by omega)];omega
theorem vend_eq (m:Bool) (fs:List (List Int)):((vst (fs.map (sge m)) fs.length).1:Int)=chE m fs:=by
 have h:=vst_all (fs.map (sge m)) (fun s hs=>by
  obtain ⟨f,_,rfl⟩:=List.mem_map.1 hs
  exact sge_unit m f)
 rw[List.length_map] at h
 rw[h]
 unfold chE
 rw[List.map_congr_left fun f _=>sge_eq m f]
theorem scs_pv (p:List Int) (z q:Int):∀ t,t<=p.length->∀ (x:Rat),x*(q:Rat)=(z:Rat) ->
  (((scs p z q p.length t).1:Int):Rat)*q=(q:Rat)^t*pv (p.drop (p.length-t)) x/\((scs p z q p.length t).2:Int)=q^(t-1):=by
 intro t
 induction t with
 | zero =>
   intro _ x _
   rw[Nat.sub_zero,List.drop_length]
   refine ⟨?_,by show (1:Int)=q^0;rw[Int.pow_zero]⟩
   show ((0:Int):Rat)*_=_*(0:Rat)
   rw[Rat.mul_zero]
   exact Rat.zero_mul _
 | succ t ih =>
   intro ht x hx
   obtain ⟨h1,h2⟩:=ih (by omega) x hx
   have hpw:(scs p z q p.length (t+1)).2=q^t:=by
    show (if t=0 then (scs p z q p.length t).2 else (scs p z q p.length t).2*q)=_
    by_cases c:t=0
    ·rw[if_pos c,h2,c]
    ·rw[if_neg c,h2]
     obtain ⟨s,rfl⟩:∃ s,t=s+1:=⟨t-1,by omega⟩
     rw[Nat.add_sub_cancel,Int.pow_succ]
   refine ⟨?_,by rw[Nat.add_sub_cancel];exact hpw⟩
   have e1:(scs p z q p.length (t+1)).1=(scs p z q p.length t).1*z+p.getD (p.length-1-t) 0*(scs p z q p.length (t+1)).2:=rfl
   rw[e1,hpw]
   have hlt:p.length-1-t<p.length:=by omega
   have hd:p.drop (p.length-(t+1))=p.getD (p.length-1-t) 0 :: p.drop (p.length-t):=by
    rw[show p.length-(t+1)=p.length-1-t by omega,List.drop_eq_getElem_cons hlt,show p.length-1-t+1=p.length-t by omega]
    rw[List.getD_eq_getElem?_getD,List.getElem?_eq_getElem hlt];rfl
   rw[hd]
   show _=(q:Rat)^(t+1)*(((p.getD (p.length-1-t) 0:Int):Rat)+x*pv (p.drop (p.length-t)) x)
   generalize p.getD (p.length-1-t) 0=c at *
   generalize pv (p.drop (p.length-t)) x=v at *
   generalize (scs p z q p.length t).1=s at *
   rw[Rat.intCast_add,Rat.intCast_mul,Rat.intCast_mul,Rat.intCast_pow]
   rw[Rat.pow_succ]
   generalize (q:Rat)^t=r at *
   generalize (z:Rat)=zz at *
   subst hx
   grind
theorem sat_eq {z:Int} {q:Nat} (hq:0<q) (f:List Int):sat z q f=sgp f (Pt.of ((z:Rat) / (q:Rat))):=by
 obtain ⟨g,hg⟩:∃ g,g=Nat.gcd z.natAbs q:=⟨_,rfl⟩
 have hg0:0<g:=by rw[hg];exact Nat.gcd_pos_of_pos_right _ hq
 have hd1:(g:Int)∣z:=by rw[hg,<- Int.natAbs_dvd_natAbs,Int.natAbs_natCast];exact Nat.gcd_dvd_left _ _
 have hd2:g∣q:=by rw[hg];exact Nat.gcd_dvd_right _ _
 unfold sat
 rw[<- hg]
 obtain ⟨a,ha⟩:=hd1
 obtain ⟨b,hb⟩:=hd2
 have e1:z.tdiv (g:Int)=a:=by rw[ha,Int.mul_tdiv_cancel_left _ (by omega)]
 have e2:q / g=b:=by rw[hb,Nat.mul_div_cancel_left _ hg0]
 rw[e1,e2]
 have hb0:0<b:=Nat.pos_of_ne_zero fun h=>by rw[h,Nat.mul_zero] at hb;omega
 have hbr:(0:Rat)<(b:Rat):=by exact_mod_cast hb0
 have hgr:(0:Rat)<(g:Rat):=by exact_mod_cast hg0
 have hx:(z:Rat) / (q:Rat)*((b:Int):Rat)=((a:Int):Rat):=by
  have hgb:=Rat.mul_pos hgr hbr
  rw[ha,hb,Rat.intCast_mul,Rat.natCast_mul,Rat.intCast_natCast,Rat.intCast_natCast,Rat.div_def]
  generalize ((g:Nat):Rat)=x at *
  generalize ((b:Nat):Rat)=y at *
  generalize ((a:Int):Rat)=u at *
  grind
 obtain ⟨x,hxd⟩:∃ x,x=(z:Rat) / (q:Rat):=⟨_,rfl⟩
 rw[<- hxd] at hx ⊢
 have h:=(scs_pv (ptrim f) a (b:Int) (ptrim f).length (Nat.le_refl _) x hx).1
 rw[Nat.sub_self,List.drop_zero] at h
 have hl:=ptrim_length f
 have e3:sval f a ((b:Nat):Int)=(scs (ptrim f) a (b:Int) (ptrim f).length (ptrim f).length).1:=by unfold sval;rw[hl]
 rw[e3]
 generalize (scs (ptrim f) a (b:Int) (ptrim f).length (ptrim f).length).1=s at *
 have e4:sgp f (Pt.of x)=sgp (ptrim f) (Pt.of x):=sgp_congr (fun k=>(ptrim_getD f k).symm) _
 rw[e4]
 unfold sgp
 rw[sgf_of (lp_pv _)]
 generalize pv (ptrim f) x=v at *
 have hp:(0:Rat)<((b:Int):Rat)^(ptrim f).length:=Rat.pow_pos (by exact_mod_cast hb0)
 generalize ((b:Int):Rat)^(ptrim f).length=r at *
 have hbr':(0:Rat)<((b:Int):Rat):=by exact_mod_cast hb0
 generalize ((b:Int):Rat)=bb at *
 rcases sg_cases s with ⟨hs,e⟩ | ⟨hs,e⟩ | ⟨hs,e⟩
 ·rw[e]
  have hs':(s:Rat)<0:=by exact_mod_cast hs
  have hv:v<0:=by
   refine Classical.byContradiction fun hc=>?_
   have h1:0<=r*v:=Rat.mul_nonneg (Rat.le_of_lt hp) (by grind)
   have h2:0<(-(s:Rat))*bb:=Rat.mul_pos (by grind) hbr'
   grind
  rw[if_neg (by grind),if_pos hv]
 ·rw[e]
  have hs':(s:Rat)=0:=by rw[hs];rfl
  have hv:v=0:=by
   rw[hs',Rat.zero_mul] at h
   rcases Rat.mul_eq_zero.1 h.symm with h1 | h1
   ·exact absurd h1 (by grind)
   ·exact h1
  rw[if_neg (by grind),if_neg (by grind)]
 ·rw[e]
  have hs':0<(s:Rat):=by exact_mod_cast hs
  have hv:0<v:=by
   refine Classical.byContradiction fun hc=>?_
   have h1:0<=r*(-v):=Rat.mul_nonneg (Rat.le_of_lt hp) (by grind)
   have h2:0<(s:Rat)*bb:=Rat.mul_pos hs' hbr'
   grind
  rw[if_pos hv]
theorem vat_eq {z:Int} {q:Nat} (hq:0<q) (fs:List (List Int)):((vst (fs.map (sat z q)) fs.length).1:Int)=chv fs (Pt.of ((z:Rat) / (q:Rat))):=by
 have h:=vst_all (fs.map (sat z q)) (fun s hs=>by
  obtain ⟨f,_,rfl⟩:=List.mem_map.1 hs
  exact sat_unit z q f)
 rw[List.length_map] at h
 rw[h]
 unfold chv
 rw[List.map_congr_left fun f _=>sat_eq hq f]
theorem pred_mul (f:List Int):∃ d:Int,0<d/\∀ k,f.getD k 0=d*(pred f).getD k 0:=by
 by_cases h0:plen f=0
 ·refine ⟨1,by omega,fun k=>?_⟩
  rw[getD_ge_plen f k (by omega),getD_ge_plen (pred f) k (by rw[pred_plen];omega)];rfl
 ·refine ⟨(pcont f:Int),by have:=Nat.pos_of_ne_zero (pcont_ne h0);omega,fun k=>?_⟩
  rw[pred_psd h0,psd_get]
  have h1:=Int.mul_tdiv_add_tmod (f.getD k 0) (pcont f:Int)
  rw[tmod_cont f k] at h1
  omega
theorem pred_ev (f:List Int):∃ d:Int,0<d/\∀ x,ev f x=d*ev (pred f) x:=by
 obtain ⟨d,hd,h⟩:=pred_mul f
 refine ⟨d,hd,fun x=>?_⟩
 rw[<- ev_psc]
 exact ev_congr (fun k=>by rw[psc_get,h k]) x
theorem pred_peq (f:List Int):PEq f (pred f):=by
 obtain ⟨d,hd,h⟩:=pred_mul f
 exact ⟨1,d,by omega,hd,fun k=>by rw[h k];omega⟩
theorem pred_sgp (f:List Int) (x:Pt):sgp (pred f) x=sgp f x:=((pred_peq f).sgp x).symm
theorem ev_pmn (f:List Int) (x:Int):ev (pmn f) x=- ev f x:=by
 have:ev (pmn f) x=ev (psc (-1) f) x:=ev_congr (fun k=>by rw[pmn_get,psc_get];omega) x
 rw[this,ev_psc];omega
theorem ev_ptrim (f:List Int) (x:Int):ev (ptrim f) x=ev f x:=ev_congr (fun k=>ptrim_getD f k) x
theorem nrem_rel {a b:List Int} (ha:plen a=a.length) (hb:plen b=b.length) (h1:1<=plen b):Rel a b (nrem a b):=by
 have hps:=fun x=>rps_ev a b h1 x
 have hst:plen a-(plen b-1)=a.length+1-b.length:=by omega
 rw[hst] at hps
 have hl0:plead b≠0:=plead_ne (by omega)
 obtain ⟨d,hd,hr⟩:=pred_ev (psr a b)
 unfold nrem
 generalize a.length+1-b.length=s at *
 split
 ·rename_i hc
  have hneg:plead b^s<0:=by
   obtain ⟨m,rfl⟩:∃ m,s=2*m+1:=⟨s / 2,by omega⟩
   rw[Int.pow_succ,Int.pow_mul]
   have:0<(plead b^2)^m:=Int.pow_pos (by rw[show plead b^2=plead b*plead b by rw[Int.pow_succ,Int.pow_succ,Int.pow_zero,Int.one_mul]];have:=Int.mul_pos_of_neg_of_neg hc.2 hc.2;omega)
   have h2:=Int.mul_pos this (show 0 < -plead b by omega)
   rw[Int.mul_neg] at h2
   omega
  refine ⟨-(plead b^s),psc (-1) (psq a b),d,by omega,hd,fun x=>?_⟩
  have h2:=hps x
  rw[hr x] at h2
  rw[ev_psc]
  grind
 ·rename_i hc
  have hpos:0<plead b^s:=by
   rcases Int.lt_or_lt_of_ne hl0 with hn | hp
   ·obtain ⟨m,rfl⟩:∃ m,s=2*m:=⟨s / 2,by omega⟩
    rw[Int.pow_mul]
    exact Int.pow_pos (by rw[show plead b^2=plead b*plead b by rw[Int.pow_succ,Int.pow_succ,Int.pow_zero,Int.one_mul]];have:=Int.mul_pos_of_neg_of_neg hn hn;omega)
   ·exact Int.pow_pos hp
  refine ⟨plead b^s,psq a b,d,hpos,hd,fun x=>?_⟩
  have h2:=hps x
  rw[hr x] at h2
  rw[ev_pmn,ev_ptrim]
  grind
theorem chn_sch:∀ (k:Nat) (a b:List Int),plen a≠0->plen a=a.length->plen b=b.length->chOK k a b->SCh (a :: chn k a b)
 | 0,_,_,_,_,_,h=>h.elim
 | k+1,a,b,h0,ha,hb,hok=>by
   by_cases c:b=[]
   ·rw[chn,if_pos c];exact h0
   ·rw[chn,if_neg c]
    rcases hok with hok | ⟨hf,hok⟩
    ·exact absurd hok c
    have hr:=nrem_rel ha hb hf.b1
    have hne:plen b≠0:=by have:=hf.b1;omega
    have ih:=chn_sch k b (nrem a b) hne hb (by rw[nrem_plen,nrem_len]) hok
    by_cases ce:nrem a b=[]
    ·have e:chn k b (nrem a b)=[]:=by
      cases k with
      | zero=>rfl
      | succ k=>rw[chn,if_pos ce]
     rw[e]
     rw[ce] at hr
     exact ⟨h0,hne,hr⟩
    ·cases k with
     | zero=>exact hok.elim
     | succ k =>
       rw[chn,if_neg ce] at ih ⊢
       exact ⟨h0,hr,ih⟩
theorem pchain_sch {k:Nat} {f g:List Int} (h0:plen f≠0) (hok:chOK k (pred f) (pred g)):pchain k f g=pred f :: chn k (pred f) (pred g)/\SCh (pred f :: chn k (pred f) (pred g)) :=
 ⟨by unfold pchain;rw[if_neg h0],chn_sch k _ _ (by rw[pred_plen];exact h0) (by rw[pred_plen,pred_len]) (by rw[pred_plen,pred_len]) hok⟩
theorem chn_jmp {k:Nat} {f g:List Int} (h0:plen f≠0) (hk:1<=k) (x:Pt):jmph x (pred f) (chn k (pred f) (pred g))=if plen g=0 then 0 else jmp x f g:=by
 obtain ⟨j,rfl⟩:∃ j,k=j+1:=⟨k-1,by omega⟩
 by_cases c:plen g=0
 ·have e:pred g=[]:=List.eq_nil_of_length_eq_zero (by rw[pred_len,c])
  rw[chn,if_pos e,if_pos c];rfl
 ·have e:pred g≠[]:=fun h=>by have:=pred_len g;rw[h] at this;exact c this.symm
  rw[chn,if_neg e,if_neg c]
  show jmp x (pred f) (pred g)=_
  exact ((pred_peq f).jmp (pred_peq g) x h0 c).symm
theorem chOK_pos {k:Nat} {a b:List Int} (h:chOK k a b):1<=k:=by
 cases k with
 | zero=>exact h.elim
 | succ k=>omega
noncomputable def jm (x:Pt) (f g:List Int):Int:=if plen g=0 then 0 else jmp x f g
def pline (k:Nat) (f g:List Int):Int:=chE true (pchain k f g)-chE false (pchain k f g)
theorem pline_jm {k:Nat} {f g:List Int} (h0:plen f≠0) (hok:chOK k (pred f) (pred g)) {xs:List Pt} (hx:Lst (fun x=>sgp f x=0) xs):pline k f g=isum (xs.map fun x=>jm x f g):=by
 obtain ⟨e,h⟩:=pchain_sch h0 hok
 unfold pline
 rw[e,sturm_line h (hx.congr fun x=>by rw[pred_sgp])]
 congr 1
 exact List.map_congr_left fun x _=>chn_jmp h0 (chOK_pos hok) x
theorem pint_jm {k:Nat} {f g:List Int} (h0:plen f≠0) (hok:chOK k (pred f) (pred g)) {a b:Pt} (hab:a<b) (ha:sgp f a≠0) (hb:sgp f b≠0) {xs:List Pt} (hx:Lst (fun x=>sgp f x=0/\a<x/\x<b) xs) :
  chv (pchain k f g) a-chv (pchain k f g) b=isum (xs.map fun x=>jm x f g):=by
 obtain ⟨e,h⟩:=pchain_sch h0 hok
 rw[e,sturm h hab (by rw[pred_sgp];exact ha) (by rw[pred_sgp];exact hb) (hx.congr fun x=>by rw[pred_sgp])]
 congr 1
 exact List.map_congr_left fun x _=>chn_jmp h0 (chOK_pos hok) x
theorem root_der {f:List Int} (h0:plen f≠0) {x:Pt} (hx:sgp f x=0):plen (pder f)≠0:=(mult_pder h0 hx).2
theorem jm_der {f:List Int} (h0:plen f≠0) {x:Pt} (hx:sgp f x=0):jm x f (pder f)=1:=by
 unfold jm
 rw[if_neg (root_der h0 hx)]
 exact jmp_one h0 hx
theorem pline_count {k:Nat} {f:List Int} (h0:plen f≠0) (hok:chOK k (pred f) (pred (pder f))) {xs:List Pt} (hx:Lst (fun x=>sgp f x=0) xs):pline k f (pder f)=xs.length:=by
 rw[pline_jm h0 hok hx]
 exact isum_one xs fun x h=>jm_der h0 ((hx.2 x).1 h)
theorem pint_count {k:Nat} {f:List Int} (h0:plen f≠0) (hok:chOK k (pred f) (pred (pder f))) {a b:Pt} (hab:a<b) (ha:sgp f a≠0) (hb:sgp f b≠0) {xs:List Pt} (hx:Lst (fun x=>sgp f x=0/\a<x/\x<b) xs) :
  chv (pchain k f (pder f)) a-chv (pchain k f (pder f)) b=xs.length:=by
 rw[pint_jm h0 hok hab ha hb hx]
 exact isum_one xs fun x h=>jm_der h0 ((hx.2 x).1 h).1
end Go.Proofs.YtpeiiomjnjemjaaGreat
namespace Go.Proofs.YtpeiiomjnjemjaaGreat
open Go.RowKit
noncomputable def GK:Nat:=Classical.choose (⟨3000,rfl⟩:∃ n:Nat,n=3000)
theorem GK_eq:GK=3000:=Classical.choose_spec (⟨3000,rfl⟩:∃ n:Nat,n=3000)
theorem gok_big {G m n:Nat} (hs:m+n<=32) (hG:1<=G) (hb:G<BB^90):GOK G m n 0 1100:=by
 have mul:∀ {a b:Nat},a<=34->b<=32->a*b<=1100:=fun {a b} ha hb=>Nat.le_trans (Nat.mul_le_mul ha hb) (by decide)
 refine ⟨?_,hG,by omega,fun x h1 y h2 h3 h4=>mul (by omega) (by omega),fun x h1 y h2 h3 h4=>mul (by omega) (by omega),fun y h1 z h2 h3 h4 h5=>mul (by omega) (by omega),by omega⟩
 obtain ⟨K,hK⟩:∃ K,K=1100:=⟨_,rfl⟩
 rw[<- hK]
 calc G^K<(BB^90)^K:=Nat.pow_lt_pow_left hb (by omega)
  _=BB^(90*K):=by rw[<- Nat.pow_mul]
  _<=BB^FW:=Nat.pow_le_pow_right BB_pos (by rw[FW_eq];omega)
theorem bbk_le {a b:Nat} (h:a<=b):BB^a<=BB^b:=Nat.pow_le_pow_right BB_pos h
theorem bbk_mul {c k:Nat} (hc:c<=4294967296):c*BB^k<=BB^(k+1):=by
 rw[Nat.pow_succ,Nat.mul_comm]
 exact Nat.mul_le_mul_left _ (by rw[BB_eq];exact hc)
theorem gc_big {f g:List Int} (hs:plen f+plen g<=34) (hf:∀ j,(f.getD j 0).natAbs<=BB^80) (hg:∀ j,(g.getD j 0).natAbs<=BB^80) (f0:plen f≠0) (g0:plen g≠0):GC f g 0 (BB^80):=by
 have h1:1<=BB^80:=Nat.pow_pos BB_pos
 refine ⟨f0,g0,hs,by omega,by omega,fun p _ h=>by omega,fun j=>Nat.le_trans (pprim_abs f j) (hf j),fun j=>Nat.le_trans (pprim_abs g j) (hg j),h1,fun m n h3 h4 h5 h6=>⟨1100,gok_big (by omega) (by omega) ?_⟩,?_⟩
 ·have h7:BB^80*32<=BB^81:=by rw[Nat.mul_comm];exact bbk_mul (by decide)
  exact Nat.lt_of_le_of_lt h7 (Nat.pow_lt_pow_right (by rw[BB_eq];decide) (by decide))
 ·rw[pconts_two]
  have:=gcd_le_r (a:=pcont f) (pcont_ne g0) (pcont_le g0 hg)
  omega
theorem ga_big {f g:List Int} (hs:plen f+plen g<=34) (hf:∀ j,(f.getD j 0).natAbs<=BB^80) (hg:∀ j,(g.getD j 0).natAbs<=BB^80):GAny f g:=by
 by_cases f0:plen f=0
 ·exact .inl f0
 by_cases g0:plen g=0
 ·exact .inr (.inl g0)
 exact .inr (.inr ⟨_,_,gc_big hs hf hg f0 g0⟩)
theorem gres_bd2 {f g:List Int} (hs:plen f+plen g<=34) (hf:∀ j,(f.getD j 0).natAbs<=BB^80) (hg:∀ j,(g.getD j 0).natAbs<=BB^80) (j:Nat):((gres f g).getD j 0).natAbs<=BB^GK:=by
 have up:∀ p:List Int,(∀ j,(p.getD j 0).natAbs<=BB^80)->((ppos p).getD j 0).natAbs<=BB^GK:=fun p hp=>by
  have h2:BB^80<=BB^GK:=bbk_le (by rw[GK_eq];decide)
  rcases ppos_or p with ⟨h1,_⟩ | ⟨h1,_⟩
  ·rw[h1];exact Nat.le_trans (hp j) h2
  ·rw[h1,Int.natAbs_neg];exact Nat.le_trans (hp j) h2
 unfold gres
 split
 ·exact up g hg
 ·rename_i f0
  split
  ·exact up f hf
  ·rename_i g0
   have hc:=gc_big hs hf hg f0 g0
   obtain ⟨hi,_,_,h4,_⟩:=hc.all
   have hD:=hi.ne
   rw[gp_get hD,Int.natAbs_mul,Int.natAbs_mul,Int.natAbs_natCast]
   have c1:(sg (plead (gval f g))).natAbs<=1:=by rcases sg_cases (plead (gval f g)) with ⟨_,e⟩ | ⟨_,e⟩ | ⟨_,e⟩<;>rw[e]<;>decide
   have c2:pcont (gval f g)<=BB^80:=by
    rw[hi.cont]
    exact gcd_le_r (pcont_ne g0) (pcont_le g0 hg)
   have c3:=h4 j
   obtain ⟨K,hK⟩:∃ K,K=81*34:=⟨_,rfl⟩
   have c4:(BB^80*32)^(max 1 (plen f+plen g-2*plen (gval f g)))<=BB^K:=by
    have h7:BB^80*32<=BB^81:=by rw[Nat.mul_comm];exact bbk_mul (by decide)
    have h8:1<=BB^80:=Nat.pow_pos BB_pos
    calc (BB^80*32)^(max 1 (plen f+plen g-2*plen (gval f g)))<=(BB^80*32)^34:=Nat.pow_le_pow_right (by omega) (by omega)
     _<=(BB^81)^34:=Nat.pow_le_pow_left h7 _
     _=BB^K:=by rw[<- Nat.pow_mul,hK]
   calc (sg (plead (gval f g))).natAbs*pcont (gval f g)*((pprim (gval f g)).getD j 0).natAbs<=1*BB^80*BB^K:=Nat.mul_le_mul (Nat.mul_le_mul c1 c2) (Nat.le_trans c3 c4)
    _=BB^(80+K):=by rw[Nat.one_mul,<- Nat.pow_add]
    _<=BB^GK:=bbk_le (by rw[GK_eq];omega)
theorem fbb_le (X:Nat):∀ n V,fbb X V n<=V*(2*X+3)^n
 | 0,V=>by show V<=V*1;omega
 | n+1,V=>by
   have h:=fbb_le X n (2*V)
   have h1:1<=(2*X+3)^n:=Nat.one_le_pow _ _ (by omega)
   have h2:V*1<=V*(2*X+3)^n:=Nat.mul_le_mul_left V h1
   have h3:=Nat.mul_le_mul_left (1+X) h
   have e:(1+X)*(2*V*(2*X+3)^n)+V*(2*X+3)^n=V*(2*X+3)^(n+1):=by
    rw[Nat.pow_succ]
    generalize (2*X+3)^n=r
    grind
   show (1+X)*fbb X (2*V) n+V<=_
   omega
theorem factor_le {p q g:List Int} {k:Nat} (hp:plen p<=16) (p0:plen p≠0) (hM:∀ j,(p.getD j 0).natAbs<=BB^k) (h:∀ x,ev p x=ev g x*ev q x) (j:Nat):(q.getD j 0).natAbs<=BB^(k+6):=by
 refine Nat.le_trans (factor_bd (n:=15) (M:=BB^k) hp p0 hM h j) (Nat.le_trans (fbb_le _ _ _) ?_)
 have e:16*31^15*65^15<=BB^6:=by rw[BB_eq];first | decide +kernel | (rw[FW_eq];decide +kernel)
 calc (15+1)*(BB^k*(2*15+1)^15)*(2*(2*15+1)+3)^15=BB^k*(16*31^15*65^15):=by
       generalize BB^k=r
       have:∀ a b:Nat,(15+1)*(r*a)*b=r*(16*a*b):=fun a b=>by
        rw[Nat.mul_comm r (16*a*b),show (15+1)*(r*a)*b=16*r*a*b by rw[Nat.mul_assoc 16 r a]]
        rw[Nat.mul_right_comm 16 r a,Nat.mul_right_comm (16*a) r b]
       exact this _ _
  _<=BB^k*BB^6:=Nat.mul_le_mul_left _ e
  _=BB^(k+6):=by rw[Nat.pow_add]
theorem mult_ev {p r:List Int} (h:∀ t,ev p t=ev r t) (p0:plen p≠0) (x:Pt):mult x p=mult x r:=by
 have hk:=ev_inj h
 exact (PEq.mult (f:=p) (g:=r) ⟨1,1,by decide,by decide,fun k=>by rw[hk k]⟩ x p0).1
theorem mult_ev_mul {p a b:List Int} (h:∀ t,ev p t=ev a t*ev b t) (a0:plen a≠0) (b0:plen b≠0) (x:Pt):mult x p=mult x a+mult x b:=by
 have h1:∀ t,ev (polymul a b) t=ev p t:=fun t=>by rw[ev_mul,h]
 rw[<- mult_mul a0 b0 x,mult_ev h1 (polymul_ne a0 b0)]
theorem mult_const {c:Int} (hc:c≠0) (x:Pt):mult x [c]=0:=by
 have h1:plen [c]=1:=plen_one hc
 rw[mult_zero (by omega),sgp_const]
 exact sg_ne hc
theorem mult_cmul {p r:List Int} {c:Int} (hc:c≠0) (h:∀ t,ev r t=c*ev p t) (p0:plen p≠0) (x:Pt):mult x r=mult x p:=by
 rw[mult_ev_mul (a:=[c]) (b:=p) (fun t=>by rw[h t,ev_const]) (by rw[plen_one hc];decide) p0 x,mult_const hc,Nat.zero_add]
theorem plen_ev {p r:List Int} (h:∀ t,ev p t=ev r t):plen p=plen r:=plen_congr (ev_inj h)
theorem plen_cmul {p r:List Int} {c:Int} (hc:c≠0) (h:∀ t,ev r t=c*ev p t):plen r≠0↔plen p≠0:=by
 have h1:∀ t,ev r t=ev [c] t*ev p t:=fun t=>by rw[h t,ev_const]
 constructor
 ·intro hr hp
  refine hr ?_
  rw[plen_ev (p:=r) (r:=[]) fun t=>by rw[h t,ev_congr (p:=p) (q:=[]) (fun k=>by rw[getD_ge_plen p k (by omega)];rfl),ev_nil,Int.mul_zero]]
  rfl
 ·intro hp
  rw[plen_ev (p:=r) (r:=polymul [c] p) fun t=>by rw[ev_mul,h1]]
  exact polymul_ne (by rw[plen_one hc];decide) hp
theorem dvq_mult {f g:List Int} (h:Dvq f g) (g0:plen g≠0) (x:Pt):mult x f<=mult x g:=by
 obtain ⟨c,q,hc,e⟩:=h
 have e1:∀ t,ev (psc c g) t=ev q t*ev f t:=fun t=>by rw[ev_psc,e]
 have n1:plen (psc c g)≠0:=(plen_cmul hc (fun t=>ev_psc _ _ _)).2 g0
 have hne:plen q≠0/\plen f≠0:=by
  constructor
  ·intro hq
   exact n1 (by rw[plen_ev (r:=polymul q f) fun t=>by rw[ev_mul,e1]];exact rmul_zero (.inl hq))
  ·intro hq
   exact n1 (by rw[plen_ev (r:=polymul q f) fun t=>by rw[ev_mul,e1]];exact rmul_zero (.inr hq))
 have h1:=mult_ev_mul e1 hne.1 hne.2 x
 rw[mult_cmul hc (fun t=>ev_psc _ _ _) g0] at h1
 omega
theorem comb_mult {f g d:List Int} (h:Comb f g d) (d0:plen d≠0) (x:Pt) {m:Nat} (hf:Van x m f) (hg:Van x m g):m<=mult x d:=by
 obtain ⟨c,u,v,hc,e⟩:=h
 have h1:Van x m (psc c d):=((hf.mul u).add (hg.mul v)).ev fun t=>by rw[ev_psc,ev_padd,ev_mul,ev_mul,e]
 exact (van_iff d0).1 (h1.of_psc hc)
def qdiv (F:List Int):List Int:=gres (pprim F) (pder (pprim F))
def qpart (F:List Int):List Int:=if plen F=0 then [] else pexq (pprim F) (qdiv F)
structure QOK (F:List Int):Prop where
 len:plen F<=16
 b:∀ j,((pprim F).getD j 0).natAbs<=BB^40
structure QF (F:List Int):Prop where
 ga:GAny (pprim F) (pder (pprim F))
 fp:FitP (pprim F)
 fr:FitP (pder (pprim F))
 fd:FitP (qdiv F)
 d0:plen (qdiv F)≠0
 dl:(qdiv F).length<=16
 ok:ExOK 1000000000 (pprim F) (qdiv F)
 e:qpart F=pexq (pprim F) (qdiv F)
 prod:∀ x,ev (pprim F) x=ev (qpart F) x*ev (qdiv F) x
 t:ptrim (qpart F)=qpart F
 q0:plen (qpart F)≠0
 l:plen (qpart F)<=plen F
 b:∀ k,(∀ j,((pprim F).getD j 0).natAbs<=BB^k)->∀ j,((qpart F).getD j 0).natAbs<=BB^(k+6)
 m:∀ x,mult x (qpart F)=if sgp F x=0 then 1 else 0
theorem pder_abs {p:List Int} {k:Nat} (hp:plen p<=16) (h:∀ j,(p.getD j 0).natAbs<=BB^k) (j:Nat):((pder p).getD j 0).natAbs<=BB^(k+1):=by
 rw[pder_getD,Int.natAbs_mul]
 by_cases c:j+1<16
 ·rw[Nat.pow_succ]
  refine Nat.mul_le_mul (h _) ?_
  rw[BB_eq];omega
 ·rw[getD_ge_plen p _ (by omega)];simp
theorem q_facts {F:List Int} (hF:QOK F) (F0:plen F≠0):QF F:=by
 have p0:plen (pprim F)≠0:=by rw[gp_plen];exact F0
 have cP:pcont (pprim F)=1:=gp_cont F0
 have hl:=hF.len
 have hpl:plen (pprim F)=plen F:=gp_plen F
 have hb:=hF.b
 have hdl:plen (pder (pprim F))<=15:=by have:=plen_le (pder (pprim F));rw[pder_length] at this;omega
 have hb80:∀ j,((pprim F).getD j 0).natAbs<=BB^80:=fun j=>Nat.le_trans (hb j) (bbk_le (by decide))
 have hd80:∀ j,((pder (pprim F)).getD j 0).natAbs<=BB^80:=fun j=>Nat.le_trans (pder_abs (by omega) hb j) (bbk_le (by decide))
 have ga:=ga_big (f:=pprim F) (g:=pder (pprim F)) (by omega) hb80 hd80
 have bD:∀ j,((qdiv F).getD j 0).natAbs<=BB^GK:=gres_bd2 (by omega) hb80 hd80
 have lt_fw:∀ {k:Nat},k<1095000->BB^k<BB^FW:=fun h=>Nat.pow_lt_pow_right (by rw[BB_eq];decide) (by rw[FW_eq];exact h)
 obtain ⟨P,hPe⟩:∃ P,P=pprim F:=⟨_,rfl⟩
 obtain ⟨D,hDe⟩:∃ D,D=qdiv F:=⟨_,rfl⟩
 have hg:=gres_is ga
 have hD2:gres (pprim F) (pder (pprim F))=D:=hDe.symm
 rw[hD2] at hg
 have hg':IsGcd (pprim F) (pder (pprim F)) D:=hg.resolve_left (fun h=>p0 h.1) |>.2
 have fP:FitP (pprim F):=fun j=>Nat.lt_of_le_of_lt (hb80 j) (lt_fw (by decide))
 have fR:FitP (pder (pprim F)):=fun j=>Nat.lt_of_le_of_lt (hd80 j) (lt_fw (by decide))
 rw[<- hDe] at bD
 rw[<- hPe] at hg' cP p0 ga hb hpl hdl fP fR
 have cD:pcont D=1:=by rw[hg'.cont,cP,Nat.gcd_one_left]
 have D0:plen D≠0:=hg'.ne
 have dP:plen D<=plen P:=dvq_plen hg'.l p0
 have fD:FitP D:=fun j=>Nat.lt_of_le_of_lt (bD j) (lt_fw (by rw[GK_eq];decide))
 obtain ⟨c,r,hc,e1⟩:=hg'.l
 obtain ⟨s,hs⟩:=gauss_div (l:=D) (f:=P) (r:=r) cD hc (fun x=>by rw[e1,Int.mul_comm])
 obtain ⟨Q,hQ⟩:∃ Q,Q=ptrim s:=⟨_,rfl⟩
 have hQs:∀ x,ev P x=ev D x*ev Q x:=fun x=>by rw[hQ,ev_trim];exact hs x
 have tQ:ptrim Q=Q:=by rw[hQ,ptrim_ptrim]
 have Q0:plen Q≠0:=fun e=>p0 (by rw[plen_ev (r:=polymul D Q) fun x=>by rw[ev_mul,hQs]];exact rmul_zero (.inr e))
 have bQ:∀ k,(∀ j,(P.getD j 0).natAbs<=BB^k)->∀ j,(Q.getD j 0).natAbs<=BB^(k+6):=fun k hk=>factor_le (by omega) p0 hk hQs
 have fQ:FitP Q:=fun j=>Nat.lt_of_le_of_lt (bQ 40 hb j) (lt_fw (by decide))
 have hQl:plen Q<=plen P:=dvq_plen ⟨1,D,by decide,fun x=>by rw[Int.one_mul,hQs]⟩ p0
 obtain ⟨x1,x2⟩:=exact_prod (f:=P) (g:=D) (q:=Q) (ev_inj2 hQs) tQ Q0 D0 fQ fD (by omega)
 have hpart:qpart F=Q:=by
  unfold qpart
  rw[if_neg F0,<- hPe,<- hDe];exact x2
 have hmul:∀ x,mult x P=mult x Q+mult x D:=fun x=>mult_ev_mul (fun t=>by rw[hQs,Int.mul_comm]) Q0 D0 x
 have hPF:∀ x,mult x P=mult x F:=fun x=>(mult_cmul (gp_ne F0) (fun t=>by rw[<- ev_psc];exact ev_congr (fun k=>by rw[psc_get,hPe];exact gp_get F0 k) t) p0 x).symm
 refine ⟨by rw[<- hPe];exact ga,by rw[<- hPe];exact fP,by rw[<- hPe];exact fR,by rw[<- hDe];exact fD,by rw[<- hDe];exact D0,by rw[<- hDe,<- hg'.trim,ptrim_length];omega,by rw[<- hPe,<- hDe];exact x1,by rw[hpart,<- hPe,<- hDe];exact x2.symm,fun x=>by rw[hpart,<- hPe,<- hDe,hQs,Int.mul_comm],by rw[hpart];exact tQ,by rw[hpart];exact Q0,by rw[hpart];omega,by rw[hpart,<- hPe];exact bQ,fun x=>?_⟩
 rw[hpart]
 have h1:=hmul x
 by_cases hx:sgp F x=0
 ·rw[if_pos hx]
  have hmF:mult x F≠0:=fun h=>(mult_zero F0).1 h hx
  have hP0:sgp P x=0:=Classical.byContradiction fun h=>by
   have:=(mult_zero p0).2 h
   rw[hPF x] at this;exact hmF this
  obtain ⟨h2,h3⟩:=mult_pder p0 hP0
  have h4:=dvq_mult hg'.r h3 x
  have h5:=comb_mult hg'.c D0 x (m:=mult x P-1) ((van_iff p0).2 (by omega)) ((van_iff h3).2 (by omega))
  have:=hPF x
  omega
 ·rw[if_neg hx]
  have:=(mult_zero F0).2 hx
  have:=hPF x
  omega
theorem QF.root {F:List Int} (h:QF F) (x:Pt):sgp (qpart F) x=0↔sgp F x=0:=by
 have h1:=h.m x
 have h2:=mult_zero h.q0 (x:=x)
 by_cases c:sgp F x=0
 ·rw[if_pos c] at h1
  exact ⟨fun _=>c,fun _=>Classical.byContradiction fun hn=>by have:=h2.2 hn;omega⟩
 ·rw[if_neg c] at h1
  exact ⟨fun e=>absurd e (h2.1 h1),fun e=>absurd e c⟩
theorem QF.simple {F:List Int} (h:QF F) (x:Pt):mult x (qpart F)<=1:=by
 rw[h.m x];split<;>omega
theorem lastp_mem:∀ (fs:List (List Int)),fs≠[]->lastp fs∈fs:=by
 intro fs
 induction fs with
 | nil=>intro h;exact absurd rfl h
 | cons a r ih =>
   intro _
   match r,ih with
   | [],_=>exact List.mem_cons_self ..
   | b :: r,ih=>exact List.mem_cons_of_mem _ (ih (by simp))
theorem last_free {f g:List Int} {gs:List (List Int)} (h:SCh (f :: g :: gs)) (hd:PEq g (pder f)) (hs:∀ x,mult x f<=1) (x:Pt):sgp (lastp (f :: g :: gs)) x≠0:=by
 have hl:=h.ne _ (lastp_mem (f :: g :: gs) (by simp))
 refine (mult_zero hl).1 ?_
 obtain ⟨hv,_⟩:=SCh.van (x:=x) h rfl
 have hf:=h.ne f (by simp)
 have hg:=h.ne g (by simp)
 have h1:=(van_iff hf).1 (hv f (by simp))
 have h2:=(van_iff hg).1 (hv g (by simp))
 have h3:=hs x
 by_cases c:sgp f x=0
 ·obtain ⟨h4,h5⟩:=mult_pder hf c
  have h6:=(hd.mult x hg).1
  omega
 ·have:=(mult_zero hf).2 c
  omega
theorem pred_der {f:List Int}:PEq (pred (pder f)) (pder (pred f)):=by
 obtain ⟨d,hd,h⟩:=pred_mul f
 obtain ⟨c,hc,h'⟩:=pred_mul (pder f)
 refine ⟨c,d,hc,hd,fun k=>?_⟩
 rw[<- h' k,pder_getD,pder_getD,h (k+1),Int.mul_assoc]
theorem chn_two {k:Nat} {a b:List Int} (hk:1<=k) (hb:plen b≠0):∃ r,chn k a b=b :: r:=by
 obtain ⟨j,rfl⟩:∃ j,k=j+1:=⟨k-1,by omega⟩
 exact ⟨_,by rw[chn,if_neg (fun e=>hb (by rw[e];rfl))]⟩
theorem mult_pred {f:List Int} (h0:plen f≠0) (x:Pt):mult x (pred f)=mult x f:=((pred_peq f).mult x h0).1.symm
theorem half_count {k:Nat} {f:List Int} (h0:plen f≠0) (hs:∀ x,mult x f<=1) (hok:chOK k (pred f) (pred (pder f))) {a b:Pt} (hab:a<b) {xs:List Pt} (hx:Lst (fun x=>sgp f x=0/\a<x/\(x<b∨x=b)) xs) :
  chv (pchain k f (pder f)) a-chv (pchain k f (pder f)) b=xs.length:=by
 by_cases d0:plen (pder f)=0
 ·have nr:∀ x,sgp f x≠0:=fun x c=>root_der h0 c d0
  have e:xs=[]:=List.eq_nil_iff_forall_not_mem.2 fun x h=>nr x ((hx.2 x).1 h).1
  rw[pint_count h0 hok hab (nr a) (nr b) (xs:=[]) ⟨List.Pairwise.nil,fun x=>⟨fun h=>by simp at h,fun h=>absurd h.1 (nr x)⟩⟩,e]
 ·obtain ⟨e,h⟩:=pchain_sch h0 hok
  obtain ⟨r,er⟩:=chn_two (a:=pred f) (b:=pred (pder f)) (chOK_pos hok) (by rw[pred_plen];exact d0)
  rw[er] at e h
  rw[e]
  have hl:=last_free h pred_der (fun x=>by rw[mult_pred h0];exact hs x)
  exact sturm_count h pred_der hab (h.ne _ (lastp_mem _ (by simp))) (hl a) (hl b) (hx.congr fun x=>by rw[pred_sgp])
end Go.Proofs.YtpeiiomjnjemjaaGreat
namespace Go.Proofs.YtpeiiomjnjemjaaGreat
open Go.RowKit
noncomputable def TB:Nat:=Classical.choose (⟨1024,rfl⟩:∃ n:Nat,n=1024)
theorem TB_eq:TB=1024:=Classical.choose_spec (⟨1024,rfl⟩:∃ n:Nat,n=1024)
set_option maxRecDepth 100000 in
theorem chk_tab:((List.range 14).all fun la=>(List.range 14).all fun lb=>chk 15 la lb 1024 1024)=true:=by decide +kernel
structure CP (f:List Int):Prop where
 len:plen f<=13
 b:∀ j,(f.getD j 0).natAbs<=BB^32
theorem bb_two (k:Nat):BB^k=2^(32*k):=by rw[BB_eq,show (4294967296:Nat)=2^32 from rfl,<- Nat.pow_mul]
theorem CP.bits {f:List Int} (h:CP f):Bd (2^TB) f:=fun j=>by
 have h1:=h.b j
 rw[bb_two,show 32*32=TB by rw[TB_eq]] at h1
 exact h1
structure Elm (p:List Int):Prop where
 b:Bd (2^CB) p
 l:p.length<=13
theorem el_pred {f:List Int} (h:CP f):Elm (pred f):=by
 have h1:Bd (2^TB) f:=h.bits
 exact ⟨(pred_bd h1).mono (Nat.pow_le_pow_right (by decide) (by rw[CB_eq,TB_eq];decide)),by rw[pred_len];exact h.len⟩
theorem chain_all {f g:List Int} (hf:CP f) (hg:CP g):chOK 15 (pred f) (pred g)/\(∀ p∈pchain 15 f g,Elm p)/\(chn 15 (pred f) (pred g)).length<=15/\(pchain 15 f g).length<=16:=by
 have e1:=pred_len f
 have e2:=pred_len g
 have l1:=hf.len
 have l2:=hg.len
 have bf:Bd (2^TB) f:=hf.bits
 have bg:Bd (2^TB) g:=hg.bits
 have ht:=chk_tab
 simp only[List.all_eq_true,List.mem_range] at ht
 have h:=chk_ok2 15 (sa:=TB) (sb:=TB) (a:=pred f) (b:=pred g) (by rw[TB_eq];exact ht _ (by omega) _ (by omega)) (by rw[pred_plen,e1]) (by rw[pred_plen,e2]) (by omega) (by omega) (pred_bd bf) (pred_bd bg)
 have h3:=chn_len 15 (pred f) (pred g)
 refine ⟨h.1,fun p hp=>?_,h3,?_⟩
 ·unfold pchain at hp
  split at hp
  ·simp at hp
  ·rcases List.mem_cons.1 hp with rfl | hp
   ·exact el_pred hf
   ·have:=h.2 p hp
    exact ⟨this.1,by have:=this.2;omega⟩
 ·unfold pchain
  split
  ·simp
  ·rw[List.length_cons];omega
theorem two_fw {k:Nat} (h:k<35000000):2^k<BB^FW:=by
 rw[bb_two]
 exact Nat.pow_lt_pow_right (by decide) (by rw[FW_eq];omega)
theorem Elm.fit {p:List Int} (h:Elm p):FitP p:=fun j=>Nat.lt_of_le_of_lt (h.b j) (two_fw (by rw[CB_eq];decide))
theorem Elm.smp {p:List Int} (h:Elm p):SmP p/\p.length<=1000000000:=⟨h.fit.smp,by have:=h.l;omega⟩
theorem scs_bd2 {M Z:Nat} (hZ:1<=Z) {p:List Int} {z q:Int} (n:Nat) (hp:∀ k,(p.getD k 0).natAbs<=M) (hz:z.natAbs<=Z) (hq:q.natAbs<=Z):∀ t,(scs p z q n t).2.natAbs<=Z^t/\(scs p z q n t).1.natAbs<=t*(M*Z^t)
 | 0=>by simp[scs]
 | t+1=>by
   obtain ⟨h1,h2⟩:=scs_bd2 hZ n hp hz hq t
   have hpw:(scs p z q n (t+1)).2.natAbs<=Z^(t+1):=by
    show (if t=0 then (scs p z q n t).2 else (scs p z q n t).2*q).natAbs<=_
    have h3:Z^t<=Z^(t+1):=Nat.pow_le_pow_right (by omega) (by omega)
    split
    ·omega
    ·rw[Int.natAbs_mul,Nat.pow_succ];exact Nat.mul_le_mul h1 hq
   refine ⟨hpw,?_⟩
   show ((scs p z q n t).1*z+p.getD (n-1-t) 0*(scs p z q n (t+1)).2).natAbs<=_
   have e1:((scs p z q n t).1*z).natAbs<=t*(M*Z^t)*Z:=by rw[Int.natAbs_mul];exact Nat.mul_le_mul h2 hz
   have e2:(p.getD (n-1-t) 0*(scs p z q n (t+1)).2).natAbs<=M*Z^(t+1):=by rw[Int.natAbs_mul];exact Nat.mul_le_mul (hp _) hpw
   have e3:t*(M*Z^t)*Z=t*(M*Z^(t+1)):=by rw[Nat.pow_succ,Nat.mul_assoc,Nat.mul_assoc]
   rw[Nat.add_mul,Nat.one_mul]
   omega
theorem bd_at {p:List Int} {z:Int} {q:Nat} (hb:Bd (2^CB) p) (hl:p.length<=13) (hz:z.natAbs<=ZB) (hq:q<=ZB):PoOK z q p:=by
 have ft:FitP p:=fun j=>Nat.lt_of_le_of_lt (hb j) (two_fw (by rw[CB_eq];decide))
 have hz':(z.tdiv (Nat.gcd z.natAbs q)).natAbs<=ZB:=by
  rw[Int.natAbs_tdiv]
  exact Nat.le_trans (Nat.div_le_self _ _) hz
 have hq':(((q / Nat.gcd z.natAbs q:Nat):Int)).natAbs<=ZB:=by
  rw[Int.natAbs_natCast]
  exact Nat.le_trans (Nat.div_le_self _ _) hq
 refine ⟨ft,by omega,fun t ht=>?_⟩
 have hpl:=plen_le p
 have z1:1<=ZB:=by have:=zb_128;omega
 obtain ⟨h1,h2⟩:=scs_bd2 (p:=ptrim p) (M:=2^CB) z1 (plen p) (fun k=>by rw[ptrim_getD];exact hb k) hz' hq' t
 have e:ZB^t<=2^(32*(ZK*13)):=by
  refine Nat.le_trans (Nat.pow_le_pow_right z1 (show t<=13 by omega)) ?_
  unfold ZB
  rw[<- Nat.pow_mul,bb_two]
  exact Nat.le_refl _
 constructor
 ·refine Nat.lt_of_le_of_lt h2 ?_
  refine Nat.lt_of_le_of_lt (Nat.mul_le_mul (show t<=2^4 by omega) (Nat.mul_le_mul_left (2^CB) e)) ?_
  rw[<- Nat.pow_add,<- Nat.pow_add]
  exact two_fw (by rw[CB_eq,ZK_eq];decide)
 ·exact Nat.lt_of_le_of_lt (Nat.le_trans h1 e) (two_fw (by rw[ZK_eq];decide))
theorem Elm.at {p:List Int} {z:Int} {q:Nat} (h:Elm p) (hz:z.natAbs<=ZB) (hq:q<=ZB):PoOK z q p:=bd_at h.b (by have:=h.l;omega) hz hq
theorem CP.bd {f:List Int} (h:CP f):Bd (2^CB) f:=h.bits.mono (Nat.pow_le_pow_right (by decide) (by rw[CB_eq,TB_eq];decide))
theorem CP.fit {f:List Int} (h:CP f):FitP f:=fun j=>Nat.lt_of_le_of_lt (h.bd j) (two_fw (by rw[CB_eq];decide))
theorem CP.at {f:List Int} {z:Int} {q:Nat} (h:CP f) (hl:f.length<=13) (hz:z.natAbs<=ZB) (hq:q<=ZB):PoOK z q f:=bd_at h.bd hl hz hq
structure PQ (f:List Int):Prop where
 len:plen f<=16
 b:∀ j,(f.getD j 0).natAbs<=BB^10
 pl:plen (qpart f)<=13
structure P9 (f:List Int):Prop where
 len:plen f<=9
 b:∀ j,(f.getD j 0).natAbs<=BB^10
theorem P9.cp {f:List Int} (h:P9 f):CP f:=⟨by have:=h.len;omega,fun j=>Nat.le_trans (h.b j) (bbk_le (by decide))⟩
theorem plen_pder (f:List Int):plen (pder f)<=plen f-1:=by have:=plen_le (pder f);rw[pder_length] at this;exact this
theorem P9.der {f:List Int} (h:P9 f):CP (pder f):=by
 have h1:=h.len
 have h2:=plen_pder f
 refine ⟨by omega,fun j=>Nat.le_trans (pder_abs (k:=10) (by omega) h.b j) (bbk_le (by decide))⟩
theorem P9.q {f:List Int} (h:P9 f):QOK f:=⟨by have:=h.len;omega,fun j=>Nat.le_trans (pprim_abs f j) (Nat.le_trans (h.b j) (bbk_le (by decide)))⟩
theorem qpart_nil {f:List Int} (h:plen f=0):qpart f=[]:=by unfold qpart;rw[if_pos h]
theorem P9.part_l {f:List Int} (h:P9 f):plen (qpart f)<=plen f:=by
 by_cases h0:plen f=0
 ·rw[qpart_nil h0];exact Nat.zero_le _
 ·exact (q_facts h.q h0).l
theorem P9.pq {f:List Int} (h:P9 f):PQ f:=⟨by have:=h.len;omega,h.b,by have:=h.part_l;have:=h.len;omega⟩
theorem PQ.q {f:List Int} (h:PQ f):QOK f:=⟨h.len,fun j=>Nat.le_trans (pprim_abs f j) (Nat.le_trans (h.b j) (bbk_le (by decide)))⟩
theorem PQ.fit {f:List Int} (h:PQ f):FitP f:=fun j=>Nat.lt_of_le_of_lt (h.b j) (Nat.pow_lt_pow_right (by rw[BB_eq];decide) (by rw[FW_eq];decide))
theorem PQ.cp {f:List Int} (h:PQ f) (hl:plen f<=13):CP f:=⟨hl,fun j=>Nat.le_trans (h.b j) (bbk_le (by decide))⟩
theorem PQ.der {f:List Int} (h:PQ f) (hl:plen f<=13):CP (pder f):=⟨by have:=plen_pder f;omega,fun j=>Nat.le_trans (pder_abs (k:=10) h.len h.b j) (bbk_le (by decide))⟩
theorem PQ.part_b {f:List Int} (h:PQ f) (j:Nat):((qpart f).getD j 0).natAbs<=BB^16:=by
 by_cases h0:plen f=0
 ·rw[qpart_nil h0];simp
 ·exact (q_facts h.q h0).b 10 (fun j=>Nat.le_trans (pprim_abs f j) (h.b j)) j
theorem PQ.part {f:List Int} (h:PQ f):CP (qpart f):=⟨by have:=h.pl;omega,fun j=>Nat.le_trans (h.part_b j) (bbk_le (by decide))⟩
theorem PQ.pder {f:List Int} (h:PQ f):CP (pder (qpart f)):=by
 have h2:=h.pl
 have h3:=plen_pder (qpart f)
 exact ⟨by omega,fun j=>Nat.le_trans (pder_abs (k:=16) (by omega) h.part_b j) (bbk_le (by decide))⟩
theorem PQ.part_t {f:List Int} (h:PQ f):ptrim (qpart f)=qpart f:=by
 by_cases h0:plen f=0
 ·rw[qpart_nil h0];rfl
 ·exact (q_facts h.q h0).t
theorem PQ.at {f:List Int} {z:Int} {q:Nat} (h:PQ f) (hl:f.length<=16) (hz:z.natAbs<=ZB) (hq:q<=ZB):PoOK z q f:=by
 have hz':(z.tdiv (Nat.gcd z.natAbs q)).natAbs<=ZB:=by
  rw[Int.natAbs_tdiv]
  exact Nat.le_trans (Nat.div_le_self _ _) hz
 have hq':(((q / Nat.gcd z.natAbs q:Nat):Int)).natAbs<=ZB:=by
  rw[Int.natAbs_natCast]
  exact Nat.le_trans (Nat.div_le_self _ _) hq
 refine ⟨h.fit,by omega,fun t ht=>?_⟩
 have hpl:=plen_le f
 have hT:∀ j,(f.getD j 0).natAbs<=2^TB:=fun j=>by
  have h1:=Nat.le_trans (h.b j) (bbk_le (show 10<=32 by decide))
  rw[bb_two,show 32*32=TB by rw[TB_eq]] at h1
  exact h1
 have z1:1<=ZB:=by have:=zb_128;omega
 obtain ⟨h1,h2⟩:=scs_bd2 (p:=ptrim f) (M:=2^TB) z1 (plen f) (fun k=>by rw[ptrim_getD];exact hT k) hz' hq' t
 have e:ZB^t<=2^(32*(ZK*16)):=by
  refine Nat.le_trans (Nat.pow_le_pow_right z1 (show t<=16 by omega)) ?_
  unfold ZB
  rw[<- Nat.pow_mul,bb_two]
  exact Nat.le_refl _
 constructor
 ·refine Nat.lt_of_le_of_lt h2 ?_
  refine Nat.lt_of_le_of_lt (Nat.mul_le_mul (show t<=2^4 by omega) (Nat.mul_le_mul_left (2^TB) e)) ?_
  rw[<- Nat.pow_add,<- Nat.pow_add]
  exact two_fw (by rw[TB_eq,ZK_eq];decide)
 ·exact Nat.lt_of_le_of_lt (Nat.le_trans h1 e) (two_fw (by rw[ZK_eq];decide))
theorem P9.part_b {f:List Int} (h:P9 f) (j:Nat):((qpart f).getD j 0).natAbs<=BB^16:=h.pq.part_b j
theorem P9.part {f:List Int} (h:P9 f):CP (qpart f):=h.pq.part
theorem P9.pder {f:List Int} (h:P9 f):CP (pder (qpart f)):=h.pq.pder
theorem P9.part_t {f:List Int} (h:P9 f):ptrim (qpart f)=qpart f:=h.pq.part_t
def nall (f:List Int):Int:=if plen f<=13 then pline 15 f (pder f) else pline 15 (qpart f) (pder (qpart f))
theorem pline_nil {k:Nat} {f g:List Int} (h:plen f=0):pline k f g=0:=by unfold pline pchain;rw[if_pos h];rfl
theorem nall_none {f:List Int} (h:plen f=0):nall f=0:=by unfold nall;rw[if_pos (by omega)];exact pline_nil h
theorem nall_count {f:List Int} (hf:CP f) (hd:CP (pder f)) (h0:plen f≠0) {xs:List Pt} (hx:Lst (fun x=>sgp f x=0) xs):nall f=xs.length:=by unfold nall;rw[if_pos hf.len];exact pline_count h0 (chain_all hf hd).1 hx
theorem nall_roots {f:List Int} (h:PQ f) (h0:plen f≠0) {xs:List Pt} (hx:Lst (fun x=>sgp f x=0) xs):nall f=xs.length:=by
 by_cases hl:plen f<=13
 ·exact nall_count (h.cp hl) (h.der hl) h0 hx
 ·have hq:=q_facts h.q h0
  unfold nall
  rw[if_neg hl]
  exact pline_count hq.q0 (chain_all h.part h.pder).1 (hx.congr fun x=>(hq.root x).symm)
theorem nall_part {f:List Int} (h:PQ f):nall (qpart f)=nall f:=by
 by_cases h0:plen f=0
 ·rw[qpart_nil h0,nall_none h0];exact nall_none rfl
 ·have hq:=q_facts h.q h0
  obtain ⟨xs,hx⟩:=roots_lst h0 (fun _=>True)
  have hx1:Lst (fun x=>sgp f x=0) xs:=hx.congr fun x=>⟨fun h=>h.1,fun h=>⟨h,trivial⟩⟩
  rw[nall_roots h h0 hx1,nall_count h.part h.pder hq.q0 (hx1.congr fun x=>(hq.root x).symm)]
theorem nall_line {f:List Int} (h:PQ f):nall f=pline 15 (qpart f) (pder (qpart f)):=by
 rw[<- nall_part h]
 unfold nall
 rw[if_pos (by have:=h.pl;omega)]
noncomputable def nint (f:List Int) (a b:Pt):Int:=chv (pchain 15 f (pder f)) a-chv (pchain 15 f (pder f)) b
end Go.Proofs.YtpeiiomjnjemjaaGreat
namespace Go.Proofs.YtpeiiomjnjemjaaGreat
open Go.RowKit
set_option maxRecDepth 100000 in
set_option maxHeartbeats 1000000 in
theorem part_q {I:IntPred} (hI:IK I) (A:Option Addr) (la ca:Nat) (F:List Int) (w:World) (hf:PolyP I w A la ca F) (sf:SmP F) (hF:plen F≠0->QOK F) (hla:la<=1000000) :
  Calls Tryz.prog 18 #[.slice A la ca] w fun e w'=>∃ A1 l1 c1,e=.returned (.slice A1 l1 c1)/\PolyN w' A1 l1 c1 (qpart F)/\Below w.heap.size w w':=by
 by_cases F0:plen F=0
 ·have hq:=Lh (qpart_nil F0)
  have hd:((plen F:Nat):Int)-1=-1:=by omega
  have Hd:=Lh hd
  clear F0 hd hF
  go_enter Tryz.func18,Tryz.ntmps18
  go_wp2_with fail
  refine (degree_any _ _ _ _ _ (hf.at_ hI) sf (by omega)).mono ?_
  rintro e w1 ⟨rfl,hb1⟩
  rw[Hd.out]
  have Hb1:=Lh hb1
  clear hf hb1
  go_wp2
  go_ret
  exact ⟨_,_,_,rfl,by rw[hq.out];exact PolyP.nil _ _ _ _,Hb1.out⟩
 have PF:=q_facts (hF F0) F0
 have hlen:=(hF F0).len
 have Hdf:Hid (((plen F:Nat):Int)-1=((plen F-1:Nat):Int)):=Lh (by omega)
 have tP:=gp_trim F
 have hl1:plen (pprim F)<=16:=by rw[gp_plen];exact hlen
 obtain ⟨P,hP⟩:∃ P,P=pprim F:=⟨_,rfl⟩
 obtain ⟨D,hD⟩:∃ D,D=qdiv F:=⟨_,rfl⟩
 obtain ⟨Q,hQ⟩:∃ Q,Q=qpart F:=⟨_,rfl⟩
 have ga:=PF.ga
 have fP:=PF.fp
 have fdr:=PF.fr
 have fd:=PF.fd
 have d0:=PF.d0
 have dl:=PF.dl
 have ok:=PF.ok
 have he:=PF.e
 rw[<- hP] at ga ok fP fdr hl1 tP he
 rw[<- hD] at fd d0 dl ok he
 rw[<- hQ] at he
 have hDe:gres P (pder P)=D:=by rw[hD,hP];rfl
 have HP:=Lh hP
 have HD:=Lh hDe
 have HQ:=Lh he.symm
 rw[<- hQ]
 have hpl:P.length<=16:=by rw[<- tP,ptrim_length];exact hl1
 have hdl:(pder P).length<=16:=by rw[pder_length];omega
 clear PF hP hD hQ hDe he hF
 go_enter Tryz.func18,Tryz.ntmps18
 go_wp2_with fail
 refine (degree_any _ _ _ _ _ (hf.at_ hI) sf (by omega)).mono ?_
 rintro e w1 ⟨rfl,hb1⟩
 rw[Hdf.out]
 have dneg:¬ (((plen F-1:Nat):Int)<0):=by omega
 have hf1:=hf.below hI hb1
 have Hb1:=Lh hb1
 clear hf hb1
 go_wp2_with fail
 refine (primitive_any hI _ _ _ _ _ hf1 sf (by omega)).mono ?_
 rintro e w3 ⟨A3,l3,c3,rfl,h3,hb3⟩
 rw[<- HP.out] at h3
 have hl3:l3<=16:=by have:=h3.length;omega
 have H3:=Lh h3
 have Hb3:=Lh (Hb1.out.trans (hb3.mono Hb1.out.size))
 clear hf1 hb3 Hb1 dneg
 go_wp2_with fail
 refine (derivative_any ikN _ _ _ _ _ h3 fP.smp (by omega)).mono ?_
 rintro e w4 ⟨A4,l4,c4,rfl,h4,hb4⟩
 have hl4:l4<=16:=by have:=h4.length;omega
 have h34:=H3.out.below ikN hb4
 have Hb4:=Lh (Hb3.out.trans (hb4.mono Hb3.out.size))
 have H34:=Lh h34
 clear h3 hb4 H3 Hb3
 go_wp2_with fail
 refine (gcd_any ikN ikN _ _ _ P _ _ _ (pder P) _ h34 h4 fP.smp fdr.smp (by omega) (by omega) ga).mono ?_
 rintro e w5 ⟨A5,l5,c5,rfl,h5,hb5⟩
 rw[HD.out] at h5
 have hl5:l5<=16:=by have:=h5.length;omega
 have h35:=H34.out.below ikN hb5
 have Hb5:=Lh (Hb4.out.trans (hb5.mono Hb4.out.size))
 clear h34 h4 hb5 H34 Hb4
 go_wp2_with fail
 refine (quotient_any ikN ikN _ _ _ P _ _ _ D 1000000000 _ h35 h5 fP.smp fd (by omega) (by omega) (by omega) (by omega) ok).mono ?_
 rintro e w6 ⟨A6,l6,c6,rfl,h6,hb6⟩
 rw[HQ.out] at h6
 have H6:=Lh h6
 have Hb6:=Lh (Hb5.out.trans (hb6.mono Hb5.out.size))
 clear h35 h5 h6 hb6 Hb5
 go_wp2
 go_ret
 exact ⟨_,_,_,rfl,H6.out,Hb6.out⟩
set_option maxHeartbeats 400000 in
theorem lost_q (A:Option Addr) (len cap:Nat) (k:Nat) (f g:List Int) (w:World) (h:PLst w A len cap (pchain k f g)) (hs:∀ p∈pchain k f g,Elm p) (hl:(pchain k f g).length<=100) :
  Calls Tryz.prog 45 #[.slice A len cap] w fun e w'=>e=.returned (.int .i64 (pline k f g))/\Below w.heap.size w w':=by
 have e:=h.length
 refine (lost_any _ _ _ _ _ h (fun p hp=>(hs p hp).smp) (by omega)).mono ?_
 rintro e' w' ⟨h1,h2⟩
 rw[<- e,vend_eq,vend_eq] at h1
 exact ⟨h1,h2⟩
set_option maxHeartbeats 400000 in
theorem all_q {I:IntPred} (hI:IK I) (A:Option Addr) (la ca:Nat) (F:List Int) (w:World) (hf:PolyP I w A la ca F) (h9:PQ F) (hla:la<=1000000) :
  Calls Tryz.prog 23 #[.slice A la ca] w fun e w'=>e=.returned (.int .i64 (nall F))/\Below w.heap.size w w':=by
 have sf:=h9.fit.smp
 have c1:=h9.part
 have c2:=h9.pder
 have hn:=Lh (nall_line h9).symm
 obtain ⟨V,hV⟩:∃ V,V=nall F:=⟨_,rfl⟩
 rw[<- hV] at hn ⊢
 clear hV
 go_enter Tryz.func23,Tryz.ntmps23
 go_wp2_with fail
 refine (part_q hI _ _ _ _ _ hf sf (fun _=>h9.q) hla).mono ?_
 rintro e w1 ⟨A1,l1,c1',rfl,h1,hb1⟩
 have hl:=h1.length
 have ht:=h9.part_t
 have hlp:=c1.len
 have hl1:l1<=13:=by rw[<- hl,<- ht,ptrim_length];exact hlp
 have Hb1:=Lh hb1
 obtain ⟨Q,hQ⟩:∃ Q,Q=qpart F:=⟨_,rfl⟩
 rw[<- hQ] at h1 c1 c2 hn
 obtain ⟨k1,k2,k3,k4⟩:=chain_all c1 c2
 clear hf hb1 hl ht hlp hQ
 go_wp2_with fail
 refine (sturmof_any _ _ _ _ _ h1 c1.fit.smp c2.fit.smp (by omega) 15 k1 (by omega)).mono ?_
 rintro e w2' ⟨A2,l2,c2',rfl,h2,hb2⟩
 have Hb2:=Lh (Hb1.out.trans (hb2.mono Hb1.out.size))
 clear h1 hb2 Hb1
 go_wp2_with fail
 refine (lost_q _ _ _ _ _ _ _ h2 k2 (by omega)).mono ?_
 rintro e w3 ⟨he,hb3⟩
 have he2:e=.returned (.int .i64 V):=by rw[he,<- hn.out]
 subst he2
 have Hb3:=Lh (Hb2.out.trans (hb3.mono Hb2.out.size))
 clear h2 hb3 Hb2 he
 go_wp2
 go_ret
 exact ⟨rfl,Hb3.out⟩
noncomputable def ncount (f:List Int) (z:Int) (q:Nat) (z':Int) (q':Nat):Int:=if z*(q':Int)<z'*(q:Int) then nint (qpart f) (Pt.of ((z:Rat) / (q:Rat))) (Pt.of ((z':Rat) / (q':Rat))) else 0
set_option maxRecDepth 100000 in
set_option maxHeartbeats 4000000 in
theorem count_q {I:IntPred} (hI:IK I) (Af:Option Addr) (lf cf:Nat) (f:List Int) (n:Bool) (A:Option Addr) (l c:Nat) (B:Option Addr) (m d q:Nat) (z:Int) (n':Bool) (A':Option Addr) (l' c':Nat) (B':Option Addr) (m' d' q':Nat) (z':Int) (w:World) (hf:PolyP I w Af lf cf f) (hfm:lf<=1000000) (h9:PQ f)
  (hz:IntN w n A l c z) (hq:NatN w B m d q) (hz':IntN w n' A' l' c' z') (hq':NatN w B' m' d' q') (ha:AtOK z q) (ha':AtOK z' q') (z8:z.natAbs<=ZB) (q8:q<=ZB) (z8':z'.natAbs<=ZB) (q8':q'<=ZB) :
  Calls Tryz.prog 22 #[.slice Af lf cf,.agg #[.bool n,.slice A l c,.slice B m d],.agg #[.bool n',.slice A' l' c',.slice B' m' d']] w fun e w'=>e=.returned (.int .i64 (ncount f z q z' q'))/\Below w.heap.size w w':=by
 have o1:=below_new w (rbox n A l c B m d)
 have o2:=below_new (w.alloc (rbox n A l c B m d)) (rbox n' A' l' c' B' m' d')
 have b2:Below w.heap.size w ((w.alloc (rbox n A l c B m d)).alloc (rbox n' A' l' c' B' m' d')):=o1.alloc (by simp) _
 have R1:=(RBox.make hz hq).move o2
 have R2:=RBox.make (hz'.below o1) (hq'.below o1)
 simp only[World.size_alloc] at R2
 have hf2:=hf.below hI b2
 replace R1:=Lh R1
 replace R2:=Lh R2
 have HF:=Lh hf2
 have Hb:=Lh b2
 obtain ⟨V,hV⟩:∃ V,V=ncount f z q z' q':=⟨_,rfl⟩
 rw[<- hV]
 have HV:=Lh hV
 have hp:=ha.pos
 have hp':=ha'.pos
 have sf:=h9.fit.smp
 have c1:=h9.part
 have c2:=h9.pder
 have ht:=h9.part_t
 have x0:=R1.out.c0
 have x1:=R1.out.c1
 have x2:=R1.out.c2
 have y0:=R2.out.c0
 have y1:=R2.out.c1
 have y2:=R2.out.c2
 clear o1 o2 b2 hz hq hz' hq' hf hV hf2
 go_enter Tryz.func22,Tryz.ntmps22
 go_wp2_with fail
 refine (rcmp_any _ _ _ _ _ _ _ _ _ _ _ _ _ _ _ _ _ _ _ R1.out.hz.at_ R1.out.hq.at_ R2.out.hz.at_ R2.out.hq.at_ (by omega) (by omega) ha.u ha.v ha'.u ha'.v).mono ?_
 rintro e w2 ⟨rfl,hb2⟩
 replace R1:=Lh (R1.out.move hb2)
 replace R2:=Lh (R2.out.move hb2)
 replace HF:=Lh (HF.out.below hI hb2)
 replace Hb:=Lh (Hb.out.trans (hb2.mono Hb.out.size))
 clear hb2 x0 x1 x2 y0 y1 y2
 obtain ⟨C,hC⟩:∃ C,C=cmpz (z*(q':Int)) (z'*(q:Int)):=⟨_,rfl⟩
 rw[<- hC]
 by_cases hlt:z*(q':Int)<z'*(q:Int)
 ·have hcm:¬ (0<=C):=by rw[hC];unfold cmpz;rw[if_pos hlt];omega
  obtain ⟨Q,hQ⟩:∃ Q,Q=qpart f:=⟨_,rfl⟩
  obtain ⟨PS,hPS⟩:∃ PS,PS=pchain 15 Q (pder Q):=⟨_,rfl⟩
  rw[<- hQ] at c1 c2 ht
  obtain ⟨k1,k2,k3,k4⟩:=chain_all c1 c2
  rw[<- hPS] at k2 k4
  obtain ⟨N1,hN1⟩:∃ N,N=(vst (PS.map (sat z q)) PS.length).1:=⟨_,rfl⟩
  obtain ⟨N2,hN2⟩:∃ N,N=(vst (PS.map (sat z' q')) PS.length).1:=⟨_,rfl⟩
  have hVe:V=(N1:Int)-(N2:Int):=by
   rw[HV.out]
   unfold ncount nint
   rw[if_pos hlt,hN1,hN2,vat_eq hp,vat_eq hp',hPS,hQ]
  have n1:=(vst_le (PS.map (sat z q)) PS.length).1
  have n2:=(vst_le (PS.map (sat z' q')) PS.length).1
  rw[<- hN1] at n1
  rw[<- hN2] at n2
  have HVe:=Lh hVe
  have HN1:=Lh hN1
  have HN2:=Lh hN2
  have HQ:=Lh hQ
  have HPS:=Lh hPS
  have hlq:Q.length<=13:=by rw[<- ht,ptrim_length];exact c1.len
  have hw:IntKind.i64.wrap ((N1:Int)-(N2:Int))=(N1:Int)-(N2:Int):=IntWalk.i64_in _ (by omega)
  have K2:=Lh k2
  clear hVe hC hN1 hN2 hlt hQ hPS k2 ht
  go_wp2_with fail
  refine (part_q hI _ _ _ _ _ HF.out sf (fun _=>h9.q) hfm).mono ?_
  rintro e w3 ⟨A3,l3,c3,rfl,h3,hb3⟩
  rw[<- HQ.out] at h3
  have hl3:l3<=13:=by have:=h3.length;omega
  replace R1:=Lh (R1.out.move hb3)
  replace R2:=Lh (R2.out.move hb3)
  replace Hb:=Lh (Hb.out.trans (hb3.mono Hb.out.size))
  clear hb3 HF
  go_wp2_with fail
  refine (sturmof_any _ _ _ _ _ h3 c1.fit.smp c2.fit.smp (by omega) 15 k1 (by omega)).mono ?_
  rintro e w4 ⟨A4,l4,c4,rfl,h4,hb4⟩
  rw[<- HPS.out] at h4
  obtain rfl:l4=PS.length:=h4.length.symm
  have HC:=Lh h4
  replace R1:=Lh (R1.out.move hb4)
  replace R2:=Lh (R2.out.move hb4)
  replace Hb:=Lh (Hb.out.trans (hb4.mono Hb.out.size))
  clear hb4 h3 h4
  have x0:=R1.out.c0
  have x1:=R1.out.c1
  have x2:=R1.out.c2
  have y0:=R2.out.c0
  have y1:=R2.out.c1
  have y2:=R2.out.c2
  have hlp:PS.length<=1000000:=by omega
  have e1:∀ p∈PS,PoOK z q p:=fun p hp=>(K2.out p hp).at z8 q8
  have e2:∀ p∈PS,PoOK z' q' p:=fun p hp=>(K2.out p hp).at z8' q8'
  obtain ⟨L,hL⟩:∃ L,L=PS.length:=⟨_,rfl⟩
  rw[<- hL] at HC HN1 HN2 hlp n1 n2 k4 ⊢
  obtain ⟨wb,hwb⟩:∃ wb,wb=w4:=⟨_,rfl⟩
  rw[<- hwb] at R1 R2 HC Hb x0 x1 x2 y0 y1 y2 ⊢
  clear hL hwb
  go_wp2_with fail
  go_region_held3 (fun w'=>w'.cell? ⟨w.heap.size,0,none⟩=some (.bool n)/\w'.cell? ⟨w.heap.size,1,none⟩=some (.slice A l c)/\w'.cell? ⟨w.heap.size,2,none⟩=some (.slice B m d)/\w'.cell? ⟨w.heap.size+1,0,none⟩=some (.bool n')/\w'.cell? ⟨w.heap.size+1,1,none⟩=some (.slice A' l' c')/\w'.cell? ⟨w.heap.size+1,2,none⟩=some (.slice B' m' d')) (go_keep) (first
   | (go_at_call 44;(have _hx:=G7);go_must (refine (vars_any _ _ _ PS _ _ _ _ _ _ _ _ _ _ ?_ ?_ ?_ ha' e2 hlp).mono ?_;(exact ((HC.out.below G7.out).below Bel.go));(exact (R2.out.move G7.out).hz.below Bel.go);(exact (R2.out.move G7.out).hq.below Bel.go);rintro e w9 ⟨rfl,hb9⟩;rw[show (vst (PS.map (sat z' q')) L).1=N2 from HN2.out.symm];have G9:Hid (Below wb.heap.size wb w9):=Lh (G7.out.trans ((Below.trans Bel.go (hb9.mono (by simp<;>omega))).mono G7.out.size));obtain ⟨hcx,hfx⟩:=bcellS hb9;have j0:World.cell? w9 ⟨w.heap.size,0,none⟩=some (.bool n):=(hcx _ (by go_simp)).trans (by go_simp);have j0b:World.cell? w9 ⟨w.heap.size,1,none⟩=some (.slice A l c):=(hcx _ (by go_simp)).trans (by go_simp);have j0c:World.cell? w9 ⟨w.heap.size,2,none⟩=some (.slice B m d):=(hcx _ (by go_simp)).trans (by go_simp);have j0d:World.cell? w9 ⟨w.heap.size+1,0,none⟩=some (.bool n'):=(hcx _ (by go_simp)).trans (by go_simp);have j0e:World.cell? w9 ⟨w.heap.size+1,1,none⟩=some (.slice A' l' c'):=(hcx _ (by go_simp)).trans (by go_simp);have j0f:World.cell? w9 ⟨w.heap.size+1,2,none⟩=some (.slice B' m' d'):=(hcx _ (by go_simp)).trans (by go_simp);clear hcx hfx hb9))
   | (go_at_call 44;go_must (refine (vars_any _ _ _ PS _ _ _ _ _ _ _ _ _ _ ?_ ?_ ?_ ha e1 hlp).mono ?_;(exact HC.out.below Bel.go);(exact R1.out.hz.below Bel.go);(exact R1.out.hq.below Bel.go);rintro e w7 ⟨rfl,hb7⟩;rw[show (vst (PS.map (sat z q)) L).1=N1 from HN1.out.symm];have G7:Hid (Below wb.heap.size wb w7):=Lh (Below.trans Bel.go (hb7.mono (by simp<;>omega)));obtain ⟨hcx,hfx⟩:=bcellS hb7;have i0:World.cell? w7 ⟨w.heap.size,0,none⟩=some (.bool n):=(hcx _ (by go_simp)).trans (by go_simp);have i0b:World.cell? w7 ⟨w.heap.size,1,none⟩=some (.slice A l c):=(hcx _ (by go_simp)).trans (by go_simp);have i0c:World.cell? w7 ⟨w.heap.size,2,none⟩=some (.slice B m d):=(hcx _ (by go_simp)).trans (by go_simp);have i0d:World.cell? w7 ⟨w.heap.size+1,0,none⟩=some (.bool n'):=(hcx _ (by go_simp)).trans (by go_simp);have i0e:World.cell? w7 ⟨w.heap.size+1,1,none⟩=some (.slice A' l' c'):=(hcx _ (by go_simp)).trans (by go_simp);have i0f:World.cell? w7 ⟨w.heap.size+1,2,none⟩=some (.slice B' m' d'):=(hcx _ (by go_simp)).trans (by go_simp);clear hcx hfx hb7)))
  rename_i hHeld
  have Hb9:=Lh (Hb.out.trans (G9.out.mono Hb.out.size))
  clear hHeld j0 j0b j0c j0d j0e j0f i0 i0b i0c i0d i0e i0f x0 x1 x2 y0 y1 y2 R1 R2 HC Hb G7 G9
  go_wp2
  go_ret
  exact ⟨by show Ending.returned (.int .i64 ((N1:Int)-(N2:Int)))=_;rw[HVe.out],Hb9.out⟩
 ·have hcm:0<=C:=by rw[hC];unfold cmpz;rw[if_neg hlt];split<;>omega
  have hV0:V=0:=by rw[HV.out];unfold ncount;rw[if_neg hlt]
  have HV0:=Lh hV0
  clear hV0 hC hlt R1 R2 HF
  go_wp2_with fail
  go_ret
  exact ⟨by show Ending.returned (.int .i64 0)=_;rw[HV0.out],Hb.out⟩
structure SqF (Q:List Int) (k:Nat):Prop where
 t:ptrim Q=Q
 q0:plen Q≠0
 len:plen Q<=13
 b:∀ j,(Q.getD j 0).natAbs<=BB^k
 s:∀ x,mult x Q<=1
theorem SqF.fit {Q:List Int} {k:Nat} (h:SqF Q k) (hk:k<=100):FitP Q:=fun j=>Nat.lt_of_le_of_lt (h.b j) (Nat.pow_lt_pow_right (by rw[BB_eq];decide) (by rw[FW_eq];omega))
theorem SqF.cp {Q:List Int} {k:Nat} (h:SqF Q k) (hk:k<=32):CP Q:=⟨h.len,fun j=>Nat.le_trans (h.b j) (bbk_le hk)⟩
theorem SqF.lq {Q:List Int} {k:Nat} (h:SqF Q k):Q.length<=13:=by rw[<- h.t,ptrim_length];exact h.len
def rz (z:Int) (q:Nat):Int:=z.tdiv (Nat.gcd z.natAbs q)
def rq (z:Int) (q:Nat):Nat:=q / Nat.gcd z.natAbs q
theorem SqF.of9 {f:List Int} (h:PQ f) (h0:plen f≠0):SqF (qpart f) 16:=by
 have hq:=q_facts h.q h0
 exact ⟨hq.t,hq.q0,by have:=h.pl;omega,h.part_b,hq.simple⟩
theorem frac_lt {z z':Int} {q q':Nat} (hq:0<q) (hq':0<q'):((z:Rat) / (q:Rat))<((z':Rat) / (q':Rat))↔z*(q':Int)<z'*(q:Int):=by
 have h1:(0:Rat)<((q:Nat):Rat):=by exact_mod_cast hq
 have h2:(0:Rat)<((q':Nat):Rat):=by exact_mod_cast hq'
 rw[Rat.div_lt_iff h1,show ((z':Int):Rat) / ((q':Nat):Rat)*((q:Nat):Rat)=((z':Int):Rat)*((q:Nat):Rat) / ((q':Nat):Rat) by rw[Rat.div_def,Rat.div_def];grind,Rat.lt_div_iff h2]
 rw[<- Rat.intCast_natCast,<- Rat.intCast_natCast,<- Rat.intCast_mul,<- Rat.intCast_mul,Rat.intCast_lt_intCast]
theorem pt_lt {z z':Int} {q q':Nat} (hq:0<q) (hq':0<q'):Pt.of ((z:Rat) / (q:Rat))<Pt.of ((z':Rat) / (q':Rat))↔z*(q':Int)<z'*(q:Int):=by rw[Pt.of_lt_of,frac_lt hq hq']
theorem Lst.append {P Q:Pt->Prop} {xs ys:List Pt} (h:Lst P xs) (h':Lst Q ys) (hpq:∀ x y,P x->Q y->x<y):Lst (fun x=>P x∨Q x) (xs ++ ys) :=
 ⟨List.pairwise_append.2 ⟨h.1,h'.1,fun x hx y hy=>hpq x y ((h.2 x).1 hx) ((h'.2 y).1 hy)⟩,fun x=>by rw[List.mem_append,h.2,h'.2]⟩
def Hf (f:List Int) (a b:Pt) (xs:List Pt):Prop:=Lst (fun x=>sgp f x=0/\a<x/\(x<b∨x=b)) xs
theorem ncount_half {f:List Int} (h:PQ f) (h0:plen f≠0) {z z':Int} {q q':Nat} (hq:0<q) (hq':0<q') (hlt:z*(q':Int)<z'*(q:Int)) {xs:List Pt} (hx:Hf f (Pt.of ((z:Rat) / (q:Rat))) (Pt.of ((z':Rat) / (q':Rat))) xs):ncount f z q z' q'=xs.length:=by
 have hf:=q_facts h.q h0
 unfold ncount nint
 rw[if_pos hlt]
 exact half_count hf.q0 hf.simple (chain_all h.part h.pder).1 ((pt_lt hq hq').2 hlt) (hx.congr fun x=>by rw[hf.root])
theorem short_bd {w:World} {A:Option Addr} {l c:Nat} {p:List Int} (h:I16At w A l c p) (n:Nat):plen (ptrim (p.take n))<=n/\(ptrim (p.take n)).length<=n/\ptrim (ptrim (p.take n))=ptrim (p.take n)/\∀ j,((ptrim (p.take n)).getD j 0).natAbs<=32768:=by
 have h1:=plen_le (p.take n)
 rw[List.length_take] at h1
 refine ⟨by rw[plen_ptrim];omega,by rw[ptrim_length];omega,ptrim_ptrim _,fun j=>?_⟩
 rw[ptrim_getD]
 rcases Nat.lt_or_ge j (p.take n).length with hj | hj
 ·have hmem:(p.take n).getD j 0∈p:=by
   rw[List.getD_eq_getElem?_getD,List.getElem?_eq_getElem hj]
   exact List.mem_of_mem_take (List.getElem_mem _)
  have:=h.range _ hmem
  omega
 ·rw[getD_out _ hj];omega
structure Pai (W:World) (g:Nat) (x0 x1:Int):Prop where
 c0:W.cell? ⟨g,0,none⟩=some (.int .i8 x0)
 c1:W.cell? ⟨g,1,none⟩=some (.int .i8 x1)
theorem Pai.move {W W':World} {g:Nat} {x0 x1:Int} (h:Pai W g x0 x1) (hb:Below W.heap.size W W'):Pai W' g x0 x1:=by
 obtain ⟨hc,_⟩:=bcellS hb
 exact ⟨(hc _ (by rw[h.c0];rfl)).trans h.c0,(hc _ (by rw[h.c1];rfl)).trans h.c1⟩
theorem Pai.make (W:World) (x0 x1:Int) (t:TypeId):Pai (W.alloc (.cells #[.int .i8 x0,.int .i8 x1] t)) W.heap.size x0 x1:=⟨by go_simp,by go_simp⟩
end Go.Proofs.YtpeiiomjnjemjaaGreat
