/- For any slice of int16s and any int16 and any uint8 the law RootboundScales returns true and its arguments read as before: the bounds of a multiple are the same, powers of x do not change Lower, squaring does not change Separation, and Log is the least exponent. No condition. -/
import Derived.Test.YtjmglmgokfcgoaaRowP
import Derived.OpenShut
import Derived.Test.YtjmglmgokfcgoaaIrow
import Derived.Test.YtjmglmgokfcgoaaSft
import Derived.Test.YtjmglmgokfcgoaaLin
import Derived.Test.YtjmglmgokfcgoaaSpz
import Derived.Test.YtjmglmgokfcgoaaPow
import Derived.Test.YtjmglmgokfcgoaaMlt
namespace Go.Proofs.Ytjmglmgokfcgoaa
open Go.ChangeShapes Go.WideShapes Go.ChangeAt Go.RowKit
theorem u8_wf3 {n:Int} (h:(Lit.int .u8 n).wf=true):0≤n∧n≤255:=by
 have h1:IntKind.u8.min=0:=rfl
 have h2:IntKind.u8.max=255:=rfl
 simp only [Lit.wf,Bool.and_eq_true,decide_eq_true_eq] at h
 omega
set_option maxRecDepth 100000 in
theorem lifted_s16nu (f:Nat) (fn:Func) (hp:fn.params=#[38,39,5]) (hr:fn.resultTypes=#[4]) {H:Type} (enc:TypeId×Value→H) (spec:ChangeSpec) (hsv:spec.vars=[]) (hsf:∀ d d' d'',spec.fn H [d,d',d'']={ results:=[.lit (.bool true)],args:=[d,d',d''] })
 (walk:∀ A len cap p n m w,I16At w A len cap p→len≤9223372036854775807→(-32768≤n∧n≤32767)→(0≤m∧m≤255)→Calls Try.prog f #[.slice A len cap,.int .i16 n,.int .u8 m] w fun e w'=>e=.returned (.bool true)∧Below w.heap.size w w')
 (W:World) (args:Array Value) (ds gs:List (DataW H)) (before:List MemPlace)
 (hval:∀ (j:Nat) t v,fn.params[j]?=some t→args[j]?=some v→Value.okWide Try.prog W .any 0 t v)
 (hW:DataW.Whole enc Try.prog fn.params.toList spec.vars false W args.toList ds gs before) :
 Calls Try.prog f args W fun e W'=>∃ v,e=Ending.returned v∧spec.post enc Try.prog fn false true false false W args v W':=by
 have hW':=hW
 obtain ⟨p,q,hA0,hV,rfl,_,_⟩:=hW
 have hA:DataW.TrodAll enc Try.prog W 0 (fun _=>true) true fn.params.toList args.toList ds p:=hA0
 rw [hp] at hA hval
 obtain ⟨v0,v1,v2,d0,d1,d2,p0,p1,p2,rfl,rfl,rfl,h0,h1,h2⟩:=trodAll_three hA
 rw [hsv] at hV
 obtain ⟨rfl,rfl⟩:=trodVars_none hV
 obtain ⟨a0,len,cap,rfl⟩:=okWide_slice Try.underlying38 (hval 0 38 v0 rfl rfl)
 obtain ⟨n,rfl,rfl,rfl,wn⟩:=open_int Try.underlying39 (hval 1 39 v1 rfl rfl) h1
 obtain ⟨m,rfl,rfl,rfl,wm⟩:=open_int Try.underlying5 (hval 2 5 v2 rfl rfl) h2
 simp only [List.append_nil] at hW'
 have hlt:∀ x∈p0,x.block<W.heap.size:=fun x hx=>by simpa using hW'.lt x hx
 obtain ⟨hlm,zs,hat⟩:=open_i16 h0 hlt
 refine (walk a0 len cap zs n m W hat hlm (i16_wf wn) (u8_wf3 wm)).mono fun e W' ⟨he,hb⟩=>?_
 subst he
 refine ⟨_,rfl,post_below (pa:=p0) (pv:=[]) hW' (fun _ _ _=>?_) (fun sp hs=>?_) (fun _ _=>?_) (by simp) hb ?_⟩
 ·rw [List.append_nil,hsf,hr]
  exact trodAll_mk1 (shut_bool Try.underlying4 _)
 ·rw [List.append_nil,hsf,hp]
  have h3:=trodAll_mk3 (Go.WideElems.Trod_stays Try.laidOut (by kernel_rfl) (of_decide_eq_true (by kernel_rfl)) h0 (fun x hx=>hb.same (hlt x hx)) hs) (shut_int (enc:=enc) (w:=W') (base:=0) (spare:=sp) (held:=true) Try.underlying39 wn) (shut_int (enc:=enc) (w:=W') (base:=0) (spare:=sp) (held:=true) Try.underlying5 wm)
  simpa using h3
 ·rw [hsv,List.append_nil,hsf]
  rfl
 ·exact ok_one hr rfl (okWide_bool_mk Try.underlying4 _)
end Go.Proofs.Ytjmglmgokfcgoaa
namespace Go.Proofs.Ytjmglmgokfcgoaa
open Go.RowKit
structure RsOK (c:Int) (f:List Int):Prop where
 hc:c.natAbs≤1024
 hf:Tiny 1125899906842624 f
 hy:∀ j,Tiny 1125899906842624 (hsh c (f.drop j))
theorem RsOK.prod {c:Int} {f:List Int} (h:RsOK c f) (j k:Nat):(c*(hsh c (f.drop j)).getD k 0).natAbs≤1152921504606846976:=by
 rw [Int.natAbs_mul]
 exact Nat.le_trans (Nat.mul_le_mul h.hc (h.hy j k)) (by decide)
end Go.Proofs.Ytjmglmgokfcgoaa
namespace Go.Proofs.Ytjmglmgokfcgoaa
open Go.RowKit
def VV (l:List Int):Nat:=(rst l l.length).1
set_option maxHeartbeats 1000000 in
theorem plag_low (A:Option Addr) (len cap:Nat) (p:List Int) (w:World) (h:PolyAt w A len cap p) (hs:SmP p) (hm:len≤1099511627776) (h2:plen p<2) :
 Calls Try.prog 24 #[.slice A len cap] w fun e w'=>e=.returned (.int .i64 0)∧Below w.heap.size w w':=by
 go_enter Try.func24,Try.ntmps24
 go_wp2_with fail
 refine (degree_any _ _ _ _ _ h hs hm).mono ?_
 rintro e w1 ⟨rfl,hb⟩
 have Hb:=Lib.hid hb
 have h3:((plen p:Nat)-1:Int)<1:=by omega
 clear h hb
 go_wp2
 go_ret
 exact ⟨rfl,Hb.out⟩
set_option maxRecDepth 100000 in
set_option maxHeartbeats 4000000 in
theorem plag_any (A:Option Addr) (len cap:Nat) (p:List Int) (k:Nat) (w:World) (h:PolyN w A len cap p) (hs:SmP p) (hm:len≤1000000) (h2:2≤plen p)
 (hk:k≤1000) (hz:VV (hsh (2^k) (ptrim p))=0) (hmin:∀ j,j<k→VV (hsh (2^j) (ptrim p))≠0) (hok:∀ j,j≤k→ShOK (2^j) (ptrim p)) (hsm:∀ j,j≤k→SmP (hsh (2^j) (ptrim p))) :
 Calls Try.prog 24 #[.slice A len cap] w fun e w'=>e=.returned (.int .i64 (k:Int))∧Below w.heap.size w w':=by
 have hpl:plen p≤1000000:=by have:=plen_le p;have:=h.length;omega
 have Hz:=Lib.hid hz
 have Hmin:=Lib.hid hmin
 have Hok:=Lib.hid hok
 have Hsm:=Lib.hid hsm
 clear hz hmin hok hsm
 go_enter Try.func24,Try.ntmps24
 go_wp2_with fail
 refine (degree_any _ _ _ _ _ (h.at_ ikN) hs (by omega)).mono ?_
 rintro e w1 ⟨rfl,hb1⟩
 have h1:=h.below ikN hb1
 have Hb1:=Lib.hid hb1
 have h3:¬ ((plen p:Nat)-1:Int)<1:=by omega
 clear h hb1 h2
 go_wp2_with fail
 refine (iof_any 1 _ (by unfold I64;omega)).mono ?_
 rintro e w2 ⟨n2,A2,l2,c2,rfl,h2,hb2⟩
 have hbx:Below w2.heap.size w2 (w2.alloc (ibox n2 A2 l2 c2)):=(Below.refl _ _).alloc (Nat.le_refl _) _
 have H1:=Lib.hid (h1.below ikN hb2)
 have HB:=Lib.hid (IBox.make h2)
 have Hb2:=Lib.hid (Hb1.out.trans (hb2.mono Hb1.out.size))
 have Hbx:=Lib.hid hbx
 clear h1 h2 hb2 Hb1 hbx h3
 go_wp2
 go_loopw [4] (fun s4 wr=>∃ (j:Nat) (n:Bool) (B:Option Addr) (lb cb:Nat),j≤k∧s4=.int .i64 (j:Int)∧IBox wr w2.heap.size n B lb cb (2^j)∧Below w2.heap.size w2 wr) (fun s4 _=>k-(intOf s4).toNat)
 case atStart=>exact ⟨0,_,_,_,_,Nat.zero_le _,rfl,HB.out,Hbx.out⟩
 case round =>
  clear HB Hbx
  obtain ⟨j,n,B,lb,cb,hjk,rfl,hbx,hbw⟩:=hrel
  have hp:=H1.out.below ikN hbw
  have c0:=hbx.c0
  have c1:=hbx.c1
  have Hp:=Lib.hid hp
  have Hbx:=Lib.hid hbx
  have Hbw:=Lib.hid hbw
  clear hp hbx hbw
  go_wp2_with fail
  refine (pshift_any ikN _ _ _ _ _ _ _ _ _ _ Hp.out Hbx.out.hz hs (by omega) (Hok.out j hjk)).mono ?_
  rintro e w3 ⟨g,rfl,hrow,hg,hb3⟩
  have Hp3:=Lib.hid (Hp.out.below ikN hb3)
  have Hbx3:=Lib.hid (Hbx.out.move hb3)
  have Hbw3:=Lib.hid (Hbw.out.trans (hb3.mono Hbw.out.size))
  have hll:(hsh (2^j) (ptrim p)).length=plen p:=by rw [hsh_length,ptrim_length]
  have hpo:=hrow.poly (cap:=plen p) (by omega)
  rw [hll] at hpo
  clear hrow hg hb3 c0 c1
  go_wp2_with fail
  refine (rvar_any _ _ _ _ _ (hpo.at_ ikN) (Hsm.out j hjk) (by omega)).mono ?_
  rintro e w4 ⟨rfl,hb4⟩
  have ev:(vst (hsh (2^j) (ptrim p)) (plen p)).1=VV (hsh (2^j) (ptrim p)):=by
   rw [(vst_rst _ _).1];unfold VV;rw [hll]
  rw [ev]
  have Hp4:=Lib.hid (Hp3.out.below ikN hb4)
  have Hbx4:=Lib.hid (Hbx3.out.move hb4)
  have Hbw4:=Lib.hid (Hbw3.out.trans (hb4.mono Hbw3.out.size))
  clear hll hpo ev hb4 Hp3 Hbx3 Hbw3
  by_cases hj:j=k
  ·subst hj
   rw [Hz.out]
   go_wp2
   go_ret
   exact ⟨rfl,Hb2.out.trans (Hbw4.out.mono Hb2.out.size)⟩
  ·have hne:=Hmin.out j (by omega)
   have hb0:(((VV (hsh (2^j) (ptrim p)):Nat):Int) == 0)=false:=by rw [beq_eq_false_iff_ne];omega
   generalize VV (hsh (2^j) (ptrim p))=v at hb0 ⊢
   have c0:=Hbx4.out.c0
   have c1:=Hbx4.out.c1
   have fitc:=(Hok.out j hjk).1
   clear hne
   go_wp2_with fail
   refine (ishl_any _ _ _ _ _ 1 _ Hbx4.out.hz.at_ fitc.sm (by omega)).mono ?_
   rintro e w5 ⟨n5,A5,l5,c5,rfl,h5,hb5⟩
   have hbx5:=Hbx4.out.move hb5
   have hp5:=Hp4.out.below ikN hb5
   have Hbw5:=Lib.hid ((Hbw4.out.trans (hb5.mono Hbw4.out.size)).setCell (p:=⟨w2.heap.size,0,none⟩) (Nat.le_refl _) (.bool n5) |>.setCell (p:=⟨w2.heap.size,1,none⟩) (Nat.le_refl _) (.slice A5 l5 c5))
   have e5:(2:Int)^j*2^1=2^(j+1):=by rw [Int.pow_succ];rfl
   rw [e5] at h5
   have Hbx5:=Lib.hid (hbx5.put h5)
   have d0:=hbx5.c0
   have d1:=hbx5.c1
   have d2:=hbx5.f0
   have d3:=hbx5.f1
   have Hp5:=Lib.hid hp5
   have Hd:=Lib.hid hbx5
   clear h5 hb5 hbx5 hp5 e5 c0 c1 fitc
   go_wp2
   go_roundw
   case rel=>exact ⟨j+1,_,_,_,_,by omega,by go_num,Hbx5.out,Hbw5.out⟩
   case measure=>simp [intOf];omega
end Go.Proofs.Ytjmglmgokfcgoaa
namespace Go.Proofs.Ytjmglmgokfcgoaa
open Go.RowKit
theorem getD_pos {l:List Int} {k:Nat} (h:∀ x∈l,0<x) (hk:k<l.length):0<l.getD k 0:=by
 rw [List.getD_eq_getElem?_getD,List.getElem?_eq_getElem hk]
 exact h _ (List.getElem_mem _)
theorem getD_neg {l:List Int} {k:Nat} (h:∀ x∈l,x<0) (hk:k<l.length):l.getD k 0<0:=by
 rw [List.getD_eq_getElem?_getD,List.getElem?_eq_getElem hk]
 exact h _ (List.getElem_mem _)
theorem rst_pos {l:List Int} (h:∀ x∈l,0<x):∀ k,k≤l.length→(rst l k).1=0∧0≤(rst l k).2:=by
 intro k
 induction k with
 | zero=>intro _;exact ⟨rfl,Int.le_refl _⟩
 | succ k ih =>
   intro hk
   obtain ⟨h1,h2⟩:=ih (by omega)
   have hx:=getD_pos h (k:=k) (by omega)
   rw [rst,if_neg (by omega)]
   refine ⟨?_,by show 0≤l.getD k 0;omega⟩
   show (if _ then _ else _)=0
   rw [if_neg (by omega)];exact h1
theorem rst_neg {l:List Int} (h:∀ x∈l,x<0):∀ k,k≤l.length→(rst l k).1=0∧(rst l k).2≤0:=by
 intro k
 induction k with
 | zero=>intro _;exact ⟨rfl,Int.le_refl _⟩
 | succ k ih =>
   intro hk
   obtain ⟨h1,h2⟩:=ih (by omega)
   have hx:=getD_neg h (k:=k) (by omega)
   rw [rst,if_neg (by omega)]
   refine ⟨?_,by show l.getD k 0≤0;omega⟩
   show (if _ then _ else _)=0
   rw [if_neg (by omega)];exact h1
theorem VV_pos {l:List Int} (h:∀ x∈l,0<x):VV l=0:=(rst_pos h _ (Nat.le_refl _)).1
theorem VV_neg {l:List Int} (h:∀ x∈l,x<0):VV l=0:=(rst_neg h _ (Nat.le_refl _)).1
theorem Tiny.mem {m:Nat} {p:List Int} (h:Tiny m p):∀ x∈p,x.natAbs≤m:=by
 intro x hx
 obtain ⟨k,hk⟩:=List.getElem?_of_mem hx
 have:=h k
 rw [List.getD_eq_getElem?_getD,hk] at this
 exact this
theorem tiny_of {m:Nat} {p:List Int} (h:∀ x∈p,x.natAbs≤m):Tiny m p:=by
 intro k
 rw [List.getD_eq_getElem?_getD]
 cases e:p[k]? with
 | none=>simp
 | some x=>exact h x (List.mem_of_getElem? e)
theorem ptrim_snoc {f:List Int} (h:1≤plen f):ptrim f=(ptrim f).take (plen f-1) ++ [plead f]:=by
 have hp:=ptrim_length f
 have e:plen f=(plen f-1)+1:=by omega
 have h1:=List.take_succ_eq_append_getElem (l:=ptrim f) (i:=plen f-1) (by omega)
 rw [← e,List.take_of_length_le (by omega)] at h1
 have h2:(ptrim f)[plen f-1]'(by omega)=plead f:=by
  unfold plead
  have h3:(ptrim f)[plen f-1]?=f[plen f-1]?:=by rw [ptrim,List.getElem?_take_of_lt (by omega)]
  rw [List.getD_eq_getElem?_getD,← h3,List.getElem?_eq_getElem (by omega)]
  rfl
 rw [h2] at h1
 exact h1
theorem VV_big {f:List Int} {m:Nat} {c:Int} (ht:Tiny m f) (hc:(m:Int)<c) (h2:1≤plen f):VV (hsh c (ptrim f))=0:=by
 have hmem:=(Tiny.trim ht).mem
 have hne:plead f≠0:=plead_ne (by omega)
 rw [ptrim_snoc h2] at hmem ⊢
 rcases Int.lt_or_gt_of_ne hne with h | h
 ·have hneg:hsh c (((ptrim f).take (plen f-1) ++ [plead f]).map (- ·))=(hsh c ((ptrim f).take (plen f-1) ++ [plead f])).map (- ·):=hsh_neg c _
  rw [List.map_append,List.map_singleton] at hneg
  have hpos:=hsh_pos (c:=c) (by omega) (((ptrim f).take (plen f-1)).map (- ·)) (-plead f) (by omega) (by
   intro x hx
   obtain ⟨y,hy,rfl⟩:=List.mem_map.1 hx
   have:=hmem y (List.mem_append_left _ hy)
   omega)
  rw [hneg] at hpos
  refine VV_neg fun x hx=>?_
  have:=hpos (-x) (List.mem_map_of_mem hx)
  omega
 ·refine VV_pos (hsh_pos (by omega) _ _ h fun x hx=>?_)
  have:=hmem x (List.mem_append_left _ hx)
  omega
theorem lagleast {P:Nat→Prop}:∀ K,P K→∃ k,k≤K∧P k∧∀ j,j<k→¬ P j:=by
 intro K
 induction K using Nat.strongRecOn with
 | _ K ih =>
   intro hK
   by_cases h:∃ j,j<K∧P j
   ·obtain ⟨j,hj,hp⟩:=h
    obtain ⟨k,h1,h2,h3⟩:=ih j hj hp
    exact ⟨k,by omega,h2,h3⟩
   ·exact ⟨K,Nat.le_refl _,hK,fun j hj hp=>h ⟨j,hj,hp⟩⟩
theorem syn_bound {c:Int} {C M:Nat} (hc:c.natAbs≤C) (l:List Int) (hl:∀ x∈l,x.natAbs≤M):∀ x∈syn c l,x.natAbs≤M*(C+1)^l.length:=by
 induction l with
 | nil=>intro x hx;cases hx
 | cons a t ih =>
   have h1:=ih (fun z hz=>hl z (List.mem_cons_of_mem _ hz))
   have ha:=hl a List.mem_cons_self
   have hp:1≤(C+1)^t.length:=Nat.one_le_pow _ _ (by omega)
   have hM:M≤M*(C+1)^t.length:=Nat.le_mul_of_pos_right _ hp
   have e:M*(C+1)^(a :: t).length=M*(C+1)^t.length*C+M*(C+1)^t.length:=by
    rw [List.length_cons,Nat.pow_succ,← Nat.mul_assoc,Nat.mul_add,Nat.mul_one]
   intro x hx
   rw [e]
   simp only [syn,List.mem_cons] at hx
   rcases hx with rfl | hx
   ·split
    ·omega
    ·have h2:(hd0 (syn c t)).natAbs≤M*(C+1)^t.length:=by
      cases hu:syn c t with
      | nil=>simp [hd0]
      | cons b u=>rw [hu] at h1;exact h1 b List.mem_cons_self
     have h3:(c*hd0 (syn c t)).natAbs≤M*(C+1)^t.length*C:=by
      rw [Int.natAbs_mul,Nat.mul_comm]
      exact Nat.mul_le_mul h2 hc
     omega
   ·have:=h1 x hx
    omega
theorem pass_bound {c:Int} {C M n:Nat} (hc:c.natAbs≤C) (low:Nat) (l:List Int) (hn:l.length≤n) (hl:∀ x∈l,x.natAbs≤M):∀ x∈pass c low l,x.natAbs≤M*(C+1)^n:=by
 intro x hx
 have hp:1≤(C+1)^n:=Nat.one_le_pow _ _ (by omega)
 rw [pass] at hx
 rcases List.mem_append.1 hx with h | h
 ·exact Nat.le_trans (hl x (List.mem_of_mem_take h)) (Nat.le_mul_of_pos_right _ hp)
 ·refine Nat.le_trans (syn_bound hc _ (fun z hz=>hl z (List.mem_of_mem_drop hz)) x h) ?_
  exact Nat.mul_le_mul_left _ (Nat.pow_le_pow_right (by omega) (by rw [List.length_drop];omega))
theorem st_bound {c:Int} {C M n:Nat} (hc:c.natAbs≤C) (l:List Int) (hn:l.length≤n) (hl:∀ x∈l,x.natAbs≤M):∀ k,∀ x∈st c l k,x.natAbs≤M*(C+1)^(n*k):=by
 intro k
 induction k with
 | zero=>intro x hx;simpa [st] using hl x hx
 | succ k ih =>
   intro x hx
   have:=pass_bound (n:=n) hc k (st c l k) (by rw [st_length];exact hn) ih x hx
   rw [Nat.mul_succ,Nat.pow_add,← Nat.mul_assoc]
   exact this
theorem shok_tiny {c:Int} {C M n:Nat} (hc:c.natAbs≤C) (l:List Int) (hn:l.length≤n) (hl:∀ x∈l,x.natAbs≤M) (h1:C<BB^FW) (h2:M*(C+1)^(n*n+n)<BB^FW):ShOK c l:=by
 refine ⟨Nat.lt_of_le_of_lt hc h1,fun k j i hk=>?_⟩
 have hb:=pass_bound (n:=n) hc j (st c l k) (by rw [st_length];exact hn) (st_bound hc l hn hl k)
 refine Nat.lt_of_le_of_lt ?_ h2
 refine Nat.le_trans (tiny_of hb i) ?_
 rw [Nat.mul_assoc,← Nat.pow_add]
 exact Nat.mul_le_mul_left _ (Nat.pow_le_pow_right (by omega) (by have:n*k≤n*n:=Nat.mul_le_mul_left _ (by omega);omega))
theorem Tiny.drop {m:Nat} {p:List Int} (h:Tiny m p) (j:Nat):Tiny m (p.drop j):=tiny_of fun x hx=>h.mem x (List.mem_of_mem_drop hx)
end Go.Proofs.Ytjmglmgokfcgoaa
namespace Go.Proofs.Ytjmglmgokfcgoaa
open Go.RowKit
theorem hst_tiny {p:List Int} {m:Nat} (h:Tiny m p) (k:Nat):hst p k≤m:=by
 induction k with
 | zero=>exact Nat.zero_le _
 | succ k ih =>
   simp only [hst]
   split
   ·exact h k
   ·exact ih
theorem rcau_tiny {p:List Int} {m:Nat} (h:Tiny m p):rcau p≤1+(m+m):=by
 unfold rcau
 split
 ·omega
 ·have hne:plead p≠0:=plead_ne (by omega)
  have h1:=cst_le p (L:=(plead p).natAbs) (by omega) h (plen p-1)
  have h2:(plead p).natAbs≤m:=h _
  omega
theorem tiny_mem {m:Nat} {p:List Int} (h:∀ x∈p,x.natAbs≤m):Tiny m p:=by
 intro k
 rw [List.getD_eq_getElem?_getD]
 cases e:p[k]? with
 | none=>simp
 | some x=>exact h x (List.mem_of_getElem? e)
theorem Tiny.prv {p:List Int} {m:Nat} (h:Tiny m p):Tiny m (prv p):=by
 have h1:Tiny m (ptrim p).reverse:=tiny_mem fun x hx=>by
  obtain ⟨k,hk⟩:=List.getElem?_of_mem (List.mem_reverse.1 hx)
  have:=h.trim k
  rw [List.getD_eq_getElem?_getD,hk] at this
  exact this
 exact h1.trim
end Go.Proofs.Ytjmglmgokfcgoaa
namespace Go.Proofs.Ytjmglmgokfcgoaa
open Go.RowKit
theorem psc_plen {p:List Int} {c:Int} (hc:c≠0):plen (psc c p)=plen p:=by
 have a1:plen (psc c p)≤plen p:=plen_le_of fun k hk=>by rw [psc_get,getD_ge_plen p k hk,Int.mul_zero]
 have a2:plen p≤plen (psc c p):=plen_le_of fun k hk=>by
  have:=getD_ge_plen (psc c p) k hk
  rw [psc_get] at this
  exact (Int.mul_eq_zero.1 this).resolve_left hc
 omega
theorem psc_length (c:Int) (p:List Int):(psc c p).length=p.length:=by unfold psc;rw [List.length_map]
theorem psc_trim {p:List Int} {c:Int} (hc:c≠0):ptrim (psc c p)=psc c (ptrim p):=by
 unfold ptrim
 rw [psc_plen hc]
 unfold psc
 rw [List.map_take]
theorem psc_lead {p:List Int} {c:Int} (hc:c≠0):plead (psc c p)=c*plead p:=by
 unfold plead
 rw [psc_plen hc,psc_get]
theorem ceil_mul {a b c:Nat} (hb:0<b) (hc:0<c):(c*a+c*b-1) / (c*b)=(a+b-1) / b:=by
 have h1:=Nat.div_add_mod (a+b-1) b
 have h2:=Nat.mod_lt (a+b-1) hb
 generalize (a+b-1) / b=q at *
 have h3:b*q+b≤a+b-1+b:=by omega
 have hcb:0<c*b:=Nat.mul_pos hc hb
 refine Nat.div_eq_of_lt_le ?_ ?_
 ·have h4:c*(b*q)≤c*(a+b-1):=Nat.mul_le_mul_left _ (by omega)
  have h5:c*(a+b-1)+c=c*a+c*b:=by rw [← Nat.mul_succ,show (a+b-1).succ=a+b by omega,Nat.mul_add]
  have h6:q*(c*b)=c*(b*q):=by rw [Nat.mul_comm,Nat.mul_assoc]
  omega
 ·have h4:c*(a+b)≤c*(b*q+b):=Nat.mul_le_mul_left _ (by omega)
  have h5:(q+1)*(c*b)=c*(b*q+b):=by rw [Nat.add_mul,Nat.one_mul,Nat.mul_comm q,Nat.mul_assoc,Nat.mul_add]
  have h6:c*(a+b)=c*a+c*b:=Nat.mul_add _ _ _
  omega
theorem cst_psc {c:Int} (hc:c≠0) (p:List Int) {L:Nat} (hL:0<L):∀ k,cst (psc c p) (c.natAbs*L) k=cst p L k
 | 0=>rfl
 | k+1=>by
   show max (cst (psc c p) (c.natAbs*L) k) ((((psc c p).getD k 0).natAbs+c.natAbs*L-1) / (c.natAbs*L))=max (cst p L k) (((p.getD k 0).natAbs+L-1) / L)
   rw [cst_psc hc p hL k,psc_get,Int.natAbs_mul,ceil_mul hL (Int.natAbs_pos.2 hc)]
theorem rcau_psc {c:Int} (hc:c≠0) (p:List Int):rcau (psc c p)=rcau p:=by
 unfold rcau
 rw [psc_plen hc]
 by_cases h:plen p<2
 ·rw [if_pos h,if_pos h]
 ·have hl:plead p≠0:=plead_ne (by omega)
  rw [if_neg h,if_neg h,psc_lead hc,Int.natAbs_mul,cst_psc hc p (Int.natAbs_pos.2 hl)]
theorem rst_psc {c:Int} (hc:c≠0) (p:List Int):∀ k,rst (psc c p) k=((rst p k).1,c*(rst p k).2)
 | 0=>by show ((0:Nat),(0:Int))=(0,c*0);rw [Int.mul_zero]
 | k+1=>by
   simp only [rst]
   rw [rst_psc hc p k,psc_get]
   generalize p.getD k 0=a
   obtain ⟨q,hq⟩:∃ q,q=rst p k:=⟨_,rfl⟩
   rw [← hq]
   obtain ⟨n,l⟩:=q
   dsimp only
   clear hq
   by_cases ha:a=0
   ·rw [ha,Int.mul_zero,if_pos rfl,if_pos rfl]
   ·rw [if_neg (Int.mul_ne_zero hc ha),if_neg ha]
    have key:((c*l<0∧0<c*a)∨(0<c*l∧c*a<0))↔((l<0∧0<a)∨(0<l∧a<0)):=by
     rcases Int.lt_or_gt_of_ne hc with c0 | c0
     ·have p1:∀ x:Int,c*x<0↔0<x:=fun x=>⟨fun h=>Classical.byContradiction fun hn=>by have:=Int.mul_nonneg_of_nonpos_of_nonpos (Int.le_of_lt c0) (show x≤0 by omega);omega,fun h=>Int.mul_neg_of_neg_of_pos c0 h⟩
      have p2:∀ x:Int,0<c*x↔x<0:=fun x=>⟨fun h=>Classical.byContradiction fun hn=>by have:=Int.mul_nonneg (show 0≤-c by omega) (show 0≤x by omega);rw [Int.neg_mul] at this;omega,fun h=>Int.mul_pos_of_neg_of_neg c0 h⟩
      rw [p1,p2,p1,p2]
      exact Or.comm
     ·have p1:∀ x:Int,c*x<0↔x<0:=fun x=>⟨fun h=>Classical.byContradiction fun hn=>by have:=Int.mul_nonneg (Int.le_of_lt c0) (show 0≤x by omega);omega,fun h=>Int.mul_neg_of_pos_of_neg c0 h⟩
      have p2:∀ x:Int,0<c*x↔0<x:=fun x=>⟨fun h=>Classical.byContradiction fun hn=>by have:=Int.mul_nonneg (Int.le_of_lt c0) (show 0≤-x by omega);rw [Int.mul_neg] at this;omega,fun h=>Int.mul_pos c0 h⟩
      rw [p1,p2,p1,p2]
    by_cases hk:(l<0∧0<a)∨(0<l∧a<0)
    ·rw [if_pos (key.2 hk),if_pos hk]
    ·rw [if_neg (fun h=>hk (key.1 h)),if_neg hk]
theorem VV_psc {c:Int} (hc:c≠0) (p:List Int):VV (psc c p)=VV p:=by
 unfold VV
 rw [psc_length,rst_psc hc]
theorem mulX_psc (n c:Int):∀ (y:List Int) (s:Int),mulX c (n*s) (psc n y)=psc n (mulX c s y)
 | [],s=>rfl
 | b :: y,s=>by
   show (n*s+c*(n*b)) :: mulX c (n*b) (psc n y)=(n*(s+c*b)) :: psc n (mulX c b y)
   rw [mulX_psc n c y b]
   congr 1
   grind
theorem hsh_psc (n c:Int):∀ p:List Int,hsh c (psc n p)=psc n (hsh c p)
 | []=>rfl
 | a :: t=>by
   show mulX c (n*a) (hsh c (psc n t))=psc n (mulX c a (hsh c t))
   rw [hsh_psc n c t,mulX_psc]
theorem VV_hsh_psc {n:Int} (hn:n≠0) (c:Int) (p:List Int):VV (hsh c (ptrim (psc n p)))=VV (hsh c (ptrim p)):=by
 rw [psc_trim hn,hsh_psc,VV_psc hn]
theorem prv_psc {n:Int} (hn:n≠0) (p:List Int):prv (psc n p)=psc n (prv p):=by
 unfold prv
 rw [psc_trim (p:=p) hn,← psc_trim (p:=(ptrim p).reverse) hn]
 congr 1
 unfold psc
 rw [List.map_reverse]
theorem low_psc {n:Int} (hn:n≠0) (p:List Int):rcau (prv (psc n p))=rcau (prv p):=by rw [prv_psc hn,rcau_psc hn]
theorem pprim_psc {n:Int} (hn:n≠0) {p:List Int} (h0:plen p≠0):pprim (psc n p)=pprim p:=by
 have h1:plen (psc n p)≠0:=by rw [psc_plen hn];exact h0
 have d1:Dvq (pprim (psc n p)) (pprim p):=(dvq_prim_l h1).trans (Dvq.trans ⟨n,[1],hn,fun x=>by rw [ev_const,ev_psc,Int.one_mul]⟩ (dvq_prim_r h0))
 have d2:Dvq (pprim p) (pprim (psc n p)):=(dvq_prim_l h0).trans (Dvq.trans ⟨1,[n],by decide,fun x=>by rw [ev_const,ev_psc,Int.one_mul]⟩ (dvq_prim_r h1))
 rw [← gp_trim (psc n p),← gp_trim p]
 exact ptrim_ext (dvq_eq (gp_lead h1) (gp_lead h0) (by rw [gp_cont h1,gp_cont h0]) d1 d2)
theorem qpart_psc {n:Int} (hn:n≠0) (p:List Int):qpart (psc n p)=qpart p:=by
 by_cases h0:plen p=0
 ·rw [qpart_nil h0,qpart_nil (by rw [psc_plen hn];exact h0)]
 ·unfold qpart qdiv
  rw [psc_plen hn,pprim_psc hn h0]
def xk (n:Nat):List Int:=List.replicate n 0 ++ [1]
theorem xk_length (n:Nat):(xk n).length=n+1:=by simp [xk]
theorem zer_ev (x:Int) (p:List Int):∀ n,ev (List.replicate n 0 ++ p) x=x^n*ev p x
 | 0=>by rw [Int.pow_zero,Int.one_mul];rfl
 | n+1=>by
   rw [List.replicate_succ,List.cons_append,ev_cons,zer_ev x p n,Int.pow_succ]
   grind
theorem xk_ev (n:Nat) (x:Int):ev (xk n) x=x^n:=by
 unfold xk
 rw [zer_ev,ev_const,Int.mul_one]
theorem zer_trim {p:List Int} (h:ptrim p=p) (h0:plen p≠0) (n:Nat):ptrim (List.replicate n 0 ++ p)=List.replicate n 0 ++ p:=by
 have hl:p.length=plen p:=by rw [← ptrim_length,h]
 have e:(List.replicate n (0:Int) ++ p).length=n+plen p:=by rw [List.length_append,List.length_replicate,hl]
 have hg:(List.replicate n (0:Int) ++ p).getD (n+(plen p-1)) 0=plead p:=by
  rw [List.getD_eq_getElem?_getD,List.getElem?_append_right (by rw [List.length_replicate];omega),List.length_replicate,show n+(plen p-1)-n=plen p-1 by omega,← List.getD_eq_getElem?_getD]
  rfl
 have hp:plen (List.replicate n (0:Int) ++ p)=n+(plen p-1)+1:=plen_eq _ _ (by have:=plen_le (List.replicate n (0:Int) ++ p);rw [e] at this;omega) (by rw [hg];exact plead_ne h0)
 unfold ptrim
 rw [hp,show n+(plen p-1)+1=n+plen p by omega,← e,List.take_length]
theorem xk_trim (n:Nat):ptrim (xk n)=xk n:=zer_trim (by decide) (by decide) n
theorem xk_mul (a b:Nat):ptrim (polymul (xk a) (xk b))=xk (a+b):=by
 rw [← xk_trim (a+b)]
 exact ptrim_ext (ev_inj fun x=>by rw [ev_mul,xk_ev,xk_ev,xk_ev,Int.pow_add])
theorem mul_xk {f:List Int} (h0:plen f≠0) (n:Nat):ptrim (polymul (ptrim f) (xk n))=List.replicate n 0 ++ ptrim f:=by
 rw [← zer_trim (p:=ptrim f) (ptrim_ptrim f) (by rw [plen_ptrim];exact h0) n]
 exact ptrim_ext (ev_inj fun x=>by rw [ev_mul,xk_ev,zer_ev,Int.mul_comm])
theorem app_zer_get (l:List Int) (n k:Nat):(l ++ List.replicate n 0).getD k 0=l.getD k 0:=by
 rw [List.getD_eq_getElem?_getD,List.getD_eq_getElem?_getD]
 rcases Nat.lt_or_ge k l.length with h | h
 ·rw [List.getElem?_append_left h]
 ·rw [List.getElem?_append_right h,List.getElem?_eq_none h,List.getElem?_replicate]
  split<;>rfl
theorem prv_xk (f:List Int) (n:Nat):prv (polymul (ptrim f) (xk n))=prv f:=by
 by_cases h0:plen f=0
 ·have e:ptrim (polymul (ptrim f) (xk n))=ptrim f:=ptrim_ext (ev_inj fun x=>by
   rw [ev_mul,ev_trim,ev_congr (p:=f) (q:=[]) (fun k=>by rw [getD_ge_plen f k (by omega)];simp) x,ev_nil,Int.zero_mul])
  unfold prv
  rw [e]
 ·unfold prv
  rw [mul_xk h0,List.reverse_append,List.reverse_replicate]
  exact ptrim_ext (app_zer_get _ _)
theorem qpart_sq {f:List Int} (hF:QOK f) (hG:QOK (polymul (ptrim f) (ptrim f))):qpart (polymul (ptrim f) (ptrim f))=qpart f:=by
 obtain ⟨g,hge⟩:∃ g,g=polymul (ptrim f) (ptrim f):=⟨_,rfl⟩
 rw [← hge] at hG ⊢
 have eg:∀ x,ev g x=ev f x*ev f x:=fun x=>by rw [hge,ev_mul,ev_trim]
 by_cases h0:plen f=0
 ·have e:plen g=0:=by
   have h1:∀ x,ev g x=ev [] x:=fun x=>by
    rw [eg,ev_congr (p:=f) (q:=[]) (fun k=>by rw [getD_ge_plen f k (by omega)];simp) x,ev_nil]
    rfl
   rw [plen_ev h1];rfl
  rw [qpart_nil h0,qpart_nil e]
 have g0:plen g≠0:=by
  rw [hge,(plen_mul (by rw [plen_ptrim];omega) (by rw [plen_ptrim];omega)).1,plen_ptrim];omega
 have Q:=q_facts hF h0
 have R:=q_facts hG g0
 have p0:plen (pprim f)≠0:=by rw [gp_plen];exact h0
 have r0:plen (pprim g)≠0:=by rw [gp_plen];exact g0
 have hq:IsGcd (pprim f) (pder (pprim f)) (qdiv f):=(gres_is Q.ga).resolve_left (fun h=>p0 h.1) |>.2
 have hr:IsGcd (pprim g) (pder (pprim g)) (qdiv g):=(gres_is R.ga).resolve_left (fun h=>r0 h.1) |>.2
 obtain ⟨P,hP⟩:∃ P,P=pprim f:=⟨_,rfl⟩
 have lP:0<plead P:=by rw [hP];exact gp_lead h0
 have cP:pcont P=1:=by rw [hP];exact gp_cont h0
 have pP:1≤plen P:=by rw [hP];omega
 obtain ⟨c,hc⟩:∃ c,c=sg (plead f)*(pcont f:Int):=⟨_,rfl⟩
 have c0:c≠0:=by rw [hc];exact gp_ne h0
 have ef:∀ x,ev f x=c*ev P x:=fun x=>by
  rw [← ev_psc]
  exact ev_congr (fun k=>by rw [psc_get,hc,hP];exact gp_get h0 k) x
 have hPP:=plen_mul pP pP
 have ePP:∀ k,(pprim g).getD k 0=(polymul P P).getD k 0:=dvq_eq (gp_lead g0) (by rw [hPP.2];exact Int.mul_pos lP lP) (by rw [gp_cont g0,pcont_mul,cP])
  ((dvq_prim_l g0).trans ⟨c*c,[1],Int.mul_ne_zero c0 c0,fun x=>by rw [ev_const,ev_mul,eg,ef];grind⟩)
  (Dvq.trans ⟨1,[c*c],by decide,fun x=>by rw [ev_const,ev_mul,eg,ef];grind⟩ (dvq_prim_r g0))
 have e1:∀ x,ev (pprim g) x=ev P x*ev P x:=fun x=>by rw [ev_congr ePP,ev_mul]
 have e2:∀ x,ev (pder (pprim g)) x=2*(ev P x*ev (pder P) x):=fun x=>by
  rw [ev_congr (q:=pder (polymul P P)) (fun k=>by rw [pder_getD,pder_getD,ePP]),pder_ev,dv_mul (p:=polymul P P) (a:=P) (b:=P) (fun x=>ev_mul _ _ _),pder_ev]
  grind
 rw [← hP] at hq
 obtain ⟨D,hD⟩:∃ D,D=qdiv f:=⟨_,rfl⟩
 rw [← hD] at hq
 have pD:1≤plen D:=by have:=hq.ne;omega
 have hPD:=plen_mul pP pD
 have eD:∀ k,(qdiv g).getD k 0=(polymul P D).getD k 0:=by
  refine dvq_eq hr.lead (by rw [hPD.2];exact Int.mul_pos lP hq.lead) (by rw [hr.cont,gp_cont g0,Nat.gcd_one_left,pcont_mul,cP,hq.cont,cP,Nat.gcd_one_left]) ?_ ?_
  ·obtain ⟨d,u,v,hd,hb⟩:=hq.c
   refine Dvq.comb hr.l hr.r ⟨2*d,psc 2 u,v,by omega,fun x=>?_⟩
   rw [ev_psc,ev_mul,e1,e2]
   have:=hb x
   generalize ev P x=a at *
   generalize ev D x=b at *
   generalize ev (pder P) x=p at *
   generalize ev u x=U at *
   generalize ev v x=V at *
   have h3:2*d*(a*b)=2*a*(d*b):=by grind
   rw [h3,this]
   grind
  ·refine Dvq.comb (d:=polymul P D) ?_ ?_ hr.c
   ·obtain ⟨d,r,hd,hb⟩:=hq.l
    refine ⟨d,r,hd,fun x=>?_⟩
    rw [e1,ev_mul]
    have:=hb x
    generalize ev P x=a at *
    generalize ev D x=b at *
    have h3:d*(a*a)=a*(d*a):=by grind
    rw [h3,this]
    grind
   ·obtain ⟨d,r,hd,hb⟩:=hq.r
    refine ⟨d,psc 2 r,hd,fun x=>?_⟩
    rw [e2,ev_mul,ev_psc]
    have:=hb x
    generalize ev P x=a at *
    generalize ev D x=b at *
    generalize ev (pder P) x=p at *
    have h3:d*(2*(a*p))=2*a*(d*p):=by grind
    rw [h3,this]
    grind
 rw [← R.t,← Q.t]
 have hne:plen (polymul P D)≠0:=by omega
 have h1:∀ x,ev (qpart g) x*ev (polymul P D) x=ev (qpart f) x*ev (polymul P D) x:=fun x=>by
  have k1:=R.prod x
  have k2:=Q.prod x
  rw [← hP,← hD] at k2
  rw [ev_congr eD,e1] at k1
  rw [← k1,ev_mul]
  generalize ev P x=a at *
  generalize ev D x=b at *
  have h3:ev (qpart f) x*(a*b)=a*(ev (qpart f) x*b):=by grind
  rw [h3,← k2]
 refine ptrim_ext fun k=>?_
 have h2:∀ x,ev (polymul (padd (qpart g) (psc (-1) (qpart f))) (polymul P D)) x=ev [] x:=fun x=>by
  rw [ev_mul,ev_padd,ev_psc,ev_nil,Int.add_mul,h1 x]
  grind
 have h3:plen (padd (qpart g) (psc (-1) (qpart f)))=0:=Classical.byContradiction fun c=>polymul_ne c hne (by rw [plen_ev h2];rfl)
 have h4:=getD_ge_plen (padd (qpart g) (psc (-1) (qpart f))) k (by omega)
 rw [padd_get,psc_get] at h4
 omega
end Go.Proofs.Ytjmglmgokfcgoaa
namespace Go.Proofs.Ytjmglmgokfcgoaa
open Go.RowKit
theorem xk_fit (n:Nat):FitP (xk n):=fun j=>by
 have h:((xk n).getD j 0).natAbs≤1:=by
  unfold xk
  rw [List.getD_eq_getElem?_getD]
  rcases Nat.lt_or_ge j n with c | c
  ·rw [List.getElem?_append_left (by simpa using c),List.getElem?_replicate,if_pos c];decide
  ·rw [List.getElem?_append_right (by simpa using c),List.length_replicate]
   match j-n with
   | 0=>decide
   | i+1=>simp
 exact Nat.lt_of_le_of_lt (Nat.le_trans h (show 1≤BB^1 by rw [Nat.pow_one,BB_eq];decide)) (bb_fw (by decide))
def XkP (w:World) (v:Value) (n:Nat):Prop:=∃ A l c R,v=.slice A l c∧l≤100∧PolyN w A l c R∧ptrim R=xk n
theorem XkP.below {w w':World} {v:Value} {n:Nat} (h:XkP w v n) (hb:Below w.heap.size w w'):XkP w' v n:=by
 obtain ⟨A,l,c,R,e,hl,h1,h2⟩:=h
 exact ⟨A,l,c,R,e,hl,h1.below ikN hb,h2⟩
theorem trim_fit {R:List Int} (h:FitP (ptrim R)):FitP R:=fun j=>by rw [← ptrim_getD];exact h j
theorem xkp_mul {w:World} {A B:Option Addr} {la ca lb cb a b:Nat} {R S:List Int} (hA:PolyN w A la ca R) (hB:PolyN w B lb cb S) (eR:ptrim R=xk a) (eS:ptrim S=xk b) (hl:la≤100) (hm:lb≤100) (hab:a+b≤40) :
 Calls Try.prog 9 #[.slice A la ca,.slice B lb cb] w fun e w'=>∃ v,e=.returned v∧XkP w' v (a+b)∧Below w.heap.size w w':=by
 refine (polymul_any ikN ikN _ _ _ R _ _ _ S _ hA hB (trim_fit (by rw [eR];exact xk_fit a)) (trim_fit (by rw [eS];exact xk_fit b)) (by omega) (by omega)).mono ?_
 rintro e w' ⟨A',l',c',rfl,h,hb⟩
 rw [eR,eS] at h
 refine ⟨_,rfl,⟨_,_,_,_,rfl,?_,h,xk_mul a b⟩,hb⟩
 rw [← h.length]
 unfold polymul
 split
 ·exact Nat.zero_le _
 ·rw [pmul_length,xk_length,xk_length];omega
set_option maxRecDepth 100000 in
set_option maxHeartbeats 4000000 in
theorem pow_x (A:Option Addr) (l c:Nat) (n:Nat) (w:World) (h:PolyN w A l c (xk 1)) (hn:n≤4) :
 Calls Try.prog 29 #[.slice A l c,.int .i64 (n:Int)] w fun e w'=>∃ v,e=.returned v∧XkP w' v n∧Below w.heap.size w w':=by
 have hl:l=2:=h.length.symm
 subst hl
 have hbx:Below w.heap.size w (w.alloc (.cells #[.int .i64 1] 2)):=(Below.refl _ _).alloc (Nat.le_refl _) _
 have h1:=h.below ikN hbx
 have Hbx:=Lib.hid hbx
 have hat:I64At (w.alloc (.cells #[.int .i64 1] 2)) (some ⟨w.heap.size,0,none⟩) 1 1 [1]:=by
  refine ⟨rfl,Nat.le_refl _,.inr ⟨w.heap.size,0,rfl,by simp,fun j hj=>?_⟩⟩
  have hj0:j=0:=by omega
  subst hj0
  go_simp
 have Hat:=Lib.hid hat
 clear h hbx hat
 go_enter Try.func29,Try.ntmps29
 go_wp2_with fail
 refine (pof_any _ _ _ _ _ Hat.out (by intro c hc;rw [List.mem_singleton.1 hc];unfold I64;omega) (by omega)).mono ?_
 rintro e w1 ⟨A1,l1,c1,rfl,h2,hb1⟩
 rw [ptrim_const (by decide)] at h2
 have hl1:1=l1:=h2.length
 subst hl1
 have h3:=h1.below ikN hb1
 have Hb1:=Lib.hid (Hbx.out.trans (hb1.mono Hbx.out.size))
 have H2:=Lib.hid h2
 clear h1 hb1 Hbx Hat h2
 go_wp2_with fail
 refine (pnormal_any ikN _ _ _ _ _ h3 (xk_fit 1).smp (by omega)).mono ?_
 rintro e w2 ⟨g2,rfl,h4,-,hb2⟩
 rw [xk_trim] at h4
 have hp1:plen (xk 1)=2:=by decide
 rw [hp1]
 have h5:=h4.poly (cap:=2) (Nat.le_refl _)
 have hinv:XkP w2 (.slice A1 1 c1) 0∧XkP w2 (.slice (some ⟨g2,0,none⟩) 2 2) 1∧Below w.heap.size w w2 :=
  ⟨⟨_,_,_,_,rfl,by omega,H2.out.below ikN hb2,ptrim_const (by decide)⟩,⟨_,_,_,_,rfl,by omega,h5,xk_trim 1⟩,Hb1.out.trans (hb2.mono Hb1.out.size)⟩
 have Hinv:=Lib.hid hinv
 clear h3 h4 h5 hb2 hp1 H2 Hb1 hinv
 go_wp2
 go_loopw [1,5,6] (fun m R S wr=>∃ (k a b:Nat),k≤4∧m=.int .i64 (k:Int)∧XkP wr R a∧XkP wr S b∧a+b*k=n∧b≤8∧Below w.heap.size w wr) (fun m _ _ _=>(intOf m).toNat)
 case atStart =>
  obtain ⟨e1,e2,hb⟩:=Hinv.out
  exact ⟨n,0,1,hn,rfl,e1,e2,by omega,by omega,hb⟩
 case round =>
  clear Hinv
  obtain ⟨k,a,b,hk,rfl,⟨R,lR,cR,r,rfl,hlR,hr,er⟩,⟨S,lS,cS,s,rfl,hlS,hs,es⟩,hab,hb8,hb⟩:=hrel
  have Hab:=Lib.hid hab
  have ha4:a≤4:=by have:=Nat.le_add_right a (b*k);omega
  by_cases hk0:k=0
  ·subst hk0
   have Hfin:=Lib.hid (show a=n by have:=Hab.out;simpa using this)
   have Hr:=Lib.hid hr
   have Er:=Lib.hid er
   have Hb:=Lib.hid hb
   clear hr hs hb hab er es
   go_wp2
   go_ret
   exact ⟨_,rfl,⟨_,_,_,_,rfl,hlR,Hr.out,by rw [← Hfin.out];exact Er.out⟩,Hb.out⟩
  ·have hk1:(0:Int)<(k:Int):=by omega
   obtain ⟨j,hj⟩:∃ j,j=k / 2:=⟨_,rfl⟩
   have hand:=bits_and_one (n:=k) (by omega)
   have hshr:(k:Int) / 2=(j:Int):=by omega
   have hj2:j≤2:=by omega
   have Hr:=Lib.hid hr
   have Hs:=Lib.hid hs
   have Er:=Lib.hid er
   have Es:=Lib.hid es
   have Hb:=Lib.hid hb
   have Hj:=Lib.hid hj
   have Hb4:=Lib.hid (show 1<k→b≤2 from fun h=>by
    have h1:=Hab.out
    have h2:b*2≤b*k:=Nat.mul_le_mul_left _ (by omega)
    omega)
   rcases Nat.mod_two_eq_zero_or_one k with hm | hm
   ·rw [hm] at hand
    have Hkj:=Lib.hid (show k=2*j by omega)
    clear hr hs hb hj hab er es hk0
    by_cases hj0:j=0
    ·exfalso
     have:=Hkj.out
     omega
    ·have hj1:(0:Int)<(j:Int):=by omega
     go_wp2_with fail
     refine (xkp_mul Hs.out Hs.out Es.out Es.out hlS hlS (by omega)).mono ?_
     rintro e w4 ⟨v4,rfl,h4,hb4⟩
     have H4:=Lib.hid h4
     have HR4:=Lib.hid (Hr.out.below ikN hb4)
     have HB4:=Lib.hid (Hb.out.trans (hb4.mono Hb.out.size))
     clear h4 hb4
     go_wp2
     go_roundw
     case rel=>exact ⟨j,a,b+b,by omega,by go_num,⟨_,_,_,_,rfl,hlR,HR4.out,Er.out⟩,H4.out,by rw [← Hab.out,Hkj.out,← Nat.two_mul,Nat.mul_comm 2 b,Nat.mul_assoc],by have:=Hb4.out (by have:=Hkj.out;omega);omega,HB4.out⟩
     case measure=>have:=Hkj.out;simp [intOf];omega
   ·rw [hm] at hand
    have Hkj:=Lib.hid (show k=2*j+1 by omega)
    clear hr hs hb hj hab er es hk0
    by_cases hj0:j=0
    ·subst hj0
     go_wp2_with fail
     refine (xkp_mul Hr.out Hs.out Er.out Es.out hlR hlS (by omega)).mono ?_
     rintro e w3 ⟨v3,rfl,h3,hb3⟩
     have H3:=Lib.hid h3
     have HS3:=Lib.hid (Hs.out.below ikN hb3)
     have HB3:=Lib.hid (Hb.out.trans (hb3.mono Hb.out.size))
     clear h3 hb3
     go_wp2
     go_roundw
     case rel=>exact ⟨0,a+b,b,by omega,by go_num,H3.out,⟨_,_,_,_,rfl,hlS,HS3.out,Es.out⟩,by have h1:=Hab.out;rw [Hkj.out] at h1;simpa using h1,hb8,HB3.out⟩
     case measure=>have:=Hkj.out;simp [intOf];omega
    ·have hj1:(0:Int)<(j:Int):=by omega
     go_wp2_with fail
     refine (xkp_mul Hr.out Hs.out Er.out Es.out hlR hlS (by omega)).mono ?_
     rintro e w3 ⟨v3,rfl,h3,hb3⟩
     have H3:=Lib.hid h3
     have HS3:=Lib.hid (Hs.out.below ikN hb3)
     have HB3:=Lib.hid (Hb.out.trans (hb3.mono Hb.out.size))
     clear h3 hb3
     go_wp2_with fail
     refine (xkp_mul HS3.out HS3.out Es.out Es.out hlS hlS (by omega)).mono ?_
     rintro e w4 ⟨v4,rfl,h4,hb4⟩
     have H4:=Lib.hid h4
     have HR4:=Lib.hid (H3.out.below hb4)
     have HB4:=Lib.hid (HB3.out.trans (hb4.mono HB3.out.size))
     clear h4 hb4
     go_wp2
     go_roundw
     case rel=>exact ⟨j,a+b,b+b,by omega,by go_num,HR4.out,H4.out,by have h1:=Hab.out;rw [Hkj.out] at h1;rw [← h1,← Nat.two_mul,Nat.mul_comm 2 b,Nat.mul_assoc,Nat.mul_add,Nat.mul_one];omega,by have:=Hb4.out (by have:=Hkj.out;omega);omega,HB4.out⟩
     case measure=>have:=Hkj.out;simp [intOf];omega
theorem cauok_mid {p:List Int} {m:Nat} (h:Tiny m p) (hm:m≤2000000000) (h2:2≤plen p):CauOK p:=by
 have h1:hst (ptrim p) (plen p-1)≤2000000000:=Nat.le_trans (hst_tiny h.trim _) hm
 have h3:(plead (ptrim p)).natAbs≤2000000000:=Nat.le_trans (h.trim _) hm
 have h0:plead (ptrim p)≠0:=by rw [plead_ptrim];exact plead_ne (by omega)
 have hf:(flq (-(hst (ptrim p) (plen p-1):Nat)) ((plead (ptrim p)).natAbs:Nat)).natAbs≤2000000001:=by
  have:=Int.natAbs_tdiv (-((hst (ptrim p) (plen p-1):Nat):Int)) ((plead (ptrim p)).natAbs:Nat)
  rw [Int.natAbs_neg,Int.natAbs_natCast,Int.natAbs_natCast] at this
  have h3:=Nat.div_le_self (hst (ptrim p) (plen p-1)) (plead (ptrim p)).natAbs
  have h3:_≤_:=Nat.le_trans (Nat.le_of_eq this) h3
  unfold flq
  generalize (-((hst (ptrim p) (plen p-1):Nat):Int)).tdiv ((plead (ptrim p)).natAbs:Nat)=d at h3 ⊢
  split<;>omega
 have sm:∀ {x:Nat},x≤4000000002→Sm x:=fun {x} hx=>sm_bb (k:=1) (by rw [Nat.pow_one,BB_eq];omega) (by decide)
 exact ⟨.inr (dlen_low (by omega) (by rw [BB_eq];omega)),sm (by omega),sm (by omega),sm (by omega)⟩
theorem lag_ok {f:List Int} {M:Nat} (ht:Tiny M f) (hM:M≤2000000000) (hl:f.length≤8) (j:Nat) (hj:j≤16):ShOK (2^j) (ptrim f)∧SmP (hsh (2^j) (ptrim f)):=by
 have hC:((2:Int)^j).natAbs≤65536:=by
  rw [Int.natAbs_pow]
  exact Nat.le_trans (Nat.pow_le_pow_right (by decide) hj) (by decide)
 have hl':(ptrim f).length≤8:=by rw [ptrim_length];exact Nat.le_trans (plen_le f) hl
 have h64:∀ {x:Nat},x<BB^64→x<BB^FW:=fun h=>Nat.lt_trans h (bb_fw (by decide))
 refine ⟨shok_tiny (C:=65536) (M:=2000000000) (n:=8) hC (ptrim f) hl' (fun x hx=>Nat.le_trans (ht.trim.mem x hx) hM) (h64 (by rw [BB_eq];decide)) (h64 (by rw [BB_eq];decide)),fun x hx=>?_⟩
 have h1:=hsh_bound (C:=65536) (M:=2000000000) hC (by omega) (ptrim f) (fun x hx=>Nat.le_trans (ht.trim.mem x hx) hM) x hx
 have h2:2000000000*(65536+2)^(ptrim f).length≤2000000000*(65536+2)^8:=Nat.mul_le_mul_left _ (Nat.pow_le_pow_right (by omega) hl')
 exact Fit.sm (Nat.lt_of_le_of_lt (Nat.le_trans h1 h2) (h64 (by rw [BB_eq];decide)))
end Go.Proofs.Ytjmglmgokfcgoaa
namespace Go.Proofs.Ytjmglmgokfcgoaa
open Go Go.RowKit
theorem LG.pos {n k:Nat} (h:LG n k) (hk:k≠0):2^(k-1)<n:=h.least _ (by omega)
theorem cmpn_ge {a b:Nat} (h:b≤a):0≤cmpn a b:=by unfold cmpn;rw [if_neg (by omega)];split<;>decide
theorem mulbd {a b:List Int} {X Y A:Nat} (hA:plen a≤A) (hX:∀ j,(a.getD j 0).natAbs≤X) (hY:∀ j,(b.getD j 0).natAbs≤Y) (j:Nat):((polymul a b).getD j 0).natAbs≤A*(X*Y):=by
 rw [ev_inj2 (p:=polymul a b) (a:=b) (b:=a) (fun x=>by rw [ev_mul,Int.mul_comm]) j]
 exact Nat.le_trans (pc_bd_len hX hY j) (Nat.mul_le_mul_right _ hA)
theorem mullen (f g:List Int):(polymul f g).length≤f.length+g.length:=by
 unfold polymul
 split
 ·exact Nat.zero_le _
 ·rw [pmul_length];omega
theorem xk_abs (n j:Nat):((xk n).getD j 0).natAbs≤1:=by
 unfold xk
 rw [List.getD_eq_getElem?_getD]
 rcases Nat.lt_or_ge j n with c | c
 ·rw [List.getElem?_append_left (by simpa using c),List.getElem?_replicate,if_pos c];decide
 ·rw [List.getElem?_append_right (by simpa using c),List.length_replicate]
  match j-n with
  | 0=>decide
  | i+1=>simp
theorem x1_at (w:World):I64At (w.alloc (.cells #[.int .i64 0,.int .i64 1] 2)) (some ⟨w.heap.size,0,none⟩) 2 2 (xk 1):=by
 refine ⟨rfl,by omega,.inr ⟨w.heap.size,0,rfl,by simp,fun j hj=>?_⟩⟩
 match j,hj with
 | 0,_=>simp [xk]
 | 1,_=>simp [xk]
theorem below_of_drew {W W':World} {n:Nat} (h:W'=W.drewN n):Below W.heap.size W W':=by
 rw [h]
 have hb:=Below.refl W.heap.size W
 exact ⟨hb.os,hb.tape,hb.output,hb.size,hb.block⟩
theorem cmpz_self (a:Int):cmpz a a=0:=by unfold cmpz;rw [if_neg (Int.lt_irrefl _),if_pos rfl]
set_option maxRecDepth 100000 in
set_option maxHeartbeats 16000000 in
theorem law_scales (A:Option Addr) (la ca:Nat) (cs:List Int) (n:Int) (m:Nat) (w:World) (h:I16At w A la ca cs) (hlm:la≤9223372036854775807) (hn:-32768≤n∧n≤32767) (_hm:m≤255) :
 Calls Try.prog 4 #[.slice A la ca,.int .i16 n,.int .u8 (m:Int)] w fun e w'=>e=.returned (.bool true)∧Below w.heap.size w w':=by
 have Hi:=Lib.hid h
 clear h
 go_enter Try.func4,Try.ntmps4
 go_wp2_with fail
 refine (awake_any _).mono ?_
 rintro e w1 ⟨rfl,hb1⟩
 replace Hi:=Lib.hid (Hi.out.below hb1)
 have Hb:=Lib.hid hb1
 clear hb1
 by_cases n0:n=0
 ·have bn:(n == 0)=true:=by rw [beq_iff_eq];exact n0
  clear n0
  go_wp2_with fail
  refine (awake_any _).mono ?_
  rintro e w2 ⟨rfl,hb2⟩
  replace Hb:=Lib.hid (Hb.out.trans (hb2.mono Hb.out.size))
  clear hb2
  go_wp2
  go_ret
  exact ⟨rfl,Hb.out⟩
 have bn:(n == 0)=false:=by rw [beq_eq_false_iff_ne];exact n0
 have N0:=Lib.hid n0
 clear n0
 go_wp2_with fail
 refine (wide_any _ _ _ 8 40000 _ _ Hi.out (by omega) (by omega) (by omega) hlm).mono ?_
 rintro e w2 ⟨A2,c2,rfl,h2,hb2⟩
 have ht:Tiny 40000 (wl cs 8 40000):=wl_tiny cs 8 40000
 have hll:(wl cs 8 40000).length≤8:=by rw [wl_length];omega
 replace Hb:=Lib.hid (Hb.out.trans (hb2.mono Hb.out.size))
 clear Hi hb2
 generalize wl cs 8 40000=f0 at *
 obtain ⟨l2,hl2⟩:∃ l,l=f0.length:=⟨_,rfl⟩
 have Hll:=Lib.hid hll
 rw [← hl2] at h2 hll ⊢
 clear hl2
 have H2:=Lib.hid h2
 have hi64:=ht.i64 (by omega)
 clear h2
 go_wp2_with fail
 refine (poly_any _ _ _ _ _ H2.out hi64 (by omega)).mono ?_
 rintro e w3 ⟨A3,l3,c3,rfl,h3,hb3⟩
 have hlF:(ptrim f0).length≤8:=by rw [ptrim_length];have:=plen_le f0;have:=Hll.out;omega
 have tF:ptrim (ptrim f0)=ptrim f0:=ptrim_ptrim f0
 have TF:Tiny 40000 (ptrim f0):=ht.trim
 obtain ⟨F,hF⟩:∃ F,F=ptrim f0:=⟨_,rfl⟩
 rw [← hF] at h3 hlF tF TF
 have hl3:l3≤8:=by rw [← h3.length];exact hlF
 have HF:=Lib.hid h3
 replace Hb:=Lib.hid (Hb.out.trans (hb3.mono Hb.out.size))
 have hFl:=h3.length
 have HFl:=Lib.hid hFl
 clear h3 hb3 hF H2 ht hll hi64 hFl Hll
 -- facts on F and its multiple
 have bF:∀ j,(F.getD j 0).natAbs≤BB^1:=fun j=>by rw [Nat.pow_one,BB_eq];have:=TF j;omega
 have fF:FitP F:=fun j=>fit_bb (bF j) (by decide)
 have sF:=fF.smp
 obtain ⟨G,hG⟩:∃ G,G=psc n F:=⟨_,rfl⟩
 have tG:ptrim G=G:=by rw [hG,psc_trim N0.out,tF]
 have TG:Tiny 1310720000 G:=fun j=>by
  rw [hG,psc_get,Int.natAbs_mul]
  exact Nat.le_trans (Nat.mul_le_mul (show n.natAbs≤32768 by omega) (TF j)) (by decide)
 have bG:∀ j,(G.getD j 0).natAbs≤BB^1:=fun j=>by rw [Nat.pow_one,BB_eq];have:=TG j;omega
 have fG:FitP G:=fun j=>fit_bb (bG j) (by decide)
 have sG:=fG.smp
 have lFG:G.length=F.length:=by rw [hG,psc_length]
 have hlG:G.length≤8:=by omega
 have plF:plen F≤8:=Nat.le_trans (plen_le F) hlF
 have plG:plen G≤8:=Nat.le_trans (plen_le G) hlG
 have QF:=Lib.hid (show QOK F from ⟨by omega,fun j=>Nat.le_trans (pprim_abs F j) (Nat.le_trans (bF j) (bbk_le (by decide)))⟩)
 have QG:=Lib.hid (show QOK G from ⟨by omega,fun j=>Nat.le_trans (pprim_abs G j) (Nat.le_trans (bG j) (bbk_le (by decide)))⟩)
 have E1:=Lib.hid (show rcau G=rcau F by rw [hG];exact rcau_psc N0.out F)
 have E2:=Lib.hid (show rcau (prv G)=rcau (prv F) by rw [hG];exact low_psc N0.out F)
 have E3:=Lib.hid (show qpart G=qpart F by rw [hG];exact qpart_psc N0.out F)
 have E4:=Lib.hid (show (vst G G.length).1=(vst F F.length).1 by rw [(vst_rst G _).1,(vst_rst F _).1,lFG,hG,rst_psc N0.out])
 have E5:=Lib.hid (show ∀ c,VV (hsh c (ptrim G))=VV (hsh c (ptrim F)) from fun c=>by rw [hG];exact VV_hsh_psc N0.out c F)
 have E6:=Lib.hid (show plen G=plen F by rw [hG];exact psc_plen N0.out)
 have rb:=Lib.hid (show rcau F≤80001 from rcau_tiny TF)
 have rp:=Lib.hid (show rcau (prv F)≤80001 from rcau_tiny TF.prv)
 have OF:=Lib.hid (fun h=>cauok_mid TF (by decide) h)
 have OG:=Lib.hid (fun h=>cauok_mid TG (by decide) h)
 have OpF:=Lib.hid (fun h=>cauok_mid TF.prv (by decide) h)
 have OpG:=Lib.hid (fun h=>cauok_mid TG.prv (by decide) h)
 have HGe:=Lib.hid hG
 have i64n:I64 n:=by unfold I64;omega
 have wn:IntKind.i64.wrap n=n:=IntWalk.i64_in _ (by omega)
 clear hG
 go_wp2_with fail
 refine (iof_any n _ i64n).mono ?_
 rintro e w6 ⟨n6,A6,l6,c6,rfl,h6,hb6⟩
 have H6:=Lib.hid h6
 have sn:SmI n:=SmI.of64 i64n
 replace HF:=Lib.hid (HF.out.below ikN hb6);replace Hb:=Lib.hid (Hb.out.trans (hb6.mono Hb.out.size))
 clear hb6 h6
 go_wp2_with fail
 refine (scale_any ikN _ _ _ F _ _ _ _ n _ HF.out H6.out sF sn (fun _=>trivial) (by rw [← HGe.out];exact sG) (by omega)).mono ?_
 rintro e w7 ⟨A7,l7,c7,rfl,h7,hb7⟩
 rw [← HGe.out,tG] at h7
 have hl7:l7≤8:=by rw [← h7.length];exact hlG
 have hGl:=Lib.hid h7.length
 replace HF:=Lib.hid (HF.out.below ikN hb7);replace Hb:=Lib.hid (Hb.out.trans (hb7.mono Hb.out.size))
 have HG:=Lib.hid h7
 clear hb7 h7 H6 sn wn
 -- Cauchy
 go_wp2_with fail
 refine (cauchy_any ikN _ _ _ F _ HF.out sF (by omega) OF.out).mono ?_
 rintro e w8 ⟨n8,A8,l8,c8,rfl,h8,hb8⟩
 rw [cau_rcau] at h8
 replace HF:=Lib.hid (HF.out.below ikN hb8);replace HG:=Lib.hid (HG.out.below ikN hb8);replace Hb:=Lib.hid (Hb.out.trans (hb8.mono Hb.out.size))
 have H8:=Lib.hid h8
 clear hb8 h8
 go_wp2_with fail
 refine (cauchy_any ikN _ _ _ G _ HG.out sG (by omega) OG.out).mono ?_
 rintro e w9 ⟨n9,A9,l9,c9,rfl,h9,hb9⟩
 rw [cau_rcau,E1.out] at h9
 replace H8:=Lib.hid (H8.out.below hb9)
 replace HF:=Lib.hid (HF.out.below ikN hb9);replace HG:=Lib.hid (HG.out.below ikN hb9);replace Hb:=Lib.hid (Hb.out.trans (hb9.mono Hb.out.size))
 have H9:=Lib.hid h9
 have sR:SmI ((rcau F:Nat):Int):=SmI.of64 (by have:=rb.out;unfold I64;omega)
 clear hb9 h9
 go_wp2_with fail
 refine (icmp_any _ _ _ _ _ _ _ _ _ _ _ H8.out.at_ H9.out.at_ sR sR).mono ?_
 rintro e w10 ⟨rfl,hb10⟩
 rw [cmpz_self]
 replace HF:=Lib.hid (HF.out.below ikN hb10);replace HG:=Lib.hid (HG.out.below ikN hb10);replace Hb:=Lib.hid (Hb.out.trans (hb10.mono Hb.out.size))
 clear hb10 H8 H9
 -- Log
 go_wp2_with fail
 refine (plog_any ikN _ _ _ F _ HF.out sF (by omega) OF.out (by have:=rb.out;omega)).mono ?_
 rintro e w11 ⟨⟨k,rfl,hk⟩,hb11⟩
 have HK:=Lib.hid hk
 replace HF:=Lib.hid (HF.out.below ikN hb11);replace HG:=Lib.hid (HG.out.below ikN hb11);replace Hb:=Lib.hid (Hb.out.trans (hb11.mono Hb.out.size))
 clear hb11 hk
 go_wp2_with fail
 refine (plog_any ikN _ _ _ G _ HG.out sG (by omega) OG.out (by rw [E1.out];have:=rb.out;omega)).mono ?_
 rintro e w12 ⟨⟨k',rfl,hk'⟩,hb12⟩
 rw [E1.out] at hk'
 obtain rfl:k'=k:=hk'.uniq HK.out
 replace HF:=Lib.hid (HF.out.below ikN hb12);replace HG:=Lib.hid (HG.out.below ikN hb12);replace Hb:=Lib.hid (Hb.out.trans (hb12.mono Hb.out.size))
 clear hb12 hk'
 -- Laguerre
 obtain ⟨L,hL16,HLF,HLG⟩:∃ L:Nat,L≤16∧(∀ w' A c,PolyN w' A l3 c F→Calls Try.prog 24 #[.slice A l3 c] w' fun e w''=>e=.returned (.int .i64 (L:Int))∧Below w'.heap.size w' w'')∧(∀ w' A c,PolyN w' A l7 c G→Calls Try.prog 24 #[.slice A l7 c] w' fun e w''=>e=.returned (.int .i64 (L:Int))∧Below w'.heap.size w' w''):=by
  by_cases h2:plen F<2
  ·exact ⟨0,by omega,fun w' A c h=>plag_low _ _ _ F _ (h.at_ ikN) sF (by omega) h2,fun w' A c h=>plag_low _ _ _ G _ (h.at_ ikN) sG (by omega) (by rw [E6.out];exact h2)⟩
  ·obtain ⟨L,hL,hz,hmin⟩:=lagleast (P:=fun k=>VV (hsh (2^k) (ptrim F))=0) 16 (VV_big TF (by decide) (by omega))
   refine ⟨L,hL,fun w' A c h=>plag_any _ _ _ F L _ h sF (by omega) (by omega) (by omega) hz hmin (fun j hj=>(lag_ok TF (by decide) hlF j (by omega)).1) (fun j hj=>(lag_ok TF (by decide) hlF j (by omega)).2),fun w' A c h=>plag_any _ _ _ G L _ h sG (by omega) (by rw [E6.out];omega) (by omega) (by rw [E5.out];exact hz) (fun j hj=>by rw [E5.out];exact hmin j hj) (fun j hj=>(lag_ok TG (by decide) hlG j (by omega)).1) (fun j hj=>(lag_ok TG (by decide) hlG j (by omega)).2)⟩
 have HLF':=Lib.hid HLF
 have HLG':=Lib.hid HLG
 clear HLF HLG
 go_wp2_with fail
 refine (HLF'.out _ _ _ HF.out).mono ?_
 rintro e w13 ⟨rfl,hb13⟩
 replace HF:=Lib.hid (HF.out.below ikN hb13);replace HG:=Lib.hid (HG.out.below ikN hb13);replace Hb:=Lib.hid (Hb.out.trans (hb13.mono Hb.out.size))
 clear hb13
 go_wp2_with fail
 refine (HLG'.out _ _ _ HG.out).mono ?_
 rintro e w14 ⟨rfl,hb14⟩
 replace HF:=Lib.hid (HF.out.below ikN hb14);replace HG:=Lib.hid (HG.out.below ikN hb14);replace Hb:=Lib.hid (Hb.out.trans (hb14.mono Hb.out.size))
 clear hb14 HLF' HLG'
 -- Variations
 go_wp2_with fail
 refine (rvar_any _ _ _ F _ (HF.out.at_ ikN) sF (by omega)).mono ?_
 rintro e w15 ⟨rfl,hb15⟩
 replace HF:=Lib.hid (HF.out.below ikN hb15);replace HG:=Lib.hid (HG.out.below ikN hb15);replace Hb:=Lib.hid (Hb.out.trans (hb15.mono Hb.out.size))
 clear hb15
 go_wp2_with fail
 refine (rvar_any _ _ _ G _ (HG.out.at_ ikN) sG (by omega)).mono ?_
 rintro e w16 ⟨rfl,hb16⟩
 rw [show (vst G l7).1=(vst F l3).1 by rw [← hGl.out,E4.out,HFl.out]]
 obtain ⟨V,hV⟩:∃ V,V=(vst F l3).1:=⟨_,rfl⟩
 rw [← hV]
 replace HF:=Lib.hid (HF.out.below ikN hb16);replace HG:=Lib.hid (HG.out.below ikN hb16);replace Hb:=Lib.hid (Hb.out.trans (hb16.mono Hb.out.size))
 clear hb16 hV
 -- Lower
 go_wp2_with fail
 refine (lower_any ikN _ _ _ F _ HF.out sF (by omega) OpF.out (by have:=rp.out;omega)).mono ?_
 rintro e w17 ⟨⟨n17,A17,l17,c17,B17,m17,d17,rfl,hz17,hq17⟩,hb17⟩
 have HZ17:=Lib.hid hz17
 have HQ17:=Lib.hid hq17
 replace HF:=Lib.hid (HF.out.below ikN hb17);replace HG:=Lib.hid (HG.out.below ikN hb17);replace Hb:=Lib.hid (Hb.out.trans (hb17.mono Hb.out.size))
 clear hb17 hz17 hq17
 go_wp2_with fail
 refine (lower_any ikN _ _ _ G _ HG.out sG (by omega) OpG.out (by rw [E2.out];have:=rp.out;omega)).mono ?_
 rintro e w18 ⟨⟨n18,A18,l18,c18,B18,m18,d18,rfl,hz18,hq18⟩,hb18⟩
 have eL:lowz G=lowz F∧lowq G=lowq F:=by unfold lowz lowq;rw [E2.out];exact ⟨rfl,rfl⟩
 rw [eL.1] at hz18
 rw [eL.2] at hq18
 replace HZ17:=Lib.hid (HZ17.out.below hb18)
 replace HQ17:=Lib.hid (HQ17.out.below hb18)
 have HZ18:=Lib.hid hz18
 have HQ18:=Lib.hid hq18
 have zl:(lowz F).natAbs≤1∧lowq F≤80001∧0<lowq F:=by
  have:=rp.out
  unfold lowz lowq
  split<;>refine ⟨by decide,by omega,by omega⟩
 have fz:Fit (lowz F):=fit_bb (k:=1) (by rw [Nat.pow_one,BB_eq];omega) (by decide)
 have fq:Fit ((lowq F:Nat):Int):=fit_bb (k:=1) (by rw [Nat.pow_one,BB_eq];omega) (by decide)
 replace HF:=Lib.hid (HF.out.below ikN hb18);replace HG:=Lib.hid (HG.out.below ikN hb18);replace Hb:=Lib.hid (Hb.out.trans (hb18.mono Hb.out.size))
 clear hb18 hz18 hq18 eL
 go_wp2_with fail
 refine (rcmp_any _ _ _ _ _ _ _ _ _ _ _ _ _ _ _ _ _ _ _ HZ17.out.at_ HQ17.out.at_ HZ18.out.at_ HQ18.out.at_ (by omega) (by omega) fz fq fz fq).mono ?_
 rintro e w19 ⟨rfl,hb19⟩
 rw [cmpz_self]
 replace HF:=Lib.hid (HF.out.below ikN hb19);replace HG:=Lib.hid (HG.out.below ikN hb19);replace Hb:=Lib.hid (Hb.out.trans (hb19.mono Hb.out.size))
 clear hb19 HZ17 HQ17 HZ18 HQ18
 -- Separation
 go_wp2_with fail
 refine (sep_q ikN _ _ _ F _ HF.out sF (fun _=>QF.out) (by omega)).mono ?_
 rintro e w20 ⟨⟨s,rfl,hs,hsb⟩,hb20⟩
 have HS:=Lib.hid hs
 replace HF:=Lib.hid (HF.out.below ikN hb20);replace HG:=Lib.hid (HG.out.below ikN hb20);replace Hb:=Lib.hid (Hb.out.trans (hb20.mono Hb.out.size))
 clear hb20 hs
 go_wp2_with fail
 refine (sep_q ikN _ _ _ G _ HG.out sG (fun _=>QG.out) (by omega)).mono ?_
 rintro e w21 ⟨⟨s',rfl,hs',_⟩,hb21⟩
 rw [E3.out] at hs'
 obtain rfl:s'=s:=hs'.uniq HS.out
 replace HF:=Lib.hid (HF.out.below ikN hb21);replace HG:=Lib.hid (HG.out.below ikN hb21);replace Hb:=Lib.hid (Hb.out.trans (hb21.mono Hb.out.size))
 clear hb21 hs'
 -- the power of x
 obtain ⟨r,hr⟩:∃ r,r=m % 5:=⟨_,rfl⟩
 have r4:r≤4:=by omega
 have i1:Int.tmod (m:Int) 5=(r:Int):=by rw [hr];rfl
 have i2:IntKind.u8.wrap (r:Int)=(r:Int):=IntWalk.u8_in _ (by omega)
 have i3:IntKind.i64.wrap (r:Int)=(r:Int):=IntWalk.i64_in _ (by omega)
 have hnb:=below_new w21 (.cells #[.int .i64 0,.int .i64 1] 2)
 have H22:=Lib.hid (x1_at w21)
 replace HF:=Lib.hid (HF.out.below ikN hnb);replace HG:=Lib.hid (HG.out.below ikN hnb);replace Hb:=Lib.hid (Hb.out.trans (hnb.mono Hb.out.size))
 clear hr hnb
 go_wp2_with fail
 refine (pof_any _ _ _ _ _ H22.out (by intro c hc;simp [xk] at hc;rcases hc with rfl | rfl<;>(unfold I64;omega)) (by omega)).mono ?_
 rintro e w23 ⟨A23,l23,c23,rfl,h23,hb23⟩
 rw [xk_trim] at h23
 have H23:=Lib.hid h23
 replace HF:=Lib.hid (HF.out.below ikN hb23);replace HG:=Lib.hid (HG.out.below ikN hb23);replace Hb:=Lib.hid (Hb.out.trans (hb23.mono Hb.out.size))
 clear hb23 h23 H22
 go_wp2_with fail
 refine (pow_x _ _ _ r _ H23.out r4).mono ?_
 rintro e w24 ⟨v24,rfl,⟨A24,l24,c24,R,rfl,hl24,h24,eR⟩,hb24⟩
 have H24:=Lib.hid h24
 have ER:=Lib.hid eR
 replace HF:=Lib.hid (HF.out.below ikN hb24);replace HG:=Lib.hid (HG.out.below ikN hb24);replace Hb:=Lib.hid (Hb.out.trans (hb24.mono Hb.out.size))
 clear hb24 h24 eR H23
 go_wp2_with fail
 refine (polymul_any ikN ikN _ _ _ F _ _ _ R _ HF.out H24.out fF (trim_fit (by rw [ER.out];exact xk_fit r)) (by omega) (by omega)).mono ?_
 rintro e w25 ⟨A25,l25,c25,rfl,h25,hb25⟩
 rw [ER.out] at h25
 have bH:∀ j,((polymul (ptrim F) (xk r)).getD j 0).natAbs≤BB^1:=fun j=>by
  have h1:=mulbd (A:=8) (X:=40000) (Y:=1) (by rw [plen_ptrim];exact plF) (fun j=>by rw [ptrim_getD];exact TF j) (xk_abs r) j
  rw [Nat.pow_one,BB_eq];omega
 have lH:(polymul (ptrim F) (xk r)).length≤13:=by
  have h1:=mullen (ptrim F) (xk r)
  rw [xk_length,tF] at h1
  rw [tF];omega
 have EH:=Lib.hid (prv_xk F r)
 have THp:2≤plen (prv (polymul (ptrim F) (xk r)))→CauOK (prv (polymul (ptrim F) (xk r))):=by rw [EH.out];exact OpF.out
 obtain ⟨H,hH⟩:∃ H,H=polymul (ptrim F) (xk r):=⟨_,rfl⟩
 rw [← hH] at h25 bH lH THp EH
 have fH:FitP H:=fun j=>fit_bb (bH j) (by decide)
 have sH:=fH.smp
 have l25b:l25≤13:=by rw [← h25.length];exact lH
 have HH:=Lib.hid h25
 replace HF:=Lib.hid (HF.out.below ikN hb25);replace Hb:=Lib.hid (Hb.out.trans (hb25.mono Hb.out.size))
 clear hb25 h25 H24 ER hH bH lH fH HG
 go_wp2_with fail
 refine (lower_any ikN _ _ _ F _ HF.out sF (by omega) OpF.out (by have:=rp.out;omega)).mono ?_
 rintro e w26 ⟨⟨n26,A26,l26,c26,B26,m26,d26,rfl,hz26,hq26⟩,hb26⟩
 have HZ26:=Lib.hid hz26
 have HQ26:=Lib.hid hq26
 replace HH:=Lib.hid (HH.out.below ikN hb26)
 replace HF:=Lib.hid (HF.out.below ikN hb26);replace Hb:=Lib.hid (Hb.out.trans (hb26.mono Hb.out.size))
 clear hb26 hz26 hq26
 go_wp2_with fail
 refine (lower_any ikN _ _ _ H _ HH.out sH (by omega) THp (by rw [EH.out];have:=rp.out;omega)).mono ?_
 rintro e w27 ⟨⟨n27,A27,l27,c27,B27,m27,d27,rfl,hz27,hq27⟩,hb27⟩
 have eL:lowz H=lowz F∧lowq H=lowq F:=by unfold lowz lowq;rw [EH.out];exact ⟨rfl,rfl⟩
 rw [eL.1] at hz27
 rw [eL.2] at hq27
 replace HZ26:=Lib.hid (HZ26.out.below hb27)
 replace HQ26:=Lib.hid (HQ26.out.below hb27)
 have HZ27:=Lib.hid hz27
 have HQ27:=Lib.hid hq27
 replace HF:=Lib.hid (HF.out.below ikN hb27);replace Hb:=Lib.hid (Hb.out.trans (hb27.mono Hb.out.size))
 clear hb27 hz27 hq27 eL HH
 go_wp2_with fail
 refine (rcmp_any _ _ _ _ _ _ _ _ _ _ _ _ _ _ _ _ _ _ _ HZ26.out.at_ HQ26.out.at_ HZ27.out.at_ HQ27.out.at_ (by omega) (by omega) fz fq fz fq).mono ?_
 rintro e w28 ⟨rfl,hb28⟩
 rw [cmpz_self]
 replace HF:=Lib.hid (HF.out.below ikN hb28);replace Hb:=Lib.hid (Hb.out.trans (hb28.mono Hb.out.size))
 clear hb28 HZ26 HQ26 HZ27 HQ27 EH THp sH
 -- the square
 go_wp2_with fail
 refine (sep_q ikN _ _ _ F _ HF.out sF (fun _=>QF.out) (by omega)).mono ?_
 rintro e w29 ⟨⟨s29,rfl,hs29,_⟩,hb29⟩
 obtain rfl:s29=s':=hs29.uniq HS.out
 replace HF:=Lib.hid (HF.out.below ikN hb29);replace Hb:=Lib.hid (Hb.out.trans (hb29.mono Hb.out.size))
 clear hb29 hs29
 go_wp2_with fail
 refine (polymul_any ikN ikN _ _ _ F _ _ _ F _ HF.out HF.out fF fF (by omega) (by omega)).mono ?_
 rintro e w30 ⟨A30,l30,c30,rfl,h30,hb30⟩
 have bS:∀ j,((polymul (ptrim F) (ptrim F)).getD j 0).natAbs≤BB^2:=fun j=>by
  have h1:=mulbd (A:=8) (X:=40000) (Y:=40000) (by rw [plen_ptrim];exact plF) (fun j=>by rw [ptrim_getD];exact TF j) (fun j=>by rw [ptrim_getD];exact TF j) j
  refine Nat.le_trans h1 ?_
  rw [BB_eq];decide
 have lS:(polymul (ptrim F) (ptrim F)).length≤16:=by
  have h1:=mullen (ptrim F) (ptrim F)
  rw [tF] at h1 ⊢;omega
 have QS:QOK (polymul (ptrim F) (ptrim F)):=⟨Nat.le_trans (plen_le _) lS,fun j=>Nat.le_trans (pprim_abs _ j) (Nat.le_trans (bS j) (bbk_le (by decide)))⟩
 have ES:=Lib.hid (qpart_sq QF.out QS)
 obtain ⟨S,hS⟩:∃ S,S=polymul (ptrim F) (ptrim F):=⟨_,rfl⟩
 rw [← hS] at h30 bS lS QS ES
 have HQS:=Lib.hid QS
 have fS:FitP S:=fun j=>fit_bb (bS j) (by decide)
 have sS:=fS.smp
 have l30b:l30≤16:=by rw [← h30.length];exact lS
 have HSq:=Lib.hid h30
 replace HF:=Lib.hid (HF.out.below ikN hb30);replace Hb:=Lib.hid (Hb.out.trans (hb30.mono Hb.out.size))
 clear hb30 h30 hS bS lS QS fS
 go_wp2_with fail
 refine (sep_q ikN _ _ _ S _ HSq.out sS (fun _=>HQS.out) (by omega)).mono ?_
 rintro e w31 ⟨⟨s31,rfl,hs31,_⟩,hb31⟩
 rw [ES.out] at hs31
 obtain rfl:s31=s29:=hs31.uniq HS.out
 replace HF:=Lib.hid (HF.out.below ikN hb31);replace Hb:=Lib.hid (Hb.out.trans (hb31.mono Hb.out.size))
 clear hb31 hs31 HSq HQS ES sS HS
 -- the logarithm
 go_wp2_with fail
 refine (cauchy_any ikN _ _ _ F _ HF.out sF (by omega) OF.out).mono ?_
 rintro e w32 ⟨n32,A32,l32,c32,rfl,h32,hb32⟩
 rw [cau_rcau] at h32
 have hib:=below_new w32 (ibox n32 A32 l32 c32)
 have HB:=Lib.hid (IBox.make h32)
 replace HF:=Lib.hid (HF.out.below ikN hb32)
 replace HF:=Lib.hid (HF.out.below ikN hib)
 replace Hb:=Lib.hid ((Hb.out.trans (hb32.mono Hb.out.size)).trans (hib.mono (Hb.out.trans (hb32.mono Hb.out.size)).size))
 clear hb32 h32 hib
 have lbB:=HB.out.lt
 obtain ⟨gB,hgB⟩:∃ g,g=w32.heap.size:=⟨_,rfl⟩
 obtain ⟨w40,hw40⟩:∃ w40,w40=w32.alloc (ibox n32 A32 l32 c32):=⟨_,rfl⟩
 go_wp2_with fail
 rw [← hw40] at HB HF Hb lbB ⊢
 rw [← hgB] at HB lbB ⊢
 have cB:=HB.out.c1
 have G40:Hid (Below w40.heap.size w40 w40):=Lib.hid (Below.refl _ _)
 have hK1:=HK.out
 have hk18:k'≤40:=by
  refine Classical.byContradiction fun hc=>?_
  have h1:=hK1.least 40 (by omega)
  have h2:=rb.out
  omega
 have PB:=Lib.hid (show rcau F≤1*2^k' by rw [Nat.one_mul];exact hK1.le)
 have u1:U64 1:=by unfold U64;rw [BB_eq];decide
 have s1:Sm 1:=sm_bb (k:=1) (by rw [Nat.pow_one,BB_eq];decide) (by decide)
 have sP:∀ j,j≤40→Sm (1*2^j):=fun j hj=>sm_bb (k:=2) (by rw [Nat.one_mul];exact Nat.le_trans (Nat.pow_le_pow_right (by decide) hj) (by rw [BB_eq];decide)) (by decide)
 have sRn:Sm (rcau F):=sm_bb (k:=1) (by rw [Nat.pow_one,BB_eq];have:=rb.out;omega) (by decide)
 clear hgB hw40
 refine wp_region_held_drew (S:=fun w'=>w'.cell? ⟨gB,1,none⟩=some (.slice A32 l32 c32)) (by kernel_rfl) (by (try dsimp only);go_keep) (fun hHeld=>?_)
 (refine tk (i:=1) (v:=?_) rfl rfl (Or.inl ⟨by rfl,?_⟩) ?_;rotate_left;(focus (intro w hSw;(try dsimp only at hSw);go_simp;(try with_reducible rfl)));(simp only [put_lit,List.set]))
 (refine tk (i:=4) (v:=?_) rfl rfl (Or.inl ⟨by rfl,?_⟩) ?_;rotate_left;(focus (intro w hSw;(try dsimp only at hSw);go_simp;(try with_reducible rfl)));(simp only [put_lit,List.set]))
 (refine tk (i:=5) (v:=?_) rfl rfl (Or.inl ⟨by rfl,?_⟩) ?_;rotate_left;(focus (intro w hSw;(try dsimp only at hSw);go_simp;(try with_reducible rfl)));(simp only [put_lit,List.set]))
 (refine wpAnyH_ready (rs:=[0]) (by kernel_rfl) (by simp) ?_;refine AllReadyH.cons rfl (fun K hK=>?_) AllReadyH.nil;go_simp)
 refine (of_any 1 _ u1).mono ?_
 rintro e w41 ⟨A41,l41,c41,rfl,h41,hb41⟩
 have H41:=Lib.hid h41
 have G41:=Lib.hid (G40.out.trans ((show Below w40.heap.size w40 w41 from (Below.trans Bel.go (hb41.mono (by simp<;>omega)))).mono G40.out.size))
 clear h41
 obtain ⟨hcx,hfx⟩:=bcellS hb41;refine hK.out _ _ ?_ (fun _=>?_);(focus (((try dsimp only);repeat' apply And.intro)<;>(rw [hcx _ (by go_simp)];go_simp)));clear hHeld hK K hcx hfx;rename_i hHeld;clear hb41
 (refine wpAnyH_ready (rs:=[2]) (by kernel_rfl) (by simp) ?_;refine AllReadyH.cons rfl (fun K hK=>?_) AllReadyH.nil;go_simp)
 refine (plog_any ikN _ _ _ F _ ((HF.out.below ikN G41.out).below ikN Bel.go) sF (by omega) OF.out (by have:=rb.out;omega)).mono ?_
 rintro e w42 ⟨⟨k2,rfl,hk2⟩,hb42⟩
 obtain rfl:k2=k':=hk2.uniq HK.out
 have H412:=Lib.hid (H41.out.below (show Below w41.heap.size w41 w42 from (Below.trans Bel.go (hb42.mono (by simp<;>omega)))))
 have G42:=Lib.hid (G41.out.trans ((show Below w41.heap.size w41 w42 from (Below.trans Bel.go (hb42.mono (by simp<;>omega)))).mono G41.out.size))
 clear hk2
 obtain ⟨hcx,hfx⟩:=bcellS hb42;refine hK.out _ _ ?_ (fun _=>?_);(focus (((try dsimp only);repeat' apply And.intro)<;>(rw [hcx _ (by go_simp)];go_simp)));clear hHeld hK K hcx hfx;rename_i hHeld;clear hb42
 (refine wpAnyH_ready (rs:=[3]) (by kernel_rfl) (by simp) ?_;refine AllReadyH.cons rfl (fun K hK=>?_) AllReadyH.nil;go_simp)
 refine (shl_any _ _ _ 1 k2 _ (H412.out.below Bel.go).at_ s1 (by omega)).mono ?_
 rintro e w43 ⟨A43,l43,c43,rfl,h43,hb43⟩
 have H43:=Lib.hid h43
 have G43:=Lib.hid (G42.out.trans ((show Below w42.heap.size w42 w43 from (Below.trans Bel.go (hb43.mono (by simp<;>omega)))).mono G42.out.size))
 clear h43
 obtain ⟨hcx,hfx⟩:=bcellS hb43;refine hK.out _ _ ?_ (fun _=>?_);(focus (((try dsimp only);repeat' apply And.intro)<;>(rw [hcx _ (by go_simp)];go_simp)));clear hHeld hK K hcx hfx;rename_i hHeld;clear hb43
 (refine wpAnyH_ready (rs:=[6]) (by kernel_rfl) (by simp) ?_;refine AllReadyH.cons rfl (fun K hK=>?_) AllReadyH.nil;go_simp)
 refine (cmp_any _ _ _ _ _ _ (1*2^k2) (rcau F) _ (H43.out.below Bel.go).at_ ((show NatN _ A32 l32 c32 (rcau F) from by have:=(HB.out.move (G43.out)).hz.nat;rwa [Int.natAbs_natCast] at this).below Bel.go).at_ (sP _ (by omega)) sRn).mono ?_
 rintro e w44 ⟨rfl,n44,hw44⟩
 have hb44:=below_of_drew hw44
 have hge:=cmpn_ge PB.out
 generalize cmpn (1*2^k2) (rcau F)=v at hge ⊢
 have G44:=Lib.hid (G43.out.trans ((show Below w43.heap.size w43 w44 from (Below.trans Bel.go (hb44.mono (by simp<;>omega)))).mono G43.out.size))
 have d0:decide (0≤v)=true:=decide_eq_true hge
 clear hw44
 obtain ⟨hcx,hfx⟩:=bcellS hb44;refine hK.out _ _ ?_ (fun _=>?_);(focus (((try dsimp only);repeat' apply And.intro)<;>(rw [hcx _ (by go_simp)];go_simp)));clear hHeld hK K hcx hfx;rename_i hHeld;clear hb44
 (refine tk (i:=7) (v:=?_) rfl rfl (Or.inl ⟨by rfl,?_⟩) ?_;rotate_left;(focus (intro w hSw;(try dsimp only at hSw);go_simp;(try with_reducible rfl)));(simp only [put_lit,List.set]))
 (refine tk (i:=8) (v:=?_) rfl rfl (Or.inl ⟨by rfl,?_⟩) ?_;rotate_left;(focus (intro w hSw;(try dsimp only at hSw);go_simp;(try with_reducible rfl)));(simp only [put_lit,List.set]))
 (refine tk (i:=9) (v:=?_) rfl rfl (Or.inl ⟨by rfl,?_⟩) ?_;rotate_left;(focus (intro w hSw;(try dsimp only at hSw);go_simp;(try with_reducible rfl)));(simp only [put_lit,List.set]))
 (refine wpAnyH_ready (rs:=[10]) (by kernel_rfl) (by simp) ?_;refine AllReadyH.cons rfl (fun K hK=>?_) AllReadyH.nil;go_simp)
 refine (plog_any ikN _ _ _ F _ ((HF.out.below ikN G44.out).below ikN Bel.go) sF (by omega) OF.out (by have:=rb.out;omega)).mono ?_
 rintro e w45 ⟨⟨k3,rfl,hk3⟩,hb45⟩
 obtain rfl:k3=k2:=hk3.uniq HK.out
 have G45:=Lib.hid (G44.out.trans ((show Below w44.heap.size w44 w45 from (Below.trans Bel.go (hb45.mono (by simp<;>omega)))).mono G44.out.size))
 clear hk3
 obtain ⟨hcx,hfx⟩:=bcellS hb45;refine hK.out _ _ ?_ (fun _=>?_);(focus (((try dsimp only);repeat' apply And.intro)<;>(rw [hcx _ (by go_simp)];go_simp)));clear hHeld hK K hcx hfx;rename_i hHeld;clear hb45
 by_cases k0:k3=0
 ·subst k0
  (refine tk (i:=11) (v:=?_) rfl rfl (Or.inl ⟨by rfl,?_⟩) ?_;rotate_left;(focus (intro w hSw;(try dsimp only at hSw);go_simp;(try with_reducible rfl)));(simp only [put_lit,List.set]))
  (refine tk (i:=12) (v:=?_) rfl rfl (Or.inl ⟨by rfl,?_⟩) ?_;rotate_left;(focus (intro w hSw;(try dsimp only at hSw);go_simp;(try with_reducible rfl)));(simp only [put_lit,List.set]))
  (refine take_at (i:=13) (oi:=_) (v:=undef) rfl rfl (by kernel_rfl) (by kernel_rfl) (by kernel_rfl) (fun _ _ _ h=>h) (Or.inr ⟨by rfl,rfl⟩) (by assumption) ?_;(simp only [put_lit,List.set]))
  (refine take_at (i:=14) (oi:=_) (v:=undef) rfl rfl (by kernel_rfl) (by kernel_rfl) (by kernel_rfl) (fun _ _ _ h=>h) (Or.inr ⟨by rfl,rfl⟩) (by assumption) ?_;(simp only [put_lit,List.set]))
  (refine take_at (i:=15) (oi:=_) (v:=undef) rfl rfl (by kernel_rfl) (by kernel_rfl) (by kernel_rfl) (fun _ _ _ h=>h) (Or.inr ⟨by rfl,rfl⟩) (by assumption) ?_;(simp only [put_lit,List.set]))
  (refine take_at (i:=16) (oi:=_) (v:=undef) rfl rfl (by kernel_rfl) (by kernel_rfl) (by kernel_rfl) (fun _ _ _ h=>h) (Or.inr ⟨by rfl,rfl⟩) (by assumption) ?_;(simp only [put_lit,List.set]))
  (refine take_at (i:=17) (oi:=_) (v:=undef) rfl rfl (by kernel_rfl) (by kernel_rfl) (by kernel_rfl) (fun _ _ _ h=>h) (Or.inr ⟨by rfl,rfl⟩) (by assumption) ?_;(simp only [put_lit,List.set]))
  (refine take_at (i:=18) (oi:=_) (v:=undef) rfl rfl (by kernel_rfl) (by kernel_rfl) (by kernel_rfl) (fun _ _ _ h=>h) (Or.inr ⟨by rfl,rfl⟩) (by assumption) ?_;(simp only [put_lit,List.set]))
  (refine take_at (i:=19) (oi:=_) (v:=undef) rfl rfl (by kernel_rfl) (by kernel_rfl) (by kernel_rfl) (fun _ _ _ h=>h) (Or.inr ⟨by rfl,rfl⟩) (by assumption) ?_;(simp only [put_lit,List.set]))
  (refine take_at (i:=20) (oi:=_) (v:=undef) rfl rfl (by kernel_rfl) (by kernel_rfl) (by kernel_rfl) (fun _ _ _ h=>h) (Or.inr ⟨by rfl,rfl⟩) (by assumption) ?_;(simp only [put_lit,List.set]))
  (refine take_at (i:=21) (oi:=_) (v:=undef) rfl rfl (by kernel_rfl) (by kernel_rfl) (by kernel_rfl) (fun _ _ _ h=>h) (Or.inr ⟨by rfl,rfl⟩) (by assumption) ?_;(simp only [put_lit,List.set]))
  (refine tk (i:=22) (v:=?_) rfl rfl (Or.inl ⟨by rfl,?_⟩) ?_;rotate_left;(focus (intro w hSw;(try dsimp only at hSw);go_simp;(try with_reducible rfl)));(simp only [put_lit,List.set]))
  (refine tk (i:=23) (v:=?_) rfl rfl (Or.inl ⟨by rfl,?_⟩) ?_;rotate_left;(focus (intro w hSw;(try dsimp only at hSw);go_simp;(try with_reducible rfl)));(simp only [put_lit,List.set]))
  (refine tk (i:=24) (v:=?_) rfl rfl (Or.inl ⟨by rfl,?_⟩) ?_;rotate_left;(focus (intro w hSw;(try dsimp only at hSw);go_simp;(try with_reducible rfl)));(simp only [put_lit,List.set]))
  refine wpAnyH_done (by kernel_rfl) ?_ _
  clear hHeld
  go_wp2
  go_ret
  exact ⟨by simp,by first | exact Hb.out.trans (G45.out.mono Hb.out.size) | exact (below_of_drew rfl).trans' (Hb.out.trans (G45.out.mono Hb.out.size))⟩
 ·have b0:((k3:Int) == 0)=false:=by rw [beq_eq_false_iff_ne];omega
  have PP:=Lib.hid (show 1*2^(k3-1)<rcau F by rw [Nat.one_mul];exact HK.out.pos k0)
  obtain ⟨j,hj⟩:∃ j,j=k3-1:=⟨_,rfl⟩
  have j1:IntKind.i64.wrap ((k3:Int)-1)=(j:Int):=by rw [IntWalk.i64_in _ (by omega)];omega
  have j2:j≤40:=by omega
  rw [← hj] at PP
  clear hj k0
  (refine tk (i:=11) (v:=?_) rfl rfl (Or.inl ⟨by rfl,?_⟩) ?_;rotate_left;(focus (intro w hSw;(try dsimp only at hSw);go_simp;(try with_reducible rfl)));(simp only [put_lit,List.set]))
  (refine tk (i:=12) (v:=?_) rfl rfl (Or.inl ⟨by rfl,?_⟩) ?_;rotate_left;(focus (intro w hSw;(try dsimp only at hSw);go_simp;(try with_reducible rfl)));(simp only [put_lit,List.set]))
  (refine tk (i:=14) (v:=?_) rfl rfl (Or.inl ⟨by rfl,?_⟩) ?_;rotate_left;(focus (intro w hSw;(try dsimp only at hSw);go_simp;(try with_reducible rfl)));(simp only [put_lit,List.set]))
  (refine tk (i:=18) (v:=?_) rfl rfl (Or.inl ⟨by rfl,?_⟩) ?_;rotate_left;(focus (intro w hSw;(try dsimp only at hSw);go_simp;(try with_reducible rfl)));(simp only [put_lit,List.set]))
  (refine tk (i:=19) (v:=?_) rfl rfl (Or.inl ⟨by rfl,?_⟩) ?_;rotate_left;(focus (intro w hSw;(try dsimp only at hSw);go_simp;(try with_reducible rfl)));(simp only [put_lit,List.set]))
  (refine wpAnyH_ready (rs:=[13]) (by kernel_rfl) (by simp) ?_;refine AllReadyH.cons rfl (fun K hK=>?_) AllReadyH.nil;go_simp)
  refine (of_any 1 _ u1).mono ?_
  rintro e w46 ⟨A46,l46,c46,rfl,h46,hb46⟩
  have H46:=Lib.hid h46
  have G46:=Lib.hid (G45.out.trans ((show Below w45.heap.size w45 w46 from (Below.trans Bel.go (hb46.mono (by simp<;>omega)))).mono G45.out.size))
  clear h46
  obtain ⟨hcx,hfx⟩:=bcellS hb46;refine hK.out _ _ ?_ (fun _=>?_);(focus (((try dsimp only);repeat' apply And.intro)<;>(rw [hcx _ (by go_simp)];go_simp)));clear hHeld hK K hcx hfx;rename_i hHeld;clear hb46
  (refine wpAnyH_ready (rs:=[15]) (by kernel_rfl) (by simp) ?_;refine AllReadyH.cons rfl (fun K hK=>?_) AllReadyH.nil;go_simp)
  refine (plog_any ikN _ _ _ F _ ((HF.out.below ikN G46.out).below ikN Bel.go) sF (by omega) OF.out (by have:=rb.out;omega)).mono ?_
  rintro e w47 ⟨⟨k4,rfl,hk4⟩,hb47⟩
  obtain rfl:k4=k3:=hk4.uniq HK.out
  have H467:=Lib.hid (H46.out.below (show Below w46.heap.size w46 w47 from (Below.trans Bel.go (hb47.mono (by simp<;>omega)))))
  have G47:=Lib.hid (G46.out.trans ((show Below w46.heap.size w46 w47 from (Below.trans Bel.go (hb47.mono (by simp<;>omega)))).mono G46.out.size))
  clear hk4
  obtain ⟨hcx,hfx⟩:=bcellS hb47;refine hK.out _ _ ?_ (fun _=>?_);(focus (((try dsimp only);repeat' apply And.intro)<;>(rw [hcx _ (by go_simp)];go_simp)));clear hHeld hK K hcx hfx;rename_i hHeld;clear hb47
  (refine tk (i:=16) (v:=?_) rfl rfl (Or.inl ⟨by rfl,?_⟩) ?_;rotate_left;(focus (intro w hSw;(try dsimp only at hSw);go_simp;(try with_reducible rfl)));(simp only [put_lit,List.set]))
  (refine wpAnyH_ready (rs:=[17]) (by kernel_rfl) (by simp) ?_;refine AllReadyH.cons rfl (fun K hK=>?_) AllReadyH.nil;go_simp)
  refine (shl_any _ _ _ 1 j _ (H467.out.below Bel.go).at_ s1 (by omega)).mono ?_
  rintro e w48 ⟨A48,l48,c48,rfl,h48,hb48⟩
  have H48:=Lib.hid h48
  have G48:=Lib.hid (G47.out.trans ((show Below w47.heap.size w47 w48 from (Below.trans Bel.go (hb48.mono (by simp<;>omega)))).mono G47.out.size))
  clear h48
  obtain ⟨hcx,hfx⟩:=bcellS hb48;refine hK.out _ _ ?_ (fun _=>?_);(focus (((try dsimp only);repeat' apply And.intro)<;>(rw [hcx _ (by go_simp)];go_simp)));clear hHeld hK K hcx hfx;rename_i hHeld;clear hb48
  (refine wpAnyH_ready (rs:=[20]) (by kernel_rfl) (by simp) ?_;refine AllReadyH.cons rfl (fun K hK=>?_) AllReadyH.nil;go_simp)
  refine (cmp_any _ _ _ _ _ _ (1*2^j) (rcau F) _ (H48.out.below Bel.go).at_ ((show NatN _ A32 l32 c32 (rcau F) from by have:=(HB.out.move (G48.out)).hz.nat;rwa [Int.natAbs_natCast] at this).below Bel.go).at_ (sP _ j2) sRn).mono ?_
  rintro e w49 ⟨rfl,n49,hw49⟩
  have hb49:=below_of_drew hw49
  rw [cmpn_lt PP.out]
  have G49:=Lib.hid (G48.out.trans ((show Below w48.heap.size w48 w49 from (Below.trans Bel.go (hb49.mono (by simp<;>omega)))).mono G48.out.size))
  clear hw49
  obtain ⟨hcx,hfx⟩:=bcellS hb49;refine hK.out _ _ ?_ (fun _=>?_);(focus (((try dsimp only);repeat' apply And.intro)<;>(rw [hcx _ (by go_simp)];go_simp)));clear hHeld hK K hcx hfx;rename_i hHeld;clear hb49
  (refine tk (i:=21) (v:=?_) rfl rfl (Or.inl ⟨by rfl,?_⟩) ?_;rotate_left;(focus (intro w hSw;(try dsimp only at hSw);go_simp;(try with_reducible rfl)));(simp only [put_lit,List.set]))
  (refine tk (i:=22) (v:=?_) rfl rfl (Or.inl ⟨by rfl,?_⟩) ?_;rotate_left;(focus (intro w hSw;(try dsimp only at hSw);go_simp;(try with_reducible rfl)));(simp only [put_lit,List.set]))
  (refine tk (i:=23) (v:=?_) rfl rfl (Or.inl ⟨by rfl,?_⟩) ?_;rotate_left;(focus (intro w hSw;(try dsimp only at hSw);go_simp;(try with_reducible rfl)));(simp only [put_lit,List.set]))
  (refine tk (i:=24) (v:=?_) rfl rfl (Or.inl ⟨by rfl,?_⟩) ?_;rotate_left;(focus (intro w hSw;(try dsimp only at hSw);go_simp;(try with_reducible rfl)));(simp only [put_lit,List.set]))
  refine wpAnyH_done (by kernel_rfl) ?_ _
  clear hHeld
  go_wp2
  go_ret
  exact ⟨by simp,by first | exact Hb.out.trans (G49.out.mono Hb.out.size) | exact (below_of_drew rfl).trans' (Hb.out.trans (G49.out.mono Hb.out.size))⟩
end Go.Proofs.Ytjmglmgokfcgoaa
namespace Go.Proofs.Ytjmglmgokfcgoaa
open Go.ChangeShapes Go.WideShapes Go.ChangeAt Go.RowKit
set_option maxRecDepth 100000 in
theorem scales_lifted (os:Os) (started:os.Started) (H:Type) (enc:TypeId×Value→H) :
 ReturnsInHanded {} Try.checked os 4 .any (Rows.rootboundScalesSpec.pre6 enc Try.prog Try.f4 Rows.rootboundScalesRow.domain false) (Rows.rootboundScalesSpec.post enc Try.prog Try.f4 false true false false):=by
 refine returnsInHanded_of_change (C:=Try.checked) Try.own started (by kernel_rfl) Try.func4
  (ChangeSpec.witness6 (enc:=enc) (C:=Try.checked) false ⟨#[],#[.slice none 0 0,.int .i16 0,.int .u8 0],[]⟩ 8 (by kernel_rfl) (by kernel_rfl) (by kernel_rfl) (by kernel_rfl)) ?_
 intro W base args ds gs before hval0 hW hcnd _
 exact lifted_s16nu _ Try.f4 Try.params4 rfl enc _ rfl (fun _ _ _=>rfl) (fun A la ca p n m w h1 hl hn hm=>by obtain ⟨k,rfl⟩:=Int.eq_ofNat_of_zero_le hm.1;exact law_scales A la ca p n k w h1 hl hn (by omega)) W args ds gs before hval0 hW
theorem rootboundScales_holds:Rows.RootboundScalesSaid :=
 OpenClaim.holds_of_wide 4 Try.f4 rfl rfl rfl rfl rfl rfl rfl ⟨rfl,rfl,rfl,rfl,rfl⟩ rfl rfl rfl rfl rfl (by kernel_rfl) Try.func4 (by kernel_rfl)
  (of_decide_eq_true (by kernel_rfl)) (by unfold Func.isWrapper;first | (rw [if_pos (by decide +kernel)];kernel_rfl) | (rw [if_neg (by decide +kernel)];exact ⟨rfl,rfl⟩))
  (fun os started H enc _=>scales_lifted os started H enc)
#print axioms rootboundScales_holds
end Go.Proofs.Ytjmglmgokfcgoaa
