/- The walks of cylinderlaw15.changes and of sturm.Variations. -/
import Derived.Test.YtpeiiomjnjemjaaGreatSte
namespace Go.Proofs.YtpeiiomjnjemjaaGreat
open Go.RowKit
set_option maxRecDepth 100000 in
set_option maxHeartbeats 1000000 in
theorem short_any (A:Option Addr) (len cap n:Nat) (p:List Int) (w:World) (h:I16At w A len cap p) (hn:n<=1000) (hlm:len<=9223372036854775807) :
  Calls Tryz.prog 5 #[.slice A len cap,.int .i64 (n:Int)] w fun e w'=>∃ A' l' c',e=.returned (.slice A' l' c')/\PolyN w' A' l' c' (ptrim (p.take n))/\Below w.heap.size w w':=by
 obtain ⟨i0,hi,hz0,hz1,hz2⟩:=info_parts info_i64
 have hlen:=Lh h.length
 have hrange:=Lh h.range
 obtain ⟨q,hq⟩:∃ q,q=p.take n:=⟨_,rfl⟩
 have hql:Hid (q.length=min n len):=Lh (by rw[hq,List.length_take,hlen.out])
 have hqg:Hid (∀ k,k<n->q[k]?.getD 0=p.getD k 0):=Lh (fun k hk=>by rw[hq,List.getElem?_take_of_lt hk,List.getD_eq_getElem?_getD])
 have hq64:Hid (∀ c∈q,I64 c):=Lh (fun c hc=>by
  have:=hrange.out c (List.mem_of_mem_take (by rw[<- hq];exact hc))
  unfold I64;omega)
 rw[<- hq]
 clear hq
 go_enter Tryz.func5,Tryz.ntmps5
 go_wp2
 go_loopw [5,6] (fun v i wr=>∃ k:Nat,k<=len/\k<=n/\i=.int .i64 (k:Int)/\OwnI 2 wr w.heap.size v k q/\Below w.heap.size w wr) (fun _ i _=>len-(intOf i).toNat)
 case atStart=>exact ⟨0,Nat.zero_le _,Nat.zero_le _,rfl,World.ownsRow_nil _ _ _ _,Below.refl _ _⟩
 case round =>
  obtain ⟨k,hk,hkn,rfl,hown,hbw⟩:=hrel
  have Hown:=Lh hown
  have Hbw:=Lh hbw
  clear hown
  by_cases hlt:k<len/\k<n
  ·obtain ⟨hlt,hln⟩:=hlt
   obtain ⟨b,off,rfl,hb,hc⟩:=h.at_ (by omega)
   have hcell:=(hbw.cell (p:=⟨b,off+k,none⟩) hb).trans (hc k hlt)
   have hr:-32768<=p.getD k 0/\p.getD k 0<=32767:=by
    have:=hlen.out
    rw[List.getD_eq_getElem?_getD,List.getElem?_eq_getElem (by omega)]
    exact hrange.out _ (List.getElem_mem _)
   obtain ⟨hr1,hr2⟩:=hr
   have hg:=hqg.out k hln
   obtain ⟨c,hcv⟩:∃ c,c=p.getD k 0:=⟨_,rfl⟩
   rw[<- hcv] at hcell hr1 hr2 hg
   have hwc:IntKind.i64.wrap c=c:=by rw[IntKind.wrap_i64];omega
   have Hg:=Lh hg
   clear hc h hbw hg hcv
   go_wp2_with (at_builtin;refine wpList_append_one rfl (.tmp 18) (.tmp 24) 50 rfl w.heap.size 2 i0 (.int .i64 0) 8 Tryz.underlying50 hi hz0 hz1 hz2 rfl _ (.int .i64 c) k _ rfl rfl Hown.out rfl (by omega) (by omega) Hbw.out.size ?_)
   intro v' w1 hown' hgrow
   have R:=Lh (OwnI.step (v':=v') (by rw[hql.out];omega) Hbw.out.size Hown.out Hbw.out (by rw[Hg.out];exact hown') hgrow)
   clear hown' hgrow hcell
   go_wp2
   go_roundw
   case rel=>exact ⟨k+1,by omega,by omega,by go_num,R.out.1,R.out.2⟩
   case measure=>simp[intOf];omega
  ·have hk2:k=q.length:=by rw[hql.out];omega
   have ho:=Hown.out
   rw[hk2] at ho
   obtain ⟨A',cap',rfl,hat⟩:=ho.at_
   have hll:q.length<=1000:=by rw[hql.out];omega
   obtain ⟨L,hL⟩:∃ L,L=q.length:=⟨_,rfl⟩
   rw[<- hL] at hat hk2 hll ⊢
   subst hk2
   have Hno:=Lh hlt
   clear ho h hbw hi hz0 hz1 hz2 hL
   have HL:Hid (¬ (k<len/\k<n)):=Hno
   have h64:=hq64.out
   by_cases hkl:k<len
   ·have hkn2:k=n:=by omega
    subst hkn2
    go_wp2_with fail
    refine (pof_any _ _ _ _ _ hat h64 (by omega)).mono ?_
    rintro e w2 ⟨A2,l2,c2,rfl,h2,hb2⟩
    have H2:=Lh h2
    have Hb2:=Lh (Hbw.out.trans (hb2.mono Hbw.out.size))
    clear h2 hb2 hat
    go_wp2
    go_ret
    exact ⟨_,_,_,rfl,H2.out,Hb2.out⟩
   ·have hkn2:k=len:=by omega
    subst hkn2
    go_wp2_with fail
    refine (pof_any _ _ _ _ _ hat h64 (by omega)).mono ?_
    rintro e w2 ⟨A2,l2,c2,rfl,h2,hb2⟩
    have H2:=Lh h2
    have Hb2:=Lh (Hbw.out.trans (hb2.mono Hbw.out.size))
    clear h2 hb2 hat
    go_wp2
    go_ret
    exact ⟨_,_,_,rfl,H2.out,Hb2.out⟩
end Go.Proofs.YtpeiiomjnjemjaaGreat
namespace Go.Proofs.YtpeiiomjnjemjaaGreat
end Go.Proofs.YtpeiiomjnjemjaaGreat
namespace Go.Proofs.YtpeiiomjnjemjaaGreat
open Go.RowKit
def sat (z:Int) (q:Nat) (f:List Int):Int:=sg (sval f (z.tdiv (Nat.gcd z.natAbs q)) ((q / Nat.gcd z.natAbs q:Nat):Int))
theorem sat_unit (z:Int) (q:Nat) (f:List Int):sat z q f=-1∨sat z q f=0∨sat z q f=1:=by
 unfold sat
 rcases sg_cases (sval f (z.tdiv (Nat.gcd z.natAbs q)) ((q / Nat.gcd z.natAbs q:Nat):Int)) with ⟨_,e⟩ | ⟨_,e⟩ | ⟨_,e⟩<;>omega
structure AtOK (z:Int) (q:Nat):Prop where
 u:Fit z
 v:Fit (q:Int)
 pos:0<q
 fz:Fit (z.tdiv (Nat.gcd z.natAbs q))
 fq:Fit ((q / Nat.gcd z.natAbs q:Nat):Int)
structure PoOK (z:Int) (q:Nat) (p:List Int):Prop where
 fit:FitP p
 len:p.length<=1000000
 ok:ScOK p (z.tdiv (Nat.gcd z.natAbs q)) ((q / Nat.gcd z.natAbs q:Nat):Int)
theorem var1_any (A:Option Addr) (len cap:Nat) (p:List Int) (gm:Nat) (n:Bool) (N:Option Addr) (nl nc:Nat) (B:Option Addr) (m d q:Nat) (z:Int) (w:World) (h:PolyAt w A len cap p) (hR:RBox w gm n N nl nc B m d z q) (ha:AtOK z q) (hp:PoOK z q p) :
  Calls Tryz.prog 75 #[.slice A len cap,.pointer (some ⟨gm,0,none⟩)] w fun e w'=>e=.returned (.int .i64 (sat z q p))/\Below w.heap.size w w':=by
 have r0:=hR.c0
 have r1:=hR.c1
 have r2:=hR.c2
 have HR:=Lh hR
 clear hR
 go_enter Tryz.func75,Tryz.ntmps75
 go_wp2_with fail
 refine (signat_any ikAt _ _ _ _ _ _ _ _ _ _ _ _ _ _ h hp.fit (by rw[<- h.length];exact hp.len) HR.out.hz HR.out.hq ha.u ha.v ha.pos hp.ok ha.fz ha.fq).mono ?_
 rintro e w1 ⟨rfl,hb⟩
 have Hb:=Lh hb
 clear h hb HR r0 r1 r2
 go_wp2
 go_ret
 exact ⟨rfl,Hb.out⟩
set_option maxHeartbeats 400000 in
theorem vars_any (A:Option Addr) (len cap:Nat) (ps:List (List Int)) (n:Bool) (N:Option Addr) (nl nc:Nat) (B:Option Addr) (m d q:Nat) (z:Int) (w:World) (h:PLst w A len cap ps) (hz:IntN w n N nl nc z) (hq:NatN w B m d q) (ha:AtOK z q) (hs:∀ p∈ps,PoOK z q p) (hl:len<=1000000) :
  Calls Tryz.prog 44 #[.slice A len cap,.agg #[.bool n,.slice N nl nc,.slice B m d]] w fun e w'=>e=.returned (.int .i64 ((vst (ps.map (sat z q)) len).1:Nat))/\Below w.heap.size w w':=by
 have hba:Below w.heap.size w (w.alloc (rbox n N nl nc B m d)):=(Below.refl _ _).alloc (Nat.le_refl _) _
 have h1:=h.below hba
 have hlen:=h.length
 have HR:=Lh (RBox.make hz hq)
 have Hba:=Lh hba
 have hcall:∀ k,k<len->∀ Aj lj cj w',PolyAt w' Aj lj cj (ps.getD k [])->Below (w.alloc (rbox n N nl nc B m d)).heap.size (w.alloc (rbox n N nl nc B m d)) w'->Calls Tryz.prog 75 #[.slice Aj lj cj,.pointer (some ⟨w.heap.size,0,none⟩)] w' fun e w''=>e=.returned (.int .i64 ((ps.map (sat z q)).getD k 0))/\Below w'.heap.size w' w'':=by
  intro k hk Aj lj cj w' hp hb
  have hmem:ps.getD k []∈ps:=by rw[List.getD_eq_getElem?_getD,List.getElem?_eq_getElem (by omega)];exact List.getElem_mem _
  rw[mapF_get _ _ (by omega)]
  exact var1_any _ _ _ _ _ _ _ _ _ _ _ _ _ _ _ hp (HR.out.move hb) ha (hs _ hmem)
 clear h hba
 go_enter Tryz.func44,Tryz.ntmps44
 go_wp2_with fail
 refine (changesV_any _ (ps.map (sat z q)) _ _ _ ps _ h1 (sgnMap _ (sat_unit z q) ps) hl hcall).mono ?_
 rintro e w1 ⟨rfl,hb⟩
 have Hb:=Lh (Hba.out.trans (hb.mono Hba.out.size))
 clear h1 hb hcall
 go_wp2
 go_ret
 exact ⟨rfl,Hb.out⟩
noncomputable def ZK:Nat:=Classical.choose (⟨1400,rfl⟩:∃ n:Nat,n=1400)
theorem ZK_eq:ZK=1400:=Classical.choose_spec (⟨1400,rfl⟩:∃ n:Nat,n=1400)
noncomputable def ZB:Nat:=BB^ZK
theorem zb_128:128<=ZB:=by
 have h1:BB^1<=BB^ZK:=Nat.pow_le_pow_right BB_pos (by rw[ZK_eq];decide)
 rw[Nat.pow_one] at h1
 have h2:128<=BB:=by rw[BB_eq];decide
 exact Nat.le_trans h2 h1
theorem zb_fit {z:Int} (h:z.natAbs<=ZB):Fit z:=Nat.lt_of_le_of_lt h (Nat.pow_lt_pow_right (by rw[BB_eq];decide) (by rw[ZK_eq,FW_eq];decide))
end Go.Proofs.YtpeiiomjnjemjaaGreat
