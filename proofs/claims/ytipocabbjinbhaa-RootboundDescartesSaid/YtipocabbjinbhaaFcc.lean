/- The reference cylinderref11: With. -/
import Derived.Test.YtipocabbjinbhaaFcb
namespace Go.Proofs.Ytipocabbjinbhaa
open Go Go.RowKit
def FcE (w:World) (f:List Int×Nat) (vs:List Value):Prop:=∃ A l c,vs=[.slice A l c,.int .i64 (f.2:Int)]∧I64At w A l c f.1
theorem FcE.below {w w':World} {f:List Int×Nat} {vs:List Value} (h:FcE w f vs) (hb:Below w.heap.size w w'):FcE w' f vs:=by
 obtain ⟨A,l,c,e,h⟩:=h
 exact ⟨A,l,c,e,h.below hb⟩
abbrev FsAt (w:World) (A:Option Addr) (l c:Nat) (fs:List (List Int×Nat)):Prop:=SlE 2 FcE w A l c fs
theorem fs_below {w w':World} {A:Option Addr} {l c:Nat} {fs:List (List Int×Nat)} (h:FsAt w A l c fs) (hb:Below w.heap.size w w'):FsAt w' A l c fs:=h.below hb fun _ _ hx=>hx.below hb
theorem fce_len {w:World} {f:List Int×Nat} {vs:List Value} (h:FcE w f vs):vs.length=2:=by
 obtain ⟨A,l,c,e,h⟩:=h
 rw [e];rfl
theorem nd_i64 (n:Int):Nd (.int .i64 n):=⟨(by intro n h;cases h),rfl⟩
theorem nd_slc (A:Option Addr) (l c:Nat):Nd (.slice A l c):=⟨(by intro n h;cases h),rfl⟩
theorem fce_nd {w:World} {f:List Int×Nat} {vs:List Value} (h:FcE w f vs):∀ u∈vs,Nd u:=by
 obtain ⟨A,l,c,e,h⟩:=h
 intro u hu
 rw [e] at hu
 simp at hu
 rcases hu with rfl | rfl
 ·exact nd_slc _ _ _
 ·exact nd_i64 _
def RowF (w0 w:World) (g:Nat) (fs:List (List Int×Nat)):Prop:=∀ i,i<fs.length→∃ A l c,w.cell? ⟨g,i*2,none⟩=some (.slice A l c)∧w.cell? ⟨g,i*2+1,none⟩=some (.int .i64 ((fs.getD i ([],0)).2:Int))∧I64At w0 A l c (fs.getD i ([],0)).1
theorem getD_fs {fs:List (List Int×Nat)} {i:Nat} (h:i<fs.length):fs[i]?=some (fs.getD i ([],0)):=by
 rw [List.getD_eq_getElem?_getD,List.getElem?_eq_getElem h]
 rfl
theorem RowF.sle {w0 w:World} {g n c:Nat} {fs:List (List Int×Nat)} (h:RowF w0 w g fs) (hb:Below w0.heap.size w0 w) (hg:g<w.heap.size) (hn:fs.length=n) (hc:n≤c):FsAt w (some ⟨g,0,none⟩) n c fs:=by
 refine ⟨hn,hc,.inr ⟨g,0,rfl,hg,fun i x hx=>?_⟩⟩
 have hi:i<fs.length:=(List.getElem?_eq_some_iff.1 hx).1
 obtain ⟨A,l,c,h1,h2,h3⟩:=h i hi
 rw [getD_fs hi] at hx
 cases hx
 refine ⟨_,⟨A,l,c,rfl,h3.below hb⟩,fun j v hv=>?_⟩
 match j,hv with
 | 0,hv=>simp at hv;subst hv;rw [Nat.zero_add];exact h1
 | 1,hv=>simp at hv;subst hv;rw [Nat.zero_add];exact h2
 | j+2,hv=>simp at hv
theorem fs_lay {w:World} {A:Option Addr} {l c:Nat} {fs:List (List Int×Nat)} (h:FsAt w A l c fs) (hl:0<l):∃ b o us,A=some ⟨b,o,none⟩∧b<w.heap.size∧Lay (FcE w) fs us∧∀ (j:Nat) (u:Value),us[j]?=some u→w.cell? ⟨b,o+j,none⟩=some u:=by
 rcases h.elems with ⟨h0,_⟩ | ⟨b,o,e,hb,hv⟩
 ·omega
 ·have key:∀ (fs:List (List Int×Nat)) (o:Nat),(∀ (i:Nat) (x:List Int×Nat),fs[i]?=some x→∃ vs,FcE w x vs∧∀ (j:Nat) (v:Value),vs[j]?=some v→w.cell? ⟨b,o+i*2+j,none⟩=some v)→∃ us,Lay (FcE w) fs us∧∀ (j:Nat) (u:Value),us[j]?=some u→w.cell? ⟨b,o+j,none⟩=some u:=by
   intro fs
   induction fs with
   | nil=>intro o _;exact ⟨[],rfl,fun j u h=>by simp at h⟩
   | cons r rs ih =>
     intro o hv
     obtain ⟨vs,h1,h2⟩:=hv 0 r rfl
     obtain ⟨ws,h3,h4⟩:=ih (o+2) (fun i x hx=>by
      obtain ⟨us,g1,g2⟩:=hv (i+1) x (by simpa using hx)
      exact ⟨us,g1,fun j v hv=>by rw [show o+2+i*2+j=o+(i+1)*2+j by rw [Nat.add_mul];omega];exact g2 j v hv⟩)
     have hl:=fce_len h1
     refine ⟨vs ++ ws,⟨vs,ws,h1,rfl,h3⟩,fun j u hj=>?_⟩
     rcases Nat.lt_or_ge j 2 with c | c
     ·rw [List.getElem?_append_left (by omega)] at hj
      have:=h2 j u hj
      rwa [Nat.zero_mul,Nat.add_zero] at this
     ·rw [List.getElem?_append_right (by omega),hl] at hj
      have:=h4 _ u hj
      rwa [show o+2+(j-2)=o+j by omega] at this
  obtain ⟨us,h1,h2⟩:=key fs o hv
  exact ⟨b,o,us,e,hb,h1,h2⟩
theorem fs_nd {w:World}:∀ {fs:List (List Int×Nat)} {us:List Value},Lay (FcE w) fs us→∀ u∈us,Nd u
 | [],us,h,u,hu=>by rw [show us=[] from h] at hu;cases hu
 | r :: rs,us,⟨ws,vs,h1,h2,h3⟩,u,hu=>by
   rw [h2] at hu
   rcases List.mem_append.1 hu with hu | hu
   ·exact fce_nd h1 u hu
   ·exact fs_nd h3 u hu
theorem fac_row {w0 w:World} {t base:Nat} {v:Value} {us:List Value} {fs:List (List Int×Nat)} (h:OwnE Nd 2 t base w v us) (hl:Lay (FcE w0) fs us) (h0:0<fs.length):∃ g c cs,v=.slice (some ⟨g,0,none⟩) fs.length c∧fs.length≤c∧base≤g∧Blk w g t cs∧RowF w0 w g fs:=by
 have hul:=hl.len (E:=2) fun _ _ hx=>fce_len hx
 rcases h with ⟨e,_⟩ | ⟨g,n,cap,cs,e,hb,hun,hnc,huc,hk,hsz,hcs⟩
 ·rw [e] at hul;simp at hul;omega
 ·have:n=fs.length:=by omega
  subst this
  refine ⟨g,cap,cs,e,hnc,hb,hk,fun i hi=>?_⟩
  obtain ⟨vs,⟨A,l,c,rfl,h2⟩,h3⟩:=hl.get (E:=2) (fun _ _ hx=>fce_len hx) i _ (getD_fs hi)
  exact ⟨A,l,c,huc _ _ (h3 0 _ rfl),huc _ _ (h3 1 _ rfl),h2⟩
abbrev facZero:Value:=.agg #[.slice none 0 0,.int .i64 0]
theorem info_fac:(Try.prog.info? 71).map (fun i=>(i.zero,i.size,i.bytes))=some (some facZero,2,32):=by kernel_rfl
theorem fac_ndz:∀ j,j<2→Nd (facZero.cells[j]!):=fun j hj=>by
 match j,hj with
 | 0,_=>exact nd_slc _ _ _
 | 1,_=>exact nd_i64 _
theorem wpList_app_fac {w:World} {ops:Array Oper} {rest:List Oper} {o:Oper} {a:Act} {Q:Exit→Act→World→Prop} (hgd:o.guard=none) (s x:Operand)
  (ho:o.op=.call { callee:=.builtin .append,args:=#[s,x],argTypes:=#[25,25] })
  (base:Nat) (v:Value) (us vs:List Value) (hs:a.eval s=v) (hown:OwnE Nd 2 71 base w v us) (hB:base≤w.heap.size)
  (ax:Addr) (m c:Nat) (hx:a.eval x=.slice (some ax) m c) (hvl:vs.length=m*2) (hxc:∀ (j:Nat) (u:Value),vs[j]?=some u→w.cell? (ax.add j)=some u) (hvn:∀ u∈vs,Nd u) (hm:0<m∨v≠.slice none 0 0) (hn:us.length+vs.length≤100000000)
  (dd:Nat) (hdd:o.dst=some dd) (h:∀ v' w',GrE Nd 2 71 base w v us vs v' w'→wpList Try.prog ops Q rest (a.put (some dd) v') w') :
  wpList Try.prog ops Q (o :: rest) a w:=by
 obtain ⟨i0,hi,hz0,hz1,hz2⟩:=info_parts info_fac
 exact wpList_plain hgd fun _ hK'=>oper_append_own s x 25 71 ho 2 i0 facZero Try.underlying25 hi hz0 hz1 (by rw [hz2];omega) rfl Nd (fun _ h=>h) fac_ndz (by decide) base v us vs hs hown hB ax m c hx hvl hxc hvn hm hn dd hdd fun v' w' hg=>hK' _ _ (h v' w' hg)
theorem wpList_app_nil {w:World} {ops:Array Oper} {rest:List Oper} {o:Oper} {a:Act} {Q:Exit→Act→World→Prop} (hgd:o.guard=none) (s x:Operand)
  (ho:o.op=.call { callee:=.builtin .append,args:=#[s,x],argTypes:=#[25,25] })
  (g:Nat) (hs:a.eval s=.slice (some ⟨g,0,none⟩) 0 0) (hx:a.eval x=.slice none 0 0)
  (dd:Nat) (hdd:o.dst=some dd) (h:wpList Try.prog ops Q rest (a.put (some dd) (.slice (some ⟨g,0,none⟩) 0 0)) w) :
  wpList Try.prog ops Q (o :: rest) a w:=by
 obtain ⟨i0,hi,hz0,hz1,hz2⟩:=info_parts info_fac
 refine wpList_plain hgd fun K' hK'=>?_
 rw [← hdd] at h
 have hrun:(Builtin.append_ #[25,25] o.type #[.slice (some ⟨g,0,none⟩) 0 0,.slice none 0 0]).run Try.prog w=.ok (.slice (some ⟨g,0,none⟩) 0 0) w:=by
  simp [Builtin.append_,run_underlying Try.underlying25,sizeOf,typeInfo,hi,Builtin.lenOf,Builtin.firstCells,storeCells]
 unfold Oper.wp
 simp only [execOp,ho,resolve,invoke,builtin]
 simp [hs,hx,hrun,Result.andThen]
 exact hK' _ _ h
theorem OwnE.empty {t base:Nat} (w:World) (hb:base≤w.heap.size):OwnE Nd 2 t base (w.alloc (.cells #[] t)) (.slice (some ⟨w.heap.size,0,none⟩) 0 0) [] :=
 .inr ⟨w.heap.size,0,0,#[],rfl,hb,rfl,Nat.le_refl _,fun j u h=>by simp at h,Blk.new _ _ _,rfl,fun j h=>absurd h (by omega)⟩
structure FSt (base:Nat) (w0 w:World) (v:Value) (fs:List (List Int×Nat)):Prop where
 own:∃ us,OwnE Nd 2 71 base w v us∧Lay (FcE w0) fs us
 at_:∃ g c,v=.slice (some ⟨g,0,none⟩) fs.length c∧base≤g∧g<w.heap.size∧(∀ o,w.frozen? ⟨g,o,none⟩=false)∧RowF w0 w g fs∧fs.length≤c
theorem RowF.below {w0 w w':World} {g:Nat} {fs:List (List Int×Nat)} (h:RowF w0 w g fs) (hg:g<w.heap.size) (hb:Below w.heap.size w w'):RowF w0 w' g fs:=fun i hi=>by
 obtain ⟨A,l,c,h1,h2,h3⟩:=h i hi
 exact ⟨A,l,c,(hb.cell (p:=⟨g,i*2,none⟩) hg).trans h1,(hb.cell (p:=⟨g,i*2+1,none⟩) hg).trans h2,h3⟩
theorem wpList_app_cp {w:World} {ops:Array Oper} {rest:List Oper} {o:Oper} {a:Act} {Q:Exit→Act→World→Prop} (hgd:o.guard=none) (s x:Operand)
  (ho:o.op=.call { callee:=.builtin .append,args:=#[s,x],argTypes:=#[25,25] })
  (hs:a.eval s=.slice (some ⟨w.heap.size,0,none⟩) 0 0) {A:Option Addr} {l c:Nat} {fs:List (List Int×Nat)} (hx:a.eval x=.slice A l c) (hF:FsAt w A l c fs) (hl:l≤100) (h0:l=0→A=none∧c=0)
  (dd:Nat) (hdd:o.dst=some dd) (h:∀ v' w',FSt w.heap.size w w' v' fs→Below w.heap.size w w'→wpList Try.prog ops Q rest (a.put (some dd) v') w') :
  wpList Try.prog ops Q (o :: rest) a (w.alloc (.cells #[] 71)):=by
 by_cases hz:l=0
 ·obtain ⟨rfl,rfl⟩:=h0 hz
  subst hz
  have hn:fs=[]:=List.eq_nil_of_length_eq_zero hF.length
  refine wpList_app_nil hgd s x ho w.heap.size hs hx dd hdd (h _ _ ⟨⟨[],OwnE.empty w (Nat.le_refl _),by rw [hn];rfl⟩,⟨w.heap.size,0,by rw [hn];rfl,Nat.le_refl _,(by have:=(below_new w (.cells #[] 71)).size;simp),fun o=>(Blk.new w 71 #[]).frozen o,fun i hi=>(by rw [hn] at hi;exact absurd hi (Nat.not_lt_zero _)),by rw [hn];exact Nat.le_refl _⟩⟩ (below_new _ _))
 ·obtain ⟨b,o',us,rfl,hbl,hlay,hc⟩:=fs_lay hF (by omega)
  have hul:=hlay.len (E:=2) fun _ _ hx=>fce_len hx
  have hll:=hF.length
  refine wpList_app_fac hgd s x ho w.heap.size _ [] us hs (OwnE.empty w (Nat.le_refl _)) (below_new w _).size ⟨b,o',none⟩ l c hx (by rw [hul,hll]) (fun j u hj=>by rw [Addr.add_lit];exact ((below_new w _).cell (p:=⟨b,o'+j,none⟩) hbl).trans (hc j u hj)) (fs_nd hlay) (.inl (by omega)) (by rw [hul,hll];simp;omega) dd hdd fun v1 w1 hg=>?_
  have hb:Below w.heap.size w w1:=(below_new w _).trans (hg.below (below_new w _).size)
  obtain ⟨g,c',cs,e,h1,h2,h3,h4⟩:=fac_row hg.1 hlay (by omega)
  exact h v1 w1 ⟨⟨us,hg.1,hlay⟩,⟨g,c',e,h2,h3.lt,fun o=>h3.frozen o,h4,h1⟩⟩ hb
theorem RowF.set {w0 w:World} {g i m:Nat} {p:List Int} {fs:List (List Int×Nat)} (h:RowF w0 w g fs) (hi:i<fs.length) (e:(fs.getD i ([],0))=(p,m)):RowF w0 (w.setCell ⟨g,i*2+1,none⟩ (.int .i64 ((m+1:Nat):Int))) g (fs.set i (p,m+1)):=fun k hk=>by
 rw [List.length_set] at hk
 obtain ⟨A,l,c,h1,h2,h3⟩:=h k hk
 have hne:k*2≠i*2+1:=by omega
 have n1:(w.setCell ⟨g,i*2+1,none⟩ (.int .i64 ((m+1:Nat):Int))).cell? ⟨g,k*2,none⟩=some (.slice A l c):=by go_simp
 by_cases hik:i=k
 ·subst hik
  have e2:(fs.set i (p,m+1)).getD i ([],0)=(p,m+1):=by rw [List.getD_eq_getElem?_getD,List.getElem?_set_self hi];rfl
  refine ⟨A,l,c,n1,?_,?_⟩
  ·rw [e2]
   go_simp
  ·rw [e2]
   rw [e] at h3
   exact h3
 ·have e2:(fs.set i (p,m+1)).getD k ([],0)=fs.getD k ([],0):=by rw [List.getD_eq_getElem?_getD,List.getElem?_set_ne hik,← List.getD_eq_getElem?_getD]
  have hne2:k*2+1≠i*2+1:=by omega
  refine ⟨A,l,c,n1,?_,?_⟩
  ·rw [e2]
   go_simp
  ·rw [e2]
   exact h3
theorem withf_len (p:List Int):∀ l:List (List Int×Nat),(withf l p).length≤l.length+1
 | []=>Nat.le_refl _
 | (r,m) :: l=>by
   unfold withf
   split
   ·simp
   ·have:=withf_len p l
    simp only [List.length_cons]
    omega
theorem withf_pow {p:List Int} {N:Nat}:∀ {l:List (List Int×Nat)},(∀ x∈l,x.2≤N)→∀ x∈withf l p,x.2≤N+1
 | [],_,x,hx=>by rw [List.mem_singleton.1 hx];exact Nat.le_add_left _ _
 | (r,m) :: l,h,x,hx=>by
   have h0:=h (r,m) List.mem_cons_self
   unfold withf at hx
   split at hx
   ·rcases List.mem_cons.1 hx with e | e
    ·rw [e];exact Nat.succ_le_succ h0
    ·have:=h x (List.mem_cons_of_mem _ e);omega
   ·rcases List.mem_cons.1 hx with e | e
    ·rw [e];have:m≤N:=h0;show m≤N+1;omega
    ·exact withf_pow (fun y hy=>h y (List.mem_cons_of_mem _ hy)) x e
set_option maxRecDepth 100000 in
set_option maxHeartbeats 8000000 in
theorem with_any (A:Option Addr) (l c:Nat) (fs:List (List Int×Nat)) (B:Option Addr) (lb cb:Nat) (p:List Int) (w:World) (hF:FsAt w A l c fs) (hP:I64At w B lb cb p) (hl:l≤100) (hlb:lb≤1000) (tp:ptrim p=p) (hs:∀ x∈fs,ptrim x.1=x.1∧x.1.length≤1000∧x.2≤100) (h0:l=0→A=none∧c=0) :
  Calls Try.prog 31 #[.slice A l c,.slice B lb cb] w fun e w'=>(∃ A' l' c',e=.returned (.slice A' l' c')∧FsAt w' A' l' c' (withf fs p)∧0<l')∧Below w.heap.size w w':=by
 have HF:=Lib.hid hF
 have HP:=Lib.hid hP
 have HS:=Lib.hid hs
 have Hll:=Lib.hid hF.length
 have Hl:=Lib.hid hl
 have H0:=Lib.hid h0
 clear hF hP hs h0 hl
 go_enter Try.func31,Try.ntmps31
 go_wp2_with (at_builtin;refine wpList_app_cp rfl (.tmp 7) (.tmp 8) rfl rfl rfl HF.out Hl.out H0.out 9 rfl ?_;intro v1 w1 hg1 hb1)
 obtain ⟨g,c1,e1,hg0,hgl,hfr,hrow,hcap⟩:=hg1.at_
 subst e1
 have HO:=Lib.hid hg1.own
 have HB1:=Lib.hid hb1
 have Hrow:=Lib.hid hrow
 have Hfr:=Lib.hid hfr
 have Hg0:=Lib.hid hg0
 have Hgl:=Lib.hid hgl
 have Hcap:=Lib.hid hcap
 obtain ⟨n,hn⟩:∃ n,n=fs.length:=⟨_,rfl⟩
 rw [← hn] at HO ⊢
 have Hn:=Lib.hid hn
 have hn100:n≤100:=by rw [hn,Hll.out];exact Hl.out
 clear hg1 hb1 hrow hfr hn hg0 hgl hcap
 have HP1:=Lib.hid (HP.out.below HB1.out)
 go_wp2
 go_loopw [6] (fun s6 wr=>∃ i:Nat,i≤n∧s6=.int .i64 (i:Int)∧(∀ j,j<i→(fs.getD j ([],0)).1≠p)∧Below w1.heap.size w1 wr) (fun s6 _=>n-(intOf s6).toNat)
 case atStart=>exact ⟨0,Nat.zero_le _,rfl,fun j hj=>absurd hj (Nat.not_lt_zero _),Below.refl _ _⟩
 case round =>
  obtain ⟨i,hi,rfl,hst,hbr⟩:=hrel
  obtain ⟨wo,rfl⟩:∃ wo:World,wo=wr:=⟨_,rfl⟩
  have Hst:=Lib.hid hst
  have Hbr:=Lib.hid hbr
  have Hi:=Lib.hid hi
  have HR:=Lib.hid (Hrow.out.below Hgl.out hbr)
  have hgo:g<wo.heap.size:=Nat.lt_of_lt_of_le Hgl.out hbr.size
  have hfo:∀ o,wo.frozen? ⟨g,o,none⟩=false:=fun o=>(hbr.frozen (p:=⟨g,o,none⟩) Hgl.out).trans (Hfr.out o)
  have Hfo:=Lib.hid hfo
  have Hgo:=Lib.hid hgo
  by_cases hlt:i<n
  ·have Hlt:=Lib.hid hlt
   obtain ⟨A1,l1,c2,k1,k2,k3⟩:=HR.out i (by rw [← Hn.out];exact hlt)
   have hmem:fs.getD i ([],0)∈fs:=by rw [List.getD_eq_getElem?_getD,List.getElem?_eq_getElem (by rw [← Hn.out];exact hlt)];exact List.getElem_mem _
   obtain ⟨q1,q2,q3⟩:=HS.out _ hmem
   obtain ⟨r,hr⟩:∃ r,r=(fs.getD i ([],0)).1:=⟨_,rfl⟩
   obtain ⟨m,hm⟩:∃ m,m=(fs.getD i ([],0)).2:=⟨_,rfl⟩
   rw [← hr] at k3 q1 q2
   rw [← hm] at k2 q3
   have Hr:=Lib.hid hr
   have Hm:=Lib.hid hm
   have k3':=Lib.hid ((k3.below HB1.out).below (hbr.mono (Nat.le_refl _)))
   have hp':=Lib.hid (HP1.out.below (hbr.mono (Nat.le_refl _)))
   have hll:=k3'.out.length
   have ti:(i:Int)<(n:Int):=by omega
   have tw:IntKind.i64.wrap ((i:Int)+1)=(i:Int)+1:=IntWalk.i64_in _ (by omega)
   have tm:IntKind.i64.wrap ((m:Int)+1)=(m:Int)+1:=IntWalk.i64_in _ (by omega)
   have hl1:l1≤1000:=by omega
   clear hr hm hst hbr hfo k3 hi hmem q2 hll
   go_wp2_with fail
   refine (same_any _ _ _ r _ _ _ p _ k3'.out hp'.out hl1 hlb q1 tp).mono ?_
   rintro e w3 ⟨rfl,hb3⟩
   have k2':=(hb3.cell (p:=⟨g,i*2+1,none⟩) hgo).trans k2
   have f2':=(hb3.frozen (p:=⟨g,i*2+1,none⟩) hgo).trans (Hfo.out _)
   have HR3:=Lib.hid (HR.out.below hgo hb3)
   have Hbr3:=Lib.hid (Hbr.out.trans (hb3.mono Hbr.out.size))
   have hg3:g<w3.heap.size:=Nat.lt_of_lt_of_le hgo hb3.size
   clear hb3 k1 k2 hgo
   by_cases hrp:r=p
   ·rw [decide_eq_true hrp]
    have hFin:=Lib.hid (show withf fs p=fs.set i (p,m+1) from withf_hit fs i m Hst.out (by
     rw [getD_fs (by rw [← Hn.out];exact Hlt.out)]
     exact congrArg some (Prod.ext (Hr.out.symm.trans hrp) Hm.out.symm)))
    have hEm:=Lib.hid (show fs.getD i ([],0)=(p,m) from Prod.ext (Hr.out.symm.trans hrp) Hm.out.symm)
    clear hrp
    go_wp2
    go_ret
    have hrow:=RowF.set HR3.out (by rw [← Hn.out];exact Hlt.out) hEm.out
    refine ⟨⟨some ⟨g,0,none⟩,n,c1,rfl,?_,by have:=Hlt.out;omega⟩,?_⟩
    ·rw [hFin.out]
     have:=hrow.sle (n:=n) (c:=c1) ((HB1.out.trans (Hbr3.out.mono HB1.out.size)).setCell (by exact Hg0.out) _) (by simpa using hg3) (by rw [List.length_set,Hn.out]) (by rw [Hn.out];exact Hcap.out)
     simpa using this
    ·have:=(HB1.out.trans (Hbr3.out.mono HB1.out.size)).setCell (p:=⟨g,i*2+1,none⟩) Hg0.out (.int .i64 ((m+1:Nat):Int))
     simpa using this
   ·rw [decide_eq_false hrp]
    have HNE:=Lib.hid hrp
    clear hrp k2' f2'
    go_wp2
    go_roundw
    case rel=>exact ⟨i+1,Hlt.out,by go_num,fun j hj=>(by
     by_cases c2:j<i
     ·exact Hst.out j c2
     ·obtain rfl:j=i:=by omega
      rw [← Hr.out]
      exact HNE.out),Hbr3.out⟩
    case measure=>have:=Hlt.out;simp [intOf];omega
  ·have ti:¬ (i:Int)<(n:Int):=by omega
   have hFin:=Lib.hid (show withf fs p=fs ++ [(p,1)] from withf_miss fs fun j hj=>Hst.out j (by rw [← Hn.out] at hj;omega))
   clear hst hbr hfo hi hlt hgo
   obtain ⟨us,hown,hlay⟩:=HO.out
   have Hown:=Lib.hid (((hown.below Hbr.out)).below (below_new wo (.cells #[.slice B lb cb,.int .i64 1] 71)))
   have Hlay:=Lib.hid hlay
   have Hul:=Lib.hid (show us.length≤200 by rw [hlay.len (E:=2) fun _ _ hx=>fce_len hx,← Hn.out];omega)
   have HpW:=Lib.hid HP.out
   have Hsz:=Lib.hid (show w.heap.size≤(wo.alloc (.cells #[.slice B lb cb,.int .i64 1] 71)).heap.size from Nat.le_trans (Nat.le_trans HB1.out.size Hbr.out.size) (below_new _ _).size)
   have Hvn:=Lib.hid (show ∀ u∈[Value.slice B lb cb,Value.int .i64 1],Nd u from fun u hu=>by
    simp at hu
    rcases hu with rfl | rfl
    ·exact nd_slc _ _ _
    ·exact nd_i64 _)
   have Hvc:=Lib.hid (show ∀ (j:Nat) (u:Value),[Value.slice B lb cb,Value.int .i64 1][j]?=some u→(wo.alloc (.cells #[.slice B lb cb,.int .i64 1] 71)).cell? ((⟨wo.heap.size,0,none⟩:Addr).add j)=some u from fun j u hj=>by
    match j,hj with
    | 0,hj=>simp at hj;subst hj;rw [Addr.add_lit];simp
    | 1,hj=>simp at hj;subst hj;rw [Addr.add_lit];simp
    | j+2,hj=>simp at hj)
   clear hown hlay
   go_wp2_with (at_builtin;refine wpList_app_fac rfl (.tmp 32) (.tmp 35) rfl w.heap.size _ us [.slice B lb cb,.int .i64 1] rfl Hown.out Hsz.out ⟨wo.heap.size,0,none⟩ 1 1 rfl rfl Hvc.out Hvn.out (.inl (by omega)) (by have:=Hul.out;simp;omega) 36 rfl ?_;intro v5 w5 hg5)
   have hb5:=hg5.below Hsz.out
   have hB:Below w.heap.size w w5:=((HB1.out.trans (Hbr.out.mono HB1.out.size)).trans ((below_new wo _).mono (Nat.le_trans HB1.out.size Hbr.out.size))).trans hb5
   have hlay5:Lay (FcE w5) (fs ++ [(p,1)]) (us ++ [.slice B lb cb,.int .i64 1]):=(Hlay.out.mono fun x vs hx=>hx.below hB).app ⟨B,lb,cb,rfl,HpW.out.below hB⟩
   obtain ⟨A5,l5,c5,e5,hs5⟩:=hg5.1.sle (by decide) hlay5 fun _ _ hx=>fce_len hx
   have Hs5:=Lib.hid hs5
   have HB5:=Lib.hid hB
   have HL5:=Lib.hid (show 0<l5 by have:=hs5.length;simp at this;omega)
   subst e5
   clear hg5 hb5 hB hlay5 hs5
   go_wp2
   go_ret
   exact ⟨⟨A5,l5,c5,rfl,by rw [hFin.out];exact Hs5.out,HL5.out⟩,HB5.out⟩
end Go.Proofs.Ytipocabbjinbhaa
