/- awake of chapter 16, and the law IsolateValid. -/
import Derived.Test.YtppggpfcdgilmaaGreatIsv
import Derived.Test.YtppggpfcdgilmaaGreatSqw
namespace Go.Proofs.YtppggpfcdgilmaaGreat
open Go Go.RowKit
theorem w2_atI (w:World):I64At (w.alloc (.cells #[.int .i64 (-2),.int .i64 0,.int .i64 1] 2)) (some ⟨w.heap.size,0,none⟩) 3 3 w2:=by
 refine ⟨rfl,by omega,.inr ⟨w.heap.size,0,rfl,by simp,fun j hj=>?_⟩⟩
 match j,hj with
 | 0,_=>simp [w2]
 | 1,_=>simp [w2]
 | 2,_=>simp [w2]
theorem w2_trimI:ptrim w2=w2:=by decide
set_option maxHeartbeats 1000000 in
theorem awake16_any (w:World) :
  Calls Tryz.prog 10 #[] w fun e w'=>e=.returned (.bool true)∧Below w.heap.size w w':=by
 have jb:=below_new w (.cells #[.int .i64 (-2),.int .i64 0,.int .i64 1] 2)
 have hat:=w2_atI w
 have Hb:=Lib.hid jb
 clear jb
 go_enter Tryz.func10,Tryz.ntmps10
 go_wp2_with fail
 refine (pof_any _ _ _ _ _ hat (by intro c hc;simp [w2] at hc;rcases hc with rfl | rfl | rfl<;>(unfold I64;omega)) (by omega)).mono ?_
 rintro e w1 ⟨A1,l1,c1,rfl,h1,hb1⟩
 rw [show ptrim w2=w2 from w2_trimI] at h1
 have hl1:l1≤3:=by have:=h1.length;have e:w2.length=3:=rfl;omega
 replace Hb:=Lib.hid (Hb.out.trans (hb1.mono Hb.out.size))
 have h9:=p9_w2
 clear hb1 hat
 go_wp2_with fail
 refine (roots_any ikN _ _ _ w2 _ h1 h9.cp.fit.smp (fun _=>h9.q) (fun h=>SqF.of9 h9 h) (by omega)).mono ?_
 rintro e w2' ⟨⟨A2,l2,c2,rfl,h2⟩,hb2⟩
 obtain rfl:l2=2:=by rw [← h2.length];exact proots_w2
 replace Hb:=Lib.hid (Hb.out.trans (hb2.mono Hb.out.size))
 clear hb2 h1 h2
 go_wp2
 go_ret
 exact ⟨rfl,Hb.out⟩
structure Quad (W:World) (g:Nat) (x0 x1 x2 x3:Int):Prop where
 c0:W.cell? ⟨g,0,none⟩=some (.int .i8 x0)
 c1:W.cell? ⟨g,1,none⟩=some (.int .i8 x1)
 c2:W.cell? ⟨g,2,none⟩=some (.int .i8 x2)
 c3:W.cell? ⟨g,3,none⟩=some (.int .i8 x3)
 lt:g<W.heap.size
theorem Quad.move {W W':World} {g:Nat} {x0 x1 x2 x3:Int} (h:Quad W g x0 x1 x2 x3) (hb:Below W.heap.size W W'):Quad W' g x0 x1 x2 x3 :=
 ⟨(hb.cell (p:=⟨g,0,none⟩) h.lt).trans h.c0,(hb.cell (p:=⟨g,1,none⟩) h.lt).trans h.c1,(hb.cell (p:=⟨g,2,none⟩) h.lt).trans h.c2,(hb.cell (p:=⟨g,3,none⟩) h.lt).trans h.c3,Nat.lt_of_lt_of_le h.lt hb.size⟩
theorem Quad.make (W:World) (x0 x1 x2 x3:Int) (t:TypeId):Quad (W.alloc (.cells #[.int .i8 x0,.int .i8 x1,.int .i8 x2,.int .i8 x3] t)) W.heap.size x0 x1 x2 x3:=⟨by go_simp,by go_simp,by go_simp,by go_simp,by simp⟩
end Go.Proofs.YtppggpfcdgilmaaGreat
