/-
  The walk of code.reader's value.
  The walk of code.reader's value: a number.
  The walk of code.reader's value: a text. (Written by wip/mkval.py.)
  The walk of code.reader's value: a text that is one. (Written by wip/mkval.py D.)
  Rows of values of one's own, and append of one value onto them; without a condition but for the sizes.
  The walk of code.reader's value: a list.
  code.reader's value, whole.
-/
import Derived.Test.YtlpgbmaoenncjaaGreatDoorCvBase
import Derived.Test.YtlpgbmaoenncjaaGreatDoorGen
import Derived.Laws.ResultCell
import Derived.Maps.AppendAt
import Derived.KernelRfl
import Derived.Test.YtlpgbmaoenncjaaGreatDoorRows
import Derived.Deep.LoopGhost
namespace Go.Proofs.YtlpgbmaoenncjaaGreatDoor
open Go.RowKit
set_option linter.unusedVariables false
def ValPost (r:Nat) (s:ByteArray) (w:World) (x:Rd) (e:Ending) (w':World):Prop :=
 ∃ cs:List Value,e = .returned (.tuple #[.agg cs.toArray,.bool x.ok])∧V.At w' (fun b=>w.heap.size≤b∧b<w'.heap.size) x.v cs∧RdAt w' r s (x.at_:Int) (x.many:Int) x.bad∧w.grownBy w' (some r)
theorem grown_fresh {w w1 w2:World}{row:Option Nat}{b:Nat}(h:w.grownBy w1 row) (k:w1.grownBy w2 (some b)) (hb:w.heap.size≤b):w.grownBy w2 row :=
 ⟨k.os.trans h.os,k.tape.trans h.tape,k.output.trans h.output,Nat.le_trans h.size k.size,fun i hi hr=>(k.block i (Nat.lt_of_lt_of_le hi h.size) (by simp; omega)).trans (h.block i hi hr)⟩
theorem zeroV_at (w:World) (S:Nat→Prop):V.At w S zeroV [.int .i64 0,.int .i64 0,.string ⟨#[]⟩,.slice none 0 0]:=by
 simp only [zeroV,V.At]
 exact⟨none,0,rfl,Nat.le_refl _,fun _=>rfl,by simp only [VAll]⟩
set_option maxRecDepth 20000 in
set_option maxHeartbeats 4000000 in
theorem value_end (r:Nat) (s:ByteArray) (k:Int) (a m:Nat) (w:World) (h:RdAt w r s a m 0) (hs:s.size≤131072) (h1:¬ a<s.size) :
 Calls Tryz.prog 92 #[.pointer (some ⟨r,0,none⟩),.int .i64 k] w (ValPost r s w (Rd.no a m 10)):=by
 have H:=Lib.hid h
 have h2:=h.alloc (.cells #[.int .i64 0,.int .i64 0,.string ⟨#[]⟩,.slice none 0 0] 70)
 have c0:=h2.c0
 have c1:=h2.c1
 have hi:(s.size:Int)≤(a:Int):=by omega
 clear h h2
 go_enter Tryz.func92,Tryz.ntmps92
 go_wp2_with fail
 go_quiet (fail)
 go_wp2_with fail
 refine (fail_any r s a m 10 _ ((H.out.alloc _).drewN _)).mono ?_
 rintro e w1 ⟨rfl,hr1,hg1⟩
 have HF:Hid (Four w1 w.heap.size 70 (.int .i64 0) (.int .i64 0) (.string ⟨#[]⟩) (.slice none 0 0)):=Lib.hid (((Four.new w _ _ _ _ _).drewN _).kept hg1 (by have:=H.out.lt; simp; omega))
 have HR:=Lib.hid hr1
 have HG:Hid (w.grownBy w1 (some r)):=Lib.hid (grown_trans (World.grownBy_alloc w _ _) (grown_drew_l hg1))
 have b0:=HF.out.c0
 have b1:=HF.out.c1
 have b2:=HF.out.c2
 have b3:=HF.out.c3
 have g0:=HF.out.free 0
 have g1:=HF.out.free 1
 have g2:=HF.out.free 2
 have g3:=HF.out.free 3
 clear hr1 hg1
 go_wp2_with fail
 have HF2:=HF.out.all (.int .i64 0) (.int .i64 0) (.string ⟨#[]⟩) (.slice none 0 0)
 have hgf:=grown_four w1 w.heap.size (.int .i64 0) (.int .i64 0) (.string ⟨#[]⟩) (.slice none 0 0)
 clear b0 b1 b2 b3 g0 g1 g2 g3
 generalize ((((w1.setCell ⟨w.heap.size,0,none⟩ (.int .i64 0)).setCell ⟨w.heap.size,1,none⟩ (.int .i64 0)).setCell ⟨w.heap.size,2,none⟩ (.string ⟨#[]⟩)).setCell ⟨w.heap.size,3,none⟩ (.slice none 0 0))=w2 at *
 have e0:=HF2.c0
 have e1:=HF2.c1
 have e2:=HF2.c2
 have e3:=HF2.c3
 (try simp only [Exit.inBlock,Exit.then])
 refine bodyPost_ret (v:=.tuple #[.agg #[.int .i64 0,.int .i64 0,.string ⟨#[]⟩,.slice none 0 0],.bool false]) ?_ rfl ?_
 ·rw [results_cell_tmp rfl]; go_simp
 ·exact⟨_,rfl,zeroV_at _ _,HR.out.kept hgf (by have:=H.out.lt; simp; omega),grown_fresh HG.out hgf (Nat.le_refl _)⟩
set_option maxRecDepth 20000 in
set_option maxHeartbeats 4000000 in
theorem value_byte (r:Nat) (s:ByteArray) (k:Int) (a m:Nat) (w:World) (h:RdAt w r s a m 0) (hs:s.size≤131072) (h1:a<s.size) (hb:begins s[a]=false) :
 Calls Tryz.prog 92 #[.pointer (some ⟨r,0,none⟩),.int .i64 k] w (ValPost r s w (Rd.no a m 11)):=by
 have H:=Lib.hid h
 have h2:=h.alloc (.cells #[.int .i64 0,.int .i64 0,.string ⟨#[]⟩,.slice none 0 0] 70)
 have c0:=h2.c0
 have c1:=h2.c1
 have hi:(a:Int)<(s.size:Int):=by omega
 unfold begins at hb
 simp only [Bool.or_eq_false_iff,Bool.and_eq_false_iff,decide_eq_false_iff_not,beq_eq_false_iff_ne] at hb
 obtain⟨⟨hb1,hb2⟩,hb3⟩:=hb
 have q1:((s[a].toNat:Int) != 105)=true:=by rw [bne_iff_ne]; intro e; exact hb1 (UInt8.toNat_inj.1 (by show s[a].toNat=105; omega))
 have q2:((s[a].toNat:Int) != 108)=true:=by rw [bne_iff_ne]; intro e; exact hb2 (UInt8.toNat_inj.1 (by show s[a].toNat=108; omega))
 have q3:(s[a].toNat:Int)<48∨((48:Int)≤(s[a].toNat:Int)∧(57:Int)<(s[a].toNat:Int)):=by omega
 clear h h2 hb1 hb2 hb3
 rcases q3 with q3 | ⟨q3,q4⟩
 all_goals
  go_enter Tryz.func92,Tryz.ntmps92
  go_wp2_with fail
  go_quiet (fail)
  go_wp2_with fail
  go_quiet (fail)
  go_wp2_with fail
  refine (fail_any r s a m 11 _ ((H.out.alloc _).drewN _)).mono ?_
  rintro e w1 ⟨rfl,hr1,hg1⟩
  have HF:Hid (Four w1 w.heap.size 70 (.int .i64 0) (.int .i64 0) (.string ⟨#[]⟩) (.slice none 0 0)):=Lib.hid (((Four.new w _ _ _ _ _).drewN _).kept hg1 (by have:=H.out.lt; simp; omega))
  have HR:=Lib.hid hr1
  have HG:Hid (w.grownBy w1 (some r)):=Lib.hid (grown_trans (World.grownBy_alloc w _ _) (grown_drew_l hg1))
  have b0:=HF.out.c0
  have b1:=HF.out.c1
  have b2:=HF.out.c2
  have b3:=HF.out.c3
  have g0:=HF.out.free 0
  have g1:=HF.out.free 1
  have g2:=HF.out.free 2
  have g3:=HF.out.free 3
  clear hr1 hg1
  go_wp2_with fail
  have HF2:=HF.out.all (.int .i64 0) (.int .i64 0) (.string ⟨#[]⟩) (.slice none 0 0)
  have hgf:=grown_four w1 w.heap.size (.int .i64 0) (.int .i64 0) (.string ⟨#[]⟩) (.slice none 0 0)
  clear b0 b1 b2 b3 g0 g1 g2 g3
  generalize ((((w1.setCell ⟨w.heap.size,0,none⟩ (.int .i64 0)).setCell ⟨w.heap.size,1,none⟩ (.int .i64 0)).setCell ⟨w.heap.size,2,none⟩ (.string ⟨#[]⟩)).setCell ⟨w.heap.size,3,none⟩ (.slice none 0 0))=w2 at *
  have e0:=HF2.c0
  have e1:=HF2.c1
  have e2:=HF2.c2
  have e3:=HF2.c3
  (try simp only [Exit.inBlock,Exit.then])
  refine bodyPost_ret (v:=.tuple #[.agg #[.int .i64 0,.int .i64 0,.string ⟨#[]⟩,.slice none 0 0],.bool false]) ?_ rfl ?_
  ·rw [results_cell_tmp rfl]; go_simp
  ·exact⟨_,rfl,zeroV_at _ _,HR.out.kept hgf (by have:=H.out.lt; simp; omega),grown_fresh HG.out hgf (Nat.le_refl _)⟩
theorem begins_ways {c:UInt8}(h:begins c=true):(((c.toNat:Int) != 105)=false)∨(((c.toNat:Int) != 105)=true∧((c.toNat:Int) != 108)=false)∨(((c.toNat:Int) != 105)=true∧((c.toNat:Int) != 108)=true∧(48:Int)≤(c.toNat:Int)∧(c.toNat:Int)≤57):=by
 unfold begins at h
 simp only [Bool.or_eq_true,Bool.and_eq_true,decide_eq_true_eq,beq_iff_eq] at h
 rcases h with (rfl | rfl) | ⟨h1,h2⟩
 ·exact .inl (by decide)
 ·exact .inr (.inl ⟨by decide,by decide⟩)
 ·exact .inr (.inr ⟨by rw [bne_iff_ne]; omega,by rw [bne_iff_ne]; omega,by omega,by omega⟩)
set_option maxRecDepth 20000 in
set_option maxHeartbeats 4000000 in
theorem value_deep (r:Nat) (s:ByteArray) (k:Int) (a m:Nat) (w:World) (h:RdAt w r s a m 0) (hs:s.size≤131072) (h1:a<s.size) (hb:begins s[a]=true) (hk:30≤k) :
 Calls Tryz.prog 92 #[.pointer (some ⟨r,0,none⟩),.int .i64 k] w (ValPost r s w (Rd.no a m 12)):=by
 have H:=Lib.hid h
 have h2:=h.alloc (.cells #[.int .i64 0,.int .i64 0,.string ⟨#[]⟩,.slice none 0 0] 70)
 have c0:=h2.c0
 have c1:=h2.c1
 have hi:(a:Int)<(s.size:Int):=by omega
 have q:=begins_ways hb
 clear h h2 hb
 rcases q with q1 | ⟨q1,q2⟩ | ⟨q1,q2,q3,q4⟩
 all_goals
  go_enter Tryz.func92,Tryz.ntmps92
  go_wp2_with fail
  go_quiet (fail)
  go_wp2_with fail
  go_quiet (fail)
  go_wp2_with fail
  refine (fail_any r s a m 12 _ ((H.out.alloc _).drewN _)).mono ?_
  rintro e w1 ⟨rfl,hr1,hg1⟩
  have HF:Hid (Four w1 w.heap.size 70 (.int .i64 0) (.int .i64 0) (.string ⟨#[]⟩) (.slice none 0 0)):=Lib.hid (((Four.new w _ _ _ _ _).drewN _).kept hg1 (by have:=H.out.lt; simp; omega))
  have HR:=Lib.hid hr1
  have HG:Hid (w.grownBy w1 (some r)):=Lib.hid (grown_trans (World.grownBy_alloc w _ _) (grown_drew_l hg1))
  have b0:=HF.out.c0
  have b1:=HF.out.c1
  have b2:=HF.out.c2
  have b3:=HF.out.c3
  have g0:=HF.out.free 0
  have g1:=HF.out.free 1
  have g2:=HF.out.free 2
  have g3:=HF.out.free 3
  clear hr1 hg1
  go_wp2_with fail
  have HF2:=HF.out.all (.int .i64 0) (.int .i64 0) (.string ⟨#[]⟩) (.slice none 0 0)
  have hgf:=grown_four w1 w.heap.size (.int .i64 0) (.int .i64 0) (.string ⟨#[]⟩) (.slice none 0 0)
  clear b0 b1 b2 b3 g0 g1 g2 g3
  generalize ((((w1.setCell ⟨w.heap.size,0,none⟩ (.int .i64 0)).setCell ⟨w.heap.size,1,none⟩ (.int .i64 0)).setCell ⟨w.heap.size,2,none⟩ (.string ⟨#[]⟩)).setCell ⟨w.heap.size,3,none⟩ (.slice none 0 0))=w2 at *
  have e0:=HF2.c0
  have e1:=HF2.c1
  have e2:=HF2.c2
  have e3:=HF2.c3
  (try simp only [Exit.inBlock,Exit.then])
  refine bodyPost_ret (v:=.tuple #[.agg #[.int .i64 0,.int .i64 0,.string ⟨#[]⟩,.slice none 0 0],.bool false]) ?_ rfl ?_
  ·rw [results_cell_tmp rfl]; go_simp
  ·exact⟨_,rfl,zeroV_at _ _,HR.out.kept hgf (by have:=H.out.lt; simp; omega),grown_fresh HG.out hgf (Nat.le_refl _)⟩
set_option maxRecDepth 20000 in
set_option maxHeartbeats 4000000 in
theorem value_long (r:Nat) (s:ByteArray) (k:Int) (a m:Nat) (w:World) (h:RdAt w r s a m 0) (hs:s.size≤131072) (h1:a<s.size) (hb:begins s[a]=true) (hk:k<30) (hm:4000≤m) :
 Calls Tryz.prog 92 #[.pointer (some ⟨r,0,none⟩),.int .i64 k] w (ValPost r s w (Rd.no a m 2)):=by
 have H:=Lib.hid h
 have h2:=h.alloc (.cells #[.int .i64 0,.int .i64 0,.string ⟨#[]⟩,.slice none 0 0] 70)
 have c0:=h2.c0
 have c1:=h2.c1
 have c2:=h2.c2
 have hmi:(4000:Int)≤(m:Int):=by omega
 have hi:(a:Int)<(s.size:Int):=by omega
 have q:=begins_ways hb
 clear h h2 hb
 rcases q with q1 | ⟨q1,q2⟩ | ⟨q1,q2,q3,q4⟩
 all_goals
  go_enter Tryz.func92,Tryz.ntmps92
  go_wp2_with fail
  go_quiet (fail)
  go_wp2_with fail
  go_quiet (fail)
  go_wp2_with fail
  refine (fail_any r s a m 2 _ ((H.out.alloc _).drewN _)).mono ?_
  rintro e w1 ⟨rfl,hr1,hg1⟩
  have HF:Hid (Four w1 w.heap.size 70 (.int .i64 0) (.int .i64 0) (.string ⟨#[]⟩) (.slice none 0 0)):=Lib.hid (((Four.new w _ _ _ _ _).drewN _).kept hg1 (by have:=H.out.lt; simp; omega))
  have HR:=Lib.hid hr1
  have HG:Hid (w.grownBy w1 (some r)):=Lib.hid (grown_trans (World.grownBy_alloc w _ _) (grown_drew_l hg1))
  have b0:=HF.out.c0
  have b1:=HF.out.c1
  have b2:=HF.out.c2
  have b3:=HF.out.c3
  have g0:=HF.out.free 0
  have g1:=HF.out.free 1
  have g2:=HF.out.free 2
  have g3:=HF.out.free 3
  clear hr1 hg1
  go_wp2_with fail
  have HF2:=HF.out.all (.int .i64 0) (.int .i64 0) (.string ⟨#[]⟩) (.slice none 0 0)
  have hgf:=grown_four w1 w.heap.size (.int .i64 0) (.int .i64 0) (.string ⟨#[]⟩) (.slice none 0 0)
  clear b0 b1 b2 b3 g0 g1 g2 g3
  generalize ((((w1.setCell ⟨w.heap.size,0,none⟩ (.int .i64 0)).setCell ⟨w.heap.size,1,none⟩ (.int .i64 0)).setCell ⟨w.heap.size,2,none⟩ (.string ⟨#[]⟩)).setCell ⟨w.heap.size,3,none⟩ (.slice none 0 0))=w2 at *
  have e0:=HF2.c0
  have e1:=HF2.c1
  have e2:=HF2.c2
  have e3:=HF2.c3
  (try simp only [Exit.inBlock,Exit.then])
  refine bodyPost_ret (v:=.tuple #[.agg #[.int .i64 0,.int .i64 0,.string ⟨#[]⟩,.slice none 0 0],.bool false]) ?_ rfl ?_
  ·rw [results_cell_tmp rfl]; go_simp
  ·exact⟨_,rfl,zeroV_at _ _,HR.out.kept hgf (by have:=H.out.lt; simp; omega),grown_fresh HG.out hgf (Nat.le_refl _)⟩
end Go.Proofs.YtlpgbmaoenncjaaGreatDoor
namespace Go.Proofs.YtlpgbmaoenncjaaGreatDoor
open Go.RowKit
set_option linter.unusedVariables false
theorem numV_at (w:World) (S:Nat→Prop) (n:Int):V.At w S (.mk 1 n ⟨#[]⟩ []) [.int .i64 1,.int .i64 n,.string ⟨#[]⟩,.slice none 0 0]:=by
 simp only [V.At]
 exact⟨none,0,rfl,Nat.le_refl _,fun _=>rfl,by simp only [VAll]⟩
set_option maxRecDepth 20000 in
set_option maxHeartbeats 4000000 in
theorem value_number_x (r:Nat) (s:ByteArray) (k:Int) (a m:Nat) (w:World) (h:RdAt w r s a m 0) (hs:s.size≤131072) (h1:a<s.size) (hb:s[a]=105) (hk:k<30) (hm:m<4000) (x1:Int) (x2:Bool) (x3:Nat) (x4:Int) (hx:Hid ((x1,x2,x3,x4)=numberL s (a+1))) :
 Calls Tryz.prog 92 #[.pointer (some ⟨r,0,none⟩),.int .i64 k] w (ValPost r s w ⟨.mk 1 x1 ⟨#[]⟩ [],x2,x3,m+1,x4⟩):=by
 have H:=Lib.hid h
 have h2:=h.alloc (.cells #[.int .i64 0,.int .i64 0,.string ⟨#[]⟩,.slice none 0 0] 70)
 have c0:=h2.c0
 have c1:=h2.c1
 have c2:=h2.c2
 have f1:=h2.free 1 (by decide)
 have f2:=h2.free 2 (by decide)
 have hmi:(m:Int)<4000:=by omega
 have hi:(a:Int)<(s.size:Int):=by omega
 have q1:((s[a].toNat:Int) != 105)=false:=by rw [hb]; rfl
 have q2:((s[a].toNat:Int)==105)=true:=by rw [hb]; rfl
 clear h h2 hb
 go_enter Tryz.func92,Tryz.ntmps92
 go_wp2_with fail
 go_quiet (fail)
 go_wp2_with fail
 go_quiet (fail)
 go_wp2_with fail
 refine (number_any r s (a+1) ((m+1:Nat):Int) _ ?hr ?hs ?ha _ hx).mono ?_
 case hs=>unfold maxLen; omega
 case ha=>omega
 case hr=>exact (((H.out.alloc _).drewN _).setMany _).setAt _
 rintro e w1 ⟨rfl,hr1,hg1⟩
 have HF:Hid (Four w1 w.heap.size 70 (.int .i64 0) (.int .i64 0) (.string ⟨#[]⟩) (.slice none 0 0)):=Lib.hid (((Four.new w _ _ _ _ _).drewN _).kept (grown_trans (grown_trans (grown_setCell _ _ _ _) (grown_setCell _ _ _ _)) hg1) (by have:=H.out.lt; simp; omega))
 have HR:=Lib.hid hr1
 have HG:Hid (w.grownBy w1 (some r)):=Lib.hid (grown_trans (World.grownBy_alloc w _ _) (grown_drew_l (grown_trans (grown_trans (grown_setCell _ _ _ _) (grown_setCell _ _ _ _)) hg1)))
 have b0:=HF.out.c0
 have b1:=HF.out.c1
 have b2:=HF.out.c2
 have b3:=HF.out.c3
 have g0:=HF.out.free 0
 have g1:=HF.out.free 1
 have g2:=HF.out.free 2
 have g3:=HF.out.free 3
 clear hr1 hg1
 go_wp2_with fail
 have HF2:=HF.out.all (.int .i64 1) (.int .i64 x1) (.string ⟨#[]⟩) (.slice none 0 0)
 have hgf:=grown_four w1 w.heap.size (.int .i64 1) (.int .i64 x1) (.string ⟨#[]⟩) (.slice none 0 0)
 clear b0 b1 b2 b3 g0 g1 g2 g3
 generalize ((((w1.setCell ⟨w.heap.size,0,none⟩ (.int .i64 1)).setCell ⟨w.heap.size,1,none⟩ (.int .i64 x1)).setCell ⟨w.heap.size,2,none⟩ (.string ⟨#[]⟩)).setCell ⟨w.heap.size,3,none⟩ (.slice none 0 0))=w2 at *
 have e0:=HF2.c0
 have e1:=HF2.c1
 have e2:=HF2.c2
 have e3:=HF2.c3
 (try simp only [Exit.inBlock,Exit.then])
 refine bodyPost_ret (v:=.tuple #[.agg #[.int .i64 1,.int .i64 x1,.string ⟨#[]⟩,.slice none 0 0],.bool x2]) ?_ rfl ?_
 ·rw [results_cell_tmp rfl]; go_simp
 ·exact⟨_,rfl,numV_at _ _ _,HR.out.kept hgf (by have:=H.out.lt; simp; omega),grown_fresh HG.out hgf (Nat.le_refl _)⟩
theorem value_number (r:Nat) (s:ByteArray) (k:Int) (a m:Nat) (w:World) (h:RdAt w r s a m 0) (hs:s.size≤131072) (h1:a<s.size) (hb:s[a]=105) (hk:k<30) (hm:m<4000) :
 Calls Tryz.prog 92 #[.pointer (some ⟨r,0,none⟩),.int .i64 k] w (ValPost r s w (rdNumber s (a+1) (m+1))) :=
 value_number_x r s k a m w h hs h1 hb hk hm _ _ _ _ (Lib.hid rfl)
end Go.Proofs.YtlpgbmaoenncjaaGreatDoor
namespace Go.Proofs.YtlpgbmaoenncjaaGreatDoor
open Go.RowKit
set_option linter.unusedVariables false
theorem textV_at (w:World) (S:Nat→Prop) (t:ByteArray):V.At w S (.mk 2 0 t []) [.int .i64 2,.int .i64 0,.string t,.slice none 0 0]:=by
 simp only [V.At]
 exact⟨none,0,rfl,Nat.le_refl _,fun _=>rfl,by simp only [VAll]⟩
set_option maxRecDepth 20000 in
set_option maxHeartbeats 4000000 in
theorem value_text_a (r:Nat) (s:ByteArray) (k:Int) (a m:Nat) (w:World) (h:RdAt w r s a m 0) (hs:s.size≤131072) (h1:a<s.size) (hb:48≤s[a].toNat∧s[a].toNat≤57) (hk:k<30) (hm:m<4000)
 (x1 x3:Nat) (x4:Int) (hx:Hid ((x1,false,x3,x4)=digitsL s 131072 a (s.size+1 - a) 0 a)) :
 Calls Tryz.prog 92 #[.pointer (some ⟨r,0,none⟩),.int .i64 k] w (ValPost r s w (Rd.no x3 (m+1) x4)):=by
 have H:=Lib.hid h
 have h2:=h.alloc (.cells #[.int .i64 0,.int .i64 0,.string ⟨#[]⟩,.slice none 0 0] 70)
 have c0:=h2.c0
 have c1:=h2.c1
 have c2:=h2.c2
 have f1:=h2.free 1 (by decide)
 have f2:=h2.free 2 (by decide)
 have hmi:(m:Int)<4000:=by omega
 have hi:(a:Int)<(s.size:Int):=by omega
 have q1:((s[a].toNat:Int) != 105)=true:=by rw [bne_iff_ne]; omega
 have q2:((s[a].toNat:Int) != 108)=true:=by rw [bne_iff_ne]; omega
 have q3:((s[a].toNat:Int)==105)=false:=by rw [beq_eq_false_iff_ne]; omega
 have q4:((s[a].toNat:Int)==108)=false:=by rw [beq_eq_false_iff_ne]; omega
 have q5:(48:Int)≤(s[a].toNat:Int):=by omega
 have q6:(s[a].toNat:Int)≤57:=by omega
 clear h h2 hb
 go_enter Tryz.func92,Tryz.ntmps92
 go_wp2_with fail
 go_quiet (fail)
 go_wp2_with fail
 go_quiet (fail)
 go_wp2_with fail
 refine (digits_any r s a ((m+1:Nat):Int) 131072 _ (((H.out.alloc _).drewN _).setMany _) (by unfold maxLen; omega) (by omega) (by decide) (by decide) _ hx).mono ?_
 rintro e w1 ⟨rfl,hr1,hg1⟩
 have HF1:Hid (Four w1 w.heap.size 70 (.int .i64 0) (.int .i64 0) (.string ⟨#[]⟩) (.slice none 0 0)):=Lib.hid (((Four.new w _ _ _ _ _).drewN _).kept (grown_trans (grown_setCell _ _ _ _) hg1) (by have:=H.out.lt; simp; omega))
 have HR1:=Lib.hid hr1
 have HG1:Hid (w.grownBy w1 (some r)):=Lib.hid (grown_trans (World.grownBy_alloc w _ _) (grown_drew_l (grown_trans (grown_setCell _ _ _ _) hg1)))
 clear hr1 hg1 c0 c1 c2 f1 f2
 have HF:=HF1
 have HR:=HR1
 have HG:=HG1
 clear HF1 HR1 HG1
 have b0:=HF.out.c0
 have b1:=HF.out.c1
 have b2:=HF.out.c2
 have b3:=HF.out.c3
 have g0:=HF.out.free 0
 have g1:=HF.out.free 1
 have g2:=HF.out.free 2
 have g3:=HF.out.free 3
 go_wp2_with fail
 generalize w1=w9 at *
 have HF2:=HF.out.all (.int .i64 0) (.int .i64 0) (.string ⟨#[]⟩) (.slice none 0 0)
 have hgf:=grown_four w9 w.heap.size (.int .i64 0) (.int .i64 0) (.string ⟨#[]⟩) (.slice none 0 0)
 clear b0 b1 b2 b3 g0 g1 g2 g3
 generalize ((((w9.setCell ⟨w.heap.size,0,none⟩ (.int .i64 0)).setCell ⟨w.heap.size,1,none⟩ (.int .i64 0)).setCell ⟨w.heap.size,2,none⟩ (.string ⟨#[]⟩)).setCell ⟨w.heap.size,3,none⟩ (.slice none 0 0))=w10 at *
 have e0:=HF2.c0
 have e1:=HF2.c1
 have e2:=HF2.c2
 have e3:=HF2.c3
 (try simp only [Exit.inBlock,Exit.then])
 refine bodyPost_ret (v:=.tuple #[.agg #[.int .i64 0,.int .i64 0,.string ⟨#[]⟩,.slice none 0 0],.bool false]) ?_ rfl ?_
 ·rw [results_cell_tmp rfl]; go_simp
 ·exact⟨_,rfl,zeroV_at _ _,HR.out.kept hgf (by have:=H.out.lt; simp; omega),grown_fresh HG.out hgf (Nat.le_refl _)⟩
set_option maxRecDepth 20000 in
set_option maxHeartbeats 4000000 in
theorem value_text_b (r:Nat) (s:ByteArray) (k:Int) (a m:Nat) (w:World) (h:RdAt w r s a m 0) (hs:s.size≤131072) (h1:a<s.size) (hb:48≤s[a].toNat∧s[a].toNat≤57) (hk:k<30) (hm:m<4000)
 (x1 x3:Nat) (hx:Hid ((x1,true,x3,(0:Int))=digitsL s 131072 a (s.size+1 - a) 0 a)) (y2:Nat) (y3:Int) (hy:Hid ((false,y2,y3)=mustL s x3 58)) :
 Calls Tryz.prog 92 #[.pointer (some ⟨r,0,none⟩),.int .i64 k] w (ValPost r s w (Rd.no y2 (m+1) y3)):=by
 have H:=Lib.hid h
 have h2:=h.alloc (.cells #[.int .i64 0,.int .i64 0,.string ⟨#[]⟩,.slice none 0 0] 70)
 have c0:=h2.c0
 have c1:=h2.c1
 have c2:=h2.c2
 have f1:=h2.free 1 (by decide)
 have f2:=h2.free 2 (by decide)
 have hmi:(m:Int)<4000:=by omega
 have hi:(a:Int)<(s.size:Int):=by omega
 have q1:((s[a].toNat:Int) != 105)=true:=by rw [bne_iff_ne]; omega
 have q2:((s[a].toNat:Int) != 108)=true:=by rw [bne_iff_ne]; omega
 have q3:((s[a].toNat:Int)==105)=false:=by rw [beq_eq_false_iff_ne]; omega
 have q4:((s[a].toNat:Int)==108)=false:=by rw [beq_eq_false_iff_ne]; omega
 have q5:(48:Int)≤(s[a].toNat:Int):=by omega
 have q6:(s[a].toNat:Int)≤57:=by omega
 clear h h2 hb
 go_enter Tryz.func92,Tryz.ntmps92
 go_wp2_with fail
 go_quiet (fail)
 go_wp2_with fail
 go_quiet (fail)
 go_wp2_with fail
 refine (digits_any r s a ((m+1:Nat):Int) 131072 _ (((H.out.alloc _).drewN _).setMany _) (by unfold maxLen; omega) (by omega) (by decide) (by decide) _ hx).mono ?_
 rintro e w1 ⟨rfl,hr1,hg1⟩
 have HF1:Hid (Four w1 w.heap.size 70 (.int .i64 0) (.int .i64 0) (.string ⟨#[]⟩) (.slice none 0 0)):=Lib.hid (((Four.new w _ _ _ _ _).drewN _).kept (grown_trans (grown_setCell _ _ _ _) hg1) (by have:=H.out.lt; simp; omega))
 have HR1:=Lib.hid hr1
 have HG1:Hid (w.grownBy w1 (some r)):=Lib.hid (grown_trans (World.grownBy_alloc w _ _) (grown_drew_l (grown_trans (grown_setCell _ _ _ _) hg1)))
 clear hr1 hg1 c0 c1 c2 f1 f2
 have hmust:=must_any r s x3 ((m+1:Nat):Int) 58 w1 HR1.out (by unfold maxLen; omega) _ hy
 go_wp2_with fail
 refine hmust.mono ?_
 clear hmust
 rintro e w9 ⟨rfl,hr1,hg1⟩
 have HF:Hid (Four w9 w.heap.size 70 (.int .i64 0) (.int .i64 0) (.string ⟨#[]⟩) (.slice none 0 0)):=Lib.hid (HF1.out.kept hg1 (by have:=H.out.lt; simp; omega))
 have HR:=Lib.hid hr1
 have HG:Hid (w.grownBy w9 (some r)):=Lib.hid (grown_trans HG1.out hg1)
 clear hr1 hg1 HF1 HR1 HG1
 have b0:=HF.out.c0
 have b1:=HF.out.c1
 have b2:=HF.out.c2
 have b3:=HF.out.c3
 have g0:=HF.out.free 0
 have g1:=HF.out.free 1
 have g2:=HF.out.free 2
 have g3:=HF.out.free 3
 go_wp2_with fail
 have HF2:=HF.out.all (.int .i64 0) (.int .i64 0) (.string ⟨#[]⟩) (.slice none 0 0)
 have hgf:=grown_four w9 w.heap.size (.int .i64 0) (.int .i64 0) (.string ⟨#[]⟩) (.slice none 0 0)
 clear b0 b1 b2 b3 g0 g1 g2 g3
 generalize ((((w9.setCell ⟨w.heap.size,0,none⟩ (.int .i64 0)).setCell ⟨w.heap.size,1,none⟩ (.int .i64 0)).setCell ⟨w.heap.size,2,none⟩ (.string ⟨#[]⟩)).setCell ⟨w.heap.size,3,none⟩ (.slice none 0 0))=w10 at *
 have e0:=HF2.c0
 have e1:=HF2.c1
 have e2:=HF2.c2
 have e3:=HF2.c3
 (try simp only [Exit.inBlock,Exit.then])
 refine bodyPost_ret (v:=.tuple #[.agg #[.int .i64 0,.int .i64 0,.string ⟨#[]⟩,.slice none 0 0],.bool false]) ?_ rfl ?_
 ·rw [results_cell_tmp rfl]; go_simp
 ·exact⟨_,rfl,zeroV_at _ _,HR.out.kept hgf (by have:=H.out.lt; simp; omega),grown_fresh HG.out hgf (Nat.le_refl _)⟩
set_option maxRecDepth 20000 in
set_option maxHeartbeats 4000000 in
theorem value_text_c (r:Nat) (s:ByteArray) (k:Int) (a m:Nat) (w:World) (h:RdAt w r s a m 0) (hs:s.size≤131072) (h1:a<s.size) (hb:48≤s[a].toNat∧s[a].toNat≤57) (hk:k<30) (hm:m<4000)
 (x1 x3:Nat) (hx:Hid ((x1,true,x3,(0:Int))=digitsL s 131072 a (s.size+1 - a) 0 a)) (y2:Nat) (hy:Hid ((true,y2,(0:Int))=mustL s x3 58)) (hy2:y2≤s.size) (hx1:x1≤131072) (hn:s.size - y2<x1) :
 Calls Tryz.prog 92 #[.pointer (some ⟨r,0,none⟩),.int .i64 k] w (ValPost r s w (Rd.no s.size (m+1) 10)):=by
 have H:=Lib.hid h
 have h2:=h.alloc (.cells #[.int .i64 0,.int .i64 0,.string ⟨#[]⟩,.slice none 0 0] 70)
 have c0:=h2.c0
 have c1:=h2.c1
 have c2:=h2.c2
 have f1:=h2.free 1 (by decide)
 have f2:=h2.free 2 (by decide)
 have hmi:(m:Int)<4000:=by omega
 have hi:(a:Int)<(s.size:Int):=by omega
 have q1:((s[a].toNat:Int) != 105)=true:=by rw [bne_iff_ne]; omega
 have q2:((s[a].toNat:Int) != 108)=true:=by rw [bne_iff_ne]; omega
 have q3:((s[a].toNat:Int)==105)=false:=by rw [beq_eq_false_iff_ne]; omega
 have q4:((s[a].toNat:Int)==108)=false:=by rw [beq_eq_false_iff_ne]; omega
 have q5:(48:Int)≤(s[a].toNat:Int):=by omega
 have q6:(s[a].toNat:Int)≤57:=by omega
 have q7:(s.size:Int) - (y2:Int)<(x1:Int):=by omega
 have q8:(y2:Int)≤(s.size:Int):=by omega
 have q9:(x1:Int)≤131072:=by omega
 have q10:(s.size:Int)≤131072:=by omega
 clear h h2 hb
 go_enter Tryz.func92,Tryz.ntmps92
 go_wp2_with fail
 go_quiet (fail)
 go_wp2_with fail
 go_quiet (fail)
 go_wp2_with fail
 refine (digits_any r s a ((m+1:Nat):Int) 131072 _ (((H.out.alloc _).drewN _).setMany _) (by unfold maxLen; omega) (by omega) (by decide) (by decide) _ hx).mono ?_
 rintro e w1 ⟨rfl,hr1,hg1⟩
 have HF1:Hid (Four w1 w.heap.size 70 (.int .i64 0) (.int .i64 0) (.string ⟨#[]⟩) (.slice none 0 0)):=Lib.hid (((Four.new w _ _ _ _ _).drewN _).kept (grown_trans (grown_setCell _ _ _ _) hg1) (by have:=H.out.lt; simp; omega))
 have HR1:=Lib.hid hr1
 have HG1:Hid (w.grownBy w1 (some r)):=Lib.hid (grown_trans (World.grownBy_alloc w _ _) (grown_drew_l (grown_trans (grown_setCell _ _ _ _) hg1)))
 clear hr1 hg1 c0 c1 c2 f1 f2
 have hmust:=must_any r s x3 ((m+1:Nat):Int) 58 w1 HR1.out (by unfold maxLen; omega) _ hy
 go_wp2_with fail
 refine hmust.mono ?_
 clear hmust
 rintro e w9 ⟨rfl,hr1,hg1⟩
 have d0:=hr1.c0
 have d1:=hr1.c1
 have k1:=hr1.free 1 (by decide)
 have HF7:Hid (Four w9 w.heap.size 70 (.int .i64 0) (.int .i64 0) (.string ⟨#[]⟩) (.slice none 0 0)):=Lib.hid (HF1.out.kept hg1 (by have:=H.out.lt; simp; omega))
 have HR7:=Lib.hid hr1
 have HG7:Hid (w.grownBy w9 (some r)):=Lib.hid (grown_trans HG1.out hg1)
 clear hr1 hg1 HF1 HR1 HG1
 go_wp2_with fail
 go_quiet (fail)
 go_wp2_with fail
 refine (fail_any r s (s.size:Int) ((m+1:Nat):Int) 10 _ ((HR7.out.drewN _).setAt _)).mono ?_
 rintro e w11 ⟨rfl,hr1,hg1⟩
 have HF:Hid (Four w11 w.heap.size 70 (.int .i64 0) (.int .i64 0) (.string ⟨#[]⟩) (.slice none 0 0)):=Lib.hid ((HF7.out.drewN _).kept (grown_trans (grown_setCell _ _ _ _) hg1) (by have:=H.out.lt; simp; omega))
 have HR:=Lib.hid hr1
 have HG:Hid (w.grownBy w11 (some r)):=Lib.hid (grown_trans HG7.out (grown_drew_l (grown_trans (grown_setCell _ _ _ _) hg1)))
 clear hr1 hg1 HF7 HR7 HG7
 generalize w11=w9 at *
 have b0:=HF.out.c0
 have b1:=HF.out.c1
 have b2:=HF.out.c2
 have b3:=HF.out.c3
 have g0:=HF.out.free 0
 have g1:=HF.out.free 1
 have g2:=HF.out.free 2
 have g3:=HF.out.free 3
 go_wp2_with fail
 have HF2:=HF.out.all (.int .i64 0) (.int .i64 0) (.string ⟨#[]⟩) (.slice none 0 0)
 have hgf:=grown_four w9 w.heap.size (.int .i64 0) (.int .i64 0) (.string ⟨#[]⟩) (.slice none 0 0)
 clear b0 b1 b2 b3 g0 g1 g2 g3
 generalize ((((w9.setCell ⟨w.heap.size,0,none⟩ (.int .i64 0)).setCell ⟨w.heap.size,1,none⟩ (.int .i64 0)).setCell ⟨w.heap.size,2,none⟩ (.string ⟨#[]⟩)).setCell ⟨w.heap.size,3,none⟩ (.slice none 0 0))=w10 at *
 have e0:=HF2.c0
 have e1:=HF2.c1
 have e2:=HF2.c2
 have e3:=HF2.c3
 (try simp only [Exit.inBlock,Exit.then])
 refine bodyPost_ret (v:=.tuple #[.agg #[.int .i64 0,.int .i64 0,.string ⟨#[]⟩,.slice none 0 0],.bool false]) ?_ rfl ?_
 ·rw [results_cell_tmp rfl]; go_simp
 ·exact⟨_,rfl,zeroV_at _ _,HR.out.kept hgf (by have:=H.out.lt; simp; omega),grown_fresh HG.out hgf (Nat.le_refl _)⟩
end Go.Proofs.YtlpgbmaoenncjaaGreatDoor
namespace Go.Proofs.YtlpgbmaoenncjaaGreatDoor
open Go.RowKit
set_option linter.unusedVariables false
set_option maxRecDepth 20000 in
set_option maxHeartbeats 4000000 in
theorem value_text_d (r:Nat) (s:ByteArray) (k:Int) (a m:Nat) (w:World) (h:RdAt w r s a m 0) (hs:s.size≤131072) (h1:a<s.size) (hb:48≤s[a].toNat∧s[a].toNat≤57) (hk:k<30) (hm:m<4000)
 (x1 x3:Nat) (hx:Hid ((x1,true,x3,(0:Int))=digitsL s 131072 a (s.size+1 - a) 0 a)) (y2:Nat) (hy:Hid ((true,y2,(0:Int))=mustL s x3 58)) (hy2:y2≤s.size) (hx1:x1≤131072) (hn:x1≤s.size - y2) :
 Calls Tryz.prog 92 #[.pointer (some ⟨r,0,none⟩),.int .i64 k] w (ValPost r s w (⟨.mk 2 0 (s.extract y2 (y2+x1)) [],true,y2+x1,m+1,0⟩)):=by
 have H:=Lib.hid h
 have h2:=h.alloc (.cells #[.int .i64 0,.int .i64 0,.string ⟨#[]⟩,.slice none 0 0] 70)
 have c0:=h2.c0
 have c1:=h2.c1
 have c2:=h2.c2
 have f1:=h2.free 1 (by decide)
 have f2:=h2.free 2 (by decide)
 have hmi:(m:Int)<4000:=by omega
 have hi:(a:Int)<(s.size:Int):=by omega
 have q1:((s[a].toNat:Int) != 105)=true:=by rw [bne_iff_ne]; omega
 have q2:((s[a].toNat:Int) != 108)=true:=by rw [bne_iff_ne]; omega
 have q3:((s[a].toNat:Int)==105)=false:=by rw [beq_eq_false_iff_ne]; omega
 have q4:((s[a].toNat:Int)==108)=false:=by rw [beq_eq_false_iff_ne]; omega
 have q5:(48:Int)≤(s[a].toNat:Int):=by omega
 have q6:(s[a].toNat:Int)≤57:=by omega
 have q7:(x1:Int)≤(s.size:Int) - (y2:Int):=by omega
 have q8:(y2:Int)≤(s.size:Int):=by omega
 have q9:(x1:Int)≤131072:=by omega
 have q10:(s.size:Int)≤131072:=by omega
 clear h h2 hb
 go_enter Tryz.func92,Tryz.ntmps92
 go_wp2_with fail
 go_quiet (fail)
 go_wp2_with fail
 go_quiet (fail)
 go_wp2_with fail
 refine (digits_any r s a ((m+1:Nat):Int) 131072 _ (((H.out.alloc _).drewN _).setMany _) (by unfold maxLen; omega) (by omega) (by decide) (by decide) _ hx).mono ?_
 rintro e w1 ⟨rfl,hr1,hg1⟩
 have HF1:Hid (Four w1 w.heap.size 70 (.int .i64 0) (.int .i64 0) (.string ⟨#[]⟩) (.slice none 0 0)):=Lib.hid (((Four.new w _ _ _ _ _).drewN _).kept (grown_trans (grown_setCell _ _ _ _) hg1) (by have:=H.out.lt; simp; omega))
 have HR1:=Lib.hid hr1
 have HG1:Hid (w.grownBy w1 (some r)):=Lib.hid (grown_trans (World.grownBy_alloc w _ _) (grown_drew_l (grown_trans (grown_setCell _ _ _ _) hg1)))
 clear hr1 hg1 c0 c1 c2 f1 f2
 have hmust:=must_any r s x3 ((m+1:Nat):Int) 58 w1 HR1.out (by unfold maxLen; omega) _ hy
 go_wp2_with fail
 refine hmust.mono ?_
 clear hmust
 rintro e w9 ⟨rfl,hr1,hg1⟩
 have d0:=hr1.c0
 have d1:=hr1.c1
 have k1:=hr1.free 1 (by decide)
 have HF7:Hid (Four w9 w.heap.size 70 (.int .i64 0) (.int .i64 0) (.string ⟨#[]⟩) (.slice none 0 0)):=Lib.hid (HF1.out.kept hg1 (by have:=H.out.lt; simp; omega))
 have HR7:=Lib.hid hr1
 have HG7:Hid (w.grownBy w9 (some r)):=Lib.hid (grown_trans HG1.out hg1)
 clear hr1 hg1 HF1 HR1 HG1
 go_wp2_with fail
 go_quiet (fail)
 go_wp2_with fail
 clear d0 d1 k1
 have HF8:Hid (Four (w9.drewN nq) w.heap.size 70 (.int .i64 0) (.int .i64 0) (.string ⟨#[]⟩) (.slice none 0 0)):=Lib.hid (HF7.out.drewN _)
 have HR8:=Lib.hid (HR7.out.drewN nq)
 have HG8:Hid (w.grownBy (w9.drewN nq) (some r)):=Lib.hid (grown_drewN HG7.out _)
 clear HF7 HR7 HG7
 generalize w9.drewN nq=w8 at *
 have d0:=HR8.out.c0
 have d1:=HR8.out.c1
 have k1:=HR8.out.free 1 (by decide)
 have hr9:=HR8.out.alloc (.cells #[.int .i64 0,.int .i64 0,.string ⟨#[]⟩,.slice none 0 0] 70)
 have l0:=hr9.c0
 have l1:=hr9.c1
 clear hr9
 go_region
 have hg9:∀ row,w8.grownBy (w8.alloc (.cells #[.int .i64 2,.int .i64 0,.string (s.extract y2 (y2+x1)),.slice none 0 0] 70)).drew row:=by
  intro row
  have h:=World.grownBy_alloc w8 (.cells #[.int .i64 2,.int .i64 0,.string (s.extract y2 (y2+x1)),.slice none 0 0] 70) row
  exact⟨h.os,h.tape,h.output,h.size,h.block⟩
 have HB9:Hid (Four (w8.alloc (.cells #[.int .i64 2,.int .i64 0,.string (s.extract y2 (y2+x1)),.slice none 0 0] 70)).drew w8.heap.size 70 (.int .i64 2) (.int .i64 0) (.string (s.extract y2 (y2+x1))) (.slice none 0 0)):=Lib.hid (Four.new w8 _ _ _ _ _)
 clear d0 d1 k1 l0 l1
 generalize (w8.alloc (.cells #[.int .i64 2,.int .i64 0,.string (s.extract y2 (y2+x1)),.slice none 0 0] 70)).drew=w7 at *
 have HF9:=Lib.hid (HF8.out.kept (hg9 none) (by simp))
 have hr9:=HR8.out.kept (hg9 none) (by simp)
 have HG9:=Lib.hid (grown_trans HG8.out (hg9 (some r)))
 have d0:=hr9.c0
 have d1:=hr9.c1
 have k1:=hr9.free 1 (by decide)
 have HR9:=Lib.hid hr9
 have p0:=HB9.out.c0
 have p1:=HB9.out.c1
 have p2:=HB9.out.c2
 have p3:=HB9.out.c3
 have hb8:w8.heap.size≠r:=by have:=HR8.out.lt; omega
 have hb9:w.heap.size≠w8.heap.size:=by have:=lt_of_block HF8.out; omega
 have hbr:w.heap.size≠r:=by have:=H.out.lt; omega
 clear hr9 hg9 HF8 HR8 HG8
 have b0:=HF9.out.c0
 have b1:=HF9.out.c1
 have b2:=HF9.out.c2
 have b3:=HF9.out.c3
 have g0:=HF9.out.free 0
 have g1:=HF9.out.free 1
 have g2:=HF9.out.free 2
 have g3:=HF9.out.free 3
 (try simp only [Exit.then])
 go_wp2_with fail
 have HF:Hid (Four (w7.setCell ⟨r,1,none⟩ (.int .i64 ((y2:Int)+(x1:Int)))) w.heap.size 70 (.int .i64 0) (.int .i64 0) (.string ⟨#[]⟩) (.slice none 0 0)):=Lib.hid (HF9.out.kept (grown_setCell _ r 1 _) (by simp; omega))
 have HR:Hid (RdAt (w7.setCell ⟨r,1,none⟩ (.int .i64 ((y2:Int)+(x1:Int)))) r s ((y2+x1:Nat):Int) ((m+1:Nat):Int) 0):=Lib.hid (by rw [show ((y2+x1:Nat):Int)=(y2:Int)+(x1:Int) by omega]; exact HR9.out.setAt _)
 have HG:Hid (w.grownBy (w7.setCell ⟨r,1,none⟩ (.int .i64 ((y2:Int)+(x1:Int)))) (some r)):=Lib.hid (grown_trans HG9.out (grown_setCell _ r 1 _))
 clear HF9 HR9 HG9 d0 d1 k1 p0 p1 p2 p3 HB9
 generalize (w7.setCell ⟨r,1,none⟩ (.int .i64 ((y2:Int)+(x1:Int))))=w9 at *
 have HF2:=HF.out.all (.int .i64 2) (.int .i64 0) (.string (s.extract y2 (y2+x1))) (.slice none 0 0)
 have hgf:=grown_four w9 w.heap.size (.int .i64 2) (.int .i64 0) (.string (s.extract y2 (y2+x1))) (.slice none 0 0)
 clear b0 b1 b2 b3 g0 g1 g2 g3
 generalize ((((w9.setCell ⟨w.heap.size,0,none⟩ (.int .i64 2)).setCell ⟨w.heap.size,1,none⟩ (.int .i64 0)).setCell ⟨w.heap.size,2,none⟩ (.string (s.extract y2 (y2+x1)))).setCell ⟨w.heap.size,3,none⟩ (.slice none 0 0))=w10 at *
 have e0:=HF2.c0
 have e1:=HF2.c1
 have e2:=HF2.c2
 have e3:=HF2.c3
 (try simp only [Exit.inBlock,Exit.then])
 refine bodyPost_ret (v:=.tuple #[.agg #[.int .i64 2,.int .i64 0,.string (s.extract y2 (y2+x1)),.slice none 0 0],.bool true]) ?_ rfl ?_
 ·rw [results_cell_tmp rfl]; go_simp
 ·exact⟨_,rfl,textV_at _ _ _,HR.out.kept hgf (by have:=H.out.lt; simp; omega),grown_fresh HG.out hgf (Nat.le_refl _)⟩
end Go.Proofs.YtlpgbmaoenncjaaGreatDoor
namespace Go.Proofs.YtlpgbmaoenncjaaGreatDoor
open Go.RowKit
set_option linter.unusedVariables false
theorem infoVal:(Tryz.prog.info? 70).map (fun i=>(i.zero,i.size,i.bytes))=some (some (.agg #[.int .i64 0,.int .i64 0,.string ⟨#[]⟩,.slice none 0 0]),4,56):=by kernel_rfl
theorem underV:Tryz.prog.underlying 68 = some (.slice 70):=by kernel_rfl
theorem infoV:∃ i,Tryz.prog.info? 70 = some i∧i.zero=some (.agg #[.int .i64 0,.int .i64 0,.string ⟨#[]⟩,.slice none 0 0])∧i.size=4∧i.bytes=56:=by
 have h:=infoVal
 cases hi:Tryz.prog.info? 70 with
 | none=>rw [hi] at h; cases h
 | some i =>
   rw [hi] at h
   simp only [Option.map_some,Option.some.injEq,Prod.mk.injEq] at h
   exact⟨i,rfl,h.1,h.2.1,h.2.2⟩
theorem wpList_app4 {P:Program}(w:World) {ops:Array Oper}{rest:List Oper}{o:Oper}{a:Act}{Q:Exit→Act→World→Prop}(hgd:o.guard=none) (s x:Operand) (t:TypeId)
 (ho:o.op = .call { callee:=.builtin .append,args:=#[s,x],argTypes:=#[t,t] })
 (base:Nat) (e:TypeId) (i:TypeInfo) (z:Value) (bytes:Nat) (ht:P.underlying t=some (.slice e)) (hi:P.info? e=some i) (hz:i.zero=some z)
 (hsize:i.size=4) (hby:i.bytes=bytes) (hzs:z.cells.size=4)
 (v:Value) (n:Nat) (xs:List Value) (hown:w.ownsRow base e 4 v n xs) (hs:a.eval s=v)
 (u0 u1 u2 u3:Value) (T:TypeId) (nb:Nat) (hnb:nb=w.heap.size) (hx:a.eval x = .slice (some ⟨nb,0,none⟩) 1 1) (h1:∀ u∈[u0,u1,u2,u3],u.oneCell'=true)
 (h63:n+1≤maxLen) (hbytes:(n+1)*bytes≤140737488355328) (hbase:base≤w.heap.size)
 (h:∀ v' w',w'.ownsRow base e 4 v' (n+1) (xs++[u0,u1,u2,u3])→w.grownBy w' v.ownBlock→w.heap.size<w'.heap.size→(v'.ownBlock=v.ownBlock∨v'.ownBlock=some (w.heap.size+1))→wpList P ops Q rest (a.put o.dst v') w') :
 wpList P ops Q (o :: rest) a (w.alloc (.cells #[u0,u1,u2,u3] T)):=by
 subst hnb
 refine wpList_plain hgd fun _ hK=>?_
 have hnews:∀ j y,[u0,u1,u2,u3][j]? = some y→(w.alloc (.cells #[u0,u1,u2,u3] T)).cell? ((⟨w.heap.size,0,none⟩:Addr).add j)=some y:=by
  intro j y hj
  have hb:(w.alloc (.cells #[u0,u1,u2,u3] T)).heap[w.heap.size]? = some (.cells #[u0,u1,u2,u3] T (0,0)):=heap_alloc_new w _
  have e:(⟨w.heap.size,0,none⟩:Addr).add j=⟨w.heap.size,j,none⟩:=by unfold Addr.add; split <;> simp_all
  rw [e]
  unfold World.cell?
  rw [hb]
  match j,hj with
  | 0,hj=>exact hj
  | 1,hj=>exact hj
  | 2,hj=>exact hj
  | 3,hj=>exact hj
 obtain⟨v',w',hr,h2,h3,-,h5⟩:=run_append_own_at (P:=P) (w:=w.alloc (.cells #[u0,u1,u2,u3] T)) base t o.type e i z 4 bytes ht hi hz hsize hby hzs (by decide) v n xs (hown.alloc _) ⟨w.heap.size,0,none⟩ 1 1 [u0,u1,u2,u3] rfl hnews h1 h63 hbytes (by simp; omega)
 rw [World.size_alloc] at h5
 have h6:w.heap.size<w'.heap.size:=by have:=h3.size; rw [World.size_alloc] at this; omega
 unfold Oper.wp execOp
 simp only [ho,resolve,invoke,builtin,Sem.run_bind,Sem.run_pure,Result.andThen_ok,List.map_toArray,List.map_cons,List.map_nil,hs,hx,hr]
 exact hK _ _ (h v' w' h2 (grown_trans (World.grownBy_alloc w _ _) h3) h6 h5)
def InRow (base:Nat) (v:Value) (w:World) (b:Nat):Prop:=base≤b∧b<w.heap.size∧some b≠v.ownBlock
theorem own_vals {w:World}{base:Nat}{e:TypeId}{v:Value}{n:Nat}{l:List V}{cells:List Value}(h:w.ownsRow base e 4 v n cells) (hr:RowOf w (InRow base v w) l cells) :
 ∃ a c,v = .slice a l.length c∧l.length≤c∧(a=none→c=0)∧VAll w (fun b=>base≤b∧b<w.heap.size) a 0 l:=by
 have hn:n=l.length:=by have:=h.1; rw [hr.length] at this; omega
 have hlt:=h.lt
 have hr2:RowOf w (fun b=>base≤b∧b<w.heap.size) l cells:=hr.move (fun b hb=>⟨hb.1,hb.2.1⟩) (fun _ _=>rfl)
 rcases h.2 with ⟨hv,hl⟩ | ⟨g,c,cur,hv,hg,hh,hnc,_⟩
 ·subst hv
  have hl0:l=[]:=List.eq_nil_of_length_eq_zero (by omega)
  subst hl0
  exact⟨none,0,rfl,Nat.le_refl _,fun _=>rfl,by simp only [VAll]⟩
 ·subst hv
  subst hn
  obtain⟨h1,h2⟩:=hlt g rfl
  refine⟨some ⟨g,0,none⟩,c,rfl,hnc,(fun e=>by cases e),RowOf.all ⟨h1,h2⟩ hr2 fun j u hj=>?_⟩
  have:=h.cells (g:=g) rfl j u hj
  have e:(⟨g,0,none⟩:Addr).add j=⟨g,j,none⟩:=by unfold Addr.add; split <;> simp_all
  rwa [e] at this
theorem row_kept {w w':World}{base r:Nat}{e:TypeId}{v:Value}{n:Nat}{l:List V}{cells:List Value}(h:w.ownsRow base e 4 v n cells) (hr:RowOf w (InRow base v w) l cells) (hg:w.grownBy w' (some r)) (hrb:r<base) :
 w'.ownsRow base e 4 v n cells∧RowOf w' (InRow base v w') l cells:=by
 refine⟨h.kept hg ?_,hr.move (fun b hb=>⟨hb.1,Nat.lt_of_lt_of_le hb.2.1 hg.size,hb.2.2⟩) fun b hb=>hg.block b hb.2.1 (by simp; have:=hb.1; omega)⟩
 by_cases hv:v.ownBlock=some r
 ·have:=(h.lt r hv).1; omega
 ·exact .inr hv
theorem row_snoc {w w1 w2:World}{base:Nat}{e:TypeId}{v v':Value}{n:Nat}{l:List V}{cells cs:List Value}{x:V}
 (h:w1.ownsRow base e 4 v n cells) (hr:RowOf w1 (InRow base v w1) l cells) (hx:V.At w1 (fun b=>w.heap.size≤b∧b<w1.heap.size) x cs) (hb:base≤w.heap.size) (hvl:∀ k,v.ownBlock=some k→k<w.heap.size)
 (hg:w1.grownBy w2 v.ownBlock) (ho:v'.ownBlock=v.ownBlock∨∃ k,v'.ownBlock=some k∧w1.heap.size≤k):RowOf w2 (InRow base v' w2) (l++[x]) (cells++cs):=by
 have hne:∀ b,b<w1.heap.size→some b≠v.ownBlock→some b≠v'.ownBlock:=by
  intro b hb1 hb2 e
  rcases ho with ho | ⟨k,ho,hk⟩
  ·exact hb2 (e.trans ho)
  ·rw [ho] at e; cases e; omega
 refine .snoc (hr.move (fun b hb=>⟨hb.1,Nat.lt_of_lt_of_le hb.2.1 hg.size,hne b hb.2.1 hb.2.2⟩) fun b hb=>hg.block b hb.2.1 hb.2.2) ?_
 have hv:∀ b,w.heap.size≤b→some b≠v.ownBlock:=fun b hb e=>by have:=hvl b e.symm; omega
 exact V.At.move (fun b hb2=>⟨Nat.le_trans hb hb2.1,Nat.lt_of_lt_of_le hb2.2 hg.size,hne b hb2.2 (hv b hb2.1)⟩) (fun b hb2=>hg.block b hb2.2 (hv b hb2.1)) _ _ hx
theorem grown_own {w w1 w2:World}{row ro:Option Nat}(h:w.grownBy w1 row) (k:w1.grownBy w2 ro) (hb:∀ b,ro=some b→w.heap.size≤b):w.grownBy w2 row :=
 ⟨k.os.trans h.os,k.tape.trans h.tape,k.output.trans h.output,Nat.le_trans h.size k.size,fun i hi hr=>(k.block i (Nat.lt_of_lt_of_le hi h.size) (fun e=>by have:=hb i e.symm; omega)).trans (h.block i hi hr)⟩
end Go.Proofs.YtlpgbmaoenncjaaGreatDoor
namespace Go.Proofs.YtlpgbmaoenncjaaGreatDoor
open Go.RowKit
set_option linter.unusedVariables false
def Stop (p:Prop):Prop:=p
theorem Stop.go {p:Prop}(h:Stop p):p:=h
set_option maxRecDepth 20000 in
set_option maxHeartbeats 4000000 in
theorem value_list (r:Nat) (s:ByteArray) (k:Int) (a m:Nat) (w:World) (h:RdAt w r s a m 0) (hs:s.size≤131072) (h1:a<s.size) (hb:s[a]=108) (hk:k<30) (hk0:0≤k) (hm:m<4000)
 (rd:Nat→Nat→Rd) (hgood:Hid (∀ a m,m≤4000→Rd.Good s a (rd a m)))
 (IH:Hid (∀ (a m:Nat) (w:World),RdAt w r s a m 0→a≤s.size→m≤4000→Calls Tryz.prog 92 #[.pointer (some ⟨r,0,none⟩),.int .i64 (k+1)] w (ValPost r s w (rd a m))))
 (x:Rd) (hx:Hid (x=rdList rd s (s.size+1 - (a+1)) (a+1) (m+1) [])) :
 Calls Tryz.prog 92 #[.pointer (some ⟨r,0,none⟩),.int .i64 k] w (ValPost r s w x):=by
 obtain⟨i0,hi0,hz0,hz1,hz2⟩:=infoV
 have HI:=Lib.hid hi0
 have HZ:=Lib.hid (And.intro hz0 (And.intro hz1 hz2))
 have H:=Lib.hid h
 have h2:=h.alloc (.cells #[.int .i64 0,.int .i64 0,.string ⟨#[]⟩,.slice none 0 0] 70)
 have c0:=h2.c0
 have c1:=h2.c1
 have c2:=h2.c2
 have f1:=h2.free 1 (by decide)
 have f2:=h2.free 2 (by decide)
 have hmi:(m:Int)<4000:=by omega
 have hi:(a:Int)<(s.size:Int):=by omega
 have q1:((s[a].toNat:Int) != 105)=true:=by rw [hb]; rfl
 have q2:((s[a].toNat:Int) != 108)=false:=by rw [hb]; rfl
 have q3:((s[a].toNat:Int)==105)=false:=by rw [hb]; rfl
 have q4:((s[a].toNat:Int)==108)=true:=by rw [hb]; rfl
 clear h h2 hb hi0 hz0 hz1 hz2
 go_enter Tryz.func92,Tryz.ntmps92
 go_wp2_with fail
 go_quiet (fail)
 revert nq
 intro nqa
 go_wp2_with fail
 go_quiet (fail)
 revert nq
 intro nqb
 go_wp2_with fail
 have hsz:(w.alloc (.cells #[.int .i64 0,.int .i64 0,.string ⟨#[]⟩,.slice none 0 0] 70)).heap.size=w.heap.size+1:=by simp
 have HF0:=Lib.hid (Four.new w 70 (.int .i64 0) (.int .i64 0) (.string ⟨#[]⟩) (.slice none 0 0))
 have HG0:Hid (w.grownBy (w.alloc (.cells #[.int .i64 0,.int .i64 0,.string ⟨#[]⟩,.slice none 0 0] 70)) (some r)):=Lib.hid (World.grownBy_alloc w _ _)
 have HR0:=Lib.hid (H.out.alloc (.cells #[.int .i64 0,.int .i64 0,.string ⟨#[]⟩,.slice none 0 0] 70))
 clear c0 c1 c2 f1 f2
 generalize (w.alloc (.cells #[.int .i64 0,.int .i64 0,.string ⟨#[]⟩,.slice none 0 0] 70))=w3 at *
 have HG5:Hid (w.grownBy (((w3.drewN (nqa+nqb)).setCell ⟨r,2,none⟩ (.int .i64 ((m:Int)+1))).setCell ⟨r,1,none⟩ (.int .i64 ((a:Int)+1))) (some r)):=Lib.hid (grown_trans HG0.out (grown_drew_l (grown_trans (grown_setCell _ _ _ _) (grown_setCell _ _ _ _))))
 have HF5:Hid (Four (((w3.drewN (nqa+nqb)).setCell ⟨r,2,none⟩ (.int .i64 ((m:Int)+1))).setCell ⟨r,1,none⟩ (.int .i64 ((a:Int)+1))) w.heap.size 70 (.int .i64 0) (.int .i64 0) (.string ⟨#[]⟩) (.slice none 0 0)):=Lib.hid ((HF0.out.drewN _).kept (grown_trans (grown_setCell _ _ _ _) (grown_setCell _ _ _ _)) (by have:=H.out.lt; simp; omega))
 have HR5:Hid (RdAt (((w3.drewN (nqa+nqb)).setCell ⟨r,2,none⟩ (.int .i64 ((m:Int)+1))).setCell ⟨r,1,none⟩ (.int .i64 ((a:Int)+1))) r s ((a+1:Nat):Int) ((m+1:Nat):Int) 0):=Lib.hid (by have:=((HR0.out.drewN (nqa+nqb)).setMany ((m:Int)+1)).setAt ((a:Int)+1); rw [Int.natCast_add,Int.natCast_add]; exact this)
 have hsz5:(((w3.drewN (nqa+nqb)).setCell ⟨r,2,none⟩ (.int .i64 ((m:Int)+1))).setCell ⟨r,1,none⟩ (.int .i64 ((a:Int)+1))).heap.size=w.heap.size+1:=by simp; exact hsz
 have hrw:r<w.heap.size:=H.out.lt
 clear HG0 HF0 HR0 hsz
 generalize (((w3.drewN (nqa+nqb)).setCell ⟨r,2,none⟩ (.int .i64 ((m:Int)+1))).setCell ⟨r,1,none⟩ (.int .i64 ((a:Int)+1)))=w5 at *
 have HF6:=Lib.hid (HF5.out.alloc (.cells #[.int .i64 3,.int .i64 0,.string ⟨#[]⟩,.slice none 0 0] 70))
 have HR6:=Lib.hid (HR5.out.alloc (.cells #[.int .i64 3,.int .i64 0,.string ⟨#[]⟩,.slice none 0 0] 70))
 have HB6:Hid (Four (w5.alloc (.cells #[.int .i64 3,.int .i64 0,.string ⟨#[]⟩,.slice none 0 0] 70)) (w.heap.size+1) 70 (.int .i64 3) (.int .i64 0) (.string ⟨#[]⟩) (.slice none 0 0)):=Lib.hid (by rw [← hsz5]; exact Four.new w5 _ _ _ _ _)
 have HG6:Hid (w.grownBy (w5.alloc (.cells #[.int .i64 3,.int .i64 0,.string ⟨#[]⟩,.slice none 0 0] 70)) (some r)):=Lib.hid (grown_trans HG5.out (World.grownBy_alloc _ _ _))
 have hsz6:(w5.alloc (.cells #[.int .i64 3,.int .i64 0,.string ⟨#[]⟩,.slice none 0 0] 70)).heap.size=w.heap.size+2:=by simp; omega
 clear HF5 HR5 HG5 hsz5
 generalize (w5.alloc (.cells #[.int .i64 3,.int .i64 0,.string ⟨#[]⟩,.slice none 0 0] 70))=w6 at *
 have hdd:decide (s.size≤a)=false:=by simp; omega
 (try simp only [hdd])
 clear hdd
 go_loopg [] (s.size+1 - (a+1)) (fun gk wr=>∃ (a' m':Nat) (acc:List V) (cells:List Value) (va:Option Addr) (vc:Nat),s.size<gk+a'∧a'≤s.size∧m'≤4000∧acc.length≤a'∧w.heap.size+2≤wr.heap.size∧Hid (RdAt wr r s (a':Int) (m':Int) 0)∧Hid (Four wr w.heap.size 70 (.int .i64 0) (.int .i64 0) (.string ⟨#[]⟩) (.slice none 0 0))
  ∧ Hid (Four wr (w.heap.size+1) 70 (.int .i64 3) (.int .i64 0) (.string ⟨#[]⟩) (.slice va acc.length vc))∧Hid (wr.ownsRow (w.heap.size+2) 70 4 (.slice va acc.length vc) acc.length cells)∧Hid (RowOf wr (InRow (w.heap.size+2) (.slice va acc.length vc) wr) acc cells)∧Hid (w.grownBy wr (some r))∧Hid (x=rdList rd s gk a' m' acc))
 case atStart=>exact⟨a+1,m+1,[],[],none,0,by omega,by omega,by omega,Nat.zero_le _,by omega,HR6,HF6,HB6,Lib.hid (World.ownsRow_nil _ _ _ _),Lib.hid .nil,HG6,hx⟩
 case round =>
  obtain⟨a',m',acc,cells,va,vc,hgk,ha',hm',hacc,hsz,hR,hF,hB,hO,hRow,hG,hX⟩:=hrel
  clear hx
  have d0:=hR.out.c0
  have d1:=hR.out.c1
  have k1:=hR.out.free 1 (by decide)
  have b0':=hF.out.c0
  have b1':=hF.out.c1
  have b2':=hF.out.c2
  have b3':=hF.out.c3
  have g0:=hF.out.free 0
  have g1:=hF.out.free 1
  have g2:=hF.out.free 2
  have g3:=hF.out.free 3
  have e0:=hB.out.c0
  have e1:=hB.out.c1
  have e2:=hB.out.c2
  have e3:=hB.out.c3
  obtain⟨f,rfl⟩:∃ f,gk=f+1:=⟨gk - 1,by omega⟩
  have hst:=hX.out
  rw [rdList] at hst
  clear hX
  by_cases hend:s.data.toList[a']? = some 101
  ·rw [if_pos hend] at hst
   have hlt:a'<s.size:=at_some hend
   have hlti:(a':Int)<(s.size:Int):=by omega
   rw [at_lt hlt] at hend
   have hc:((s[a'].toNat:Int) != 101)=false:=by rw [Option.some.inj hend]; rfl
   have HST:=Lib.hid hst
   clear hend hst
   go_wp2_with fail
   go_quiet (fail)
   go_wp2_with fail
   have HF:Hid (Four ((wr.drewN nq).setCell ⟨r,1,none⟩ (.int .i64 ((a':Int)+1))) w.heap.size 70 (.int .i64 0) (.int .i64 0) (.string ⟨#[]⟩) (.slice none 0 0)):=Lib.hid ((hF.out.drewN _).kept (grown_setCell _ _ _ _) (by simp; omega))
   have HR:Hid (RdAt ((wr.drewN nq).setCell ⟨r,1,none⟩ (.int .i64 ((a':Int)+1))) r s ((a'+1:Nat):Int) (m':Int) 0):=Lib.hid (by rw [Int.natCast_add]; exact (hR.out.drewN _).setAt _)
   have hg9:=grown_drew_l (grown_setCell (wr.drewN nq) r 1 (.int .i64 ((a':Int)+1)))
   have HG:=Lib.hid (grown_trans hG.out hg9)
   obtain⟨hO9,hRow9⟩:=row_kept hO.out hRow.out hg9 (by omega)
   have HO:=Lib.hid hO9
   have HRow:=Lib.hid hRow9
   clear hO9 hRow9 hg9
   generalize ((wr.drewN nq).setCell ⟨r,1,none⟩ (.int .i64 ((a':Int)+1)))=w9 at *
   have HF2:=HF.out.all (.int .i64 3) (.int .i64 0) (.string ⟨#[]⟩) (.slice va acc.length vc)
   have hgf:=grown_four w9 w.heap.size (.int .i64 3) (.int .i64 0) (.string ⟨#[]⟩) (.slice va acc.length vc)
   clear b0' b1' b2' b3' g0 g1 g2 g3 d0 d1 k1 e0 e1 e2 e3
   generalize ((((w9.setCell ⟨w.heap.size,0,none⟩ (.int .i64 3)).setCell ⟨w.heap.size,1,none⟩ (.int .i64 0)).setCell ⟨w.heap.size,2,none⟩ (.string ⟨#[]⟩)).setCell ⟨w.heap.size,3,none⟩ (.slice va acc.length vc))=w10 at *
   have e0:=HF2.c0
   have e1:=HF2.c1
   have e2:=HF2.c2
   have e3:=HF2.c3
   (try simp only [Exit.inBlock,Exit.then])
   refine bodyPost_ret (v:=.tuple #[.agg #[.int .i64 3,.int .i64 0,.string ⟨#[]⟩,.slice va acc.length vc],.bool true]) ?_ rfl ?_
   ·rw [results_cell_tmp rfl]; go_simp
   ·rw [HST.out]
    obtain⟨h1,h2⟩:=row_kept HO.out HRow.out hgf (by omega)
    obtain⟨a1,c1,h3,h4,h5,h6⟩:=own_vals h1 h2
    cases h3
    refine⟨_,rfl,?_,HR.out.kept hgf (by simp; omega),grown_fresh HG.out hgf (Nat.le_refl _)⟩
    simp only [V.At]
    exact⟨va,vc,rfl,h4,h5,VAll.move (fun b (hb:_∧_)=>⟨by omega,hb.2⟩) (fun _ _=>rfl) _ _ _ h6⟩
  ·rw [if_neg hend] at hst
   have hcall:=IH.out a' m'
   have hgd:=hgood.out a' m' hm'
   generalize rd a' m'=y at *
   have HST:=Lib.hid hst
   have HC:=Lib.hid hcall
   have HGD:=Lib.hid hgd
   clear hst hcall hgd
   have hways:((s.size:Int)≤(a':Int))∨∃ h:a'<s.size,(a':Int)<(s.size:Int)∧((s[a'].toNat:Int) != 101)=true:=by
    rcases Nat.lt_or_ge a' s.size with h | h
    ·refine .inr ⟨h,by omega,?_⟩
     rw [at_lt h] at hend
     rw [bne_iff_ne]; intro e
     exact hend (congrArg some (UInt8.toNat_inj.1 (by show s[a'].toNat=101; omega)))
    ·exact .inl (by omega)
   clear hend
   rcases hways with hw1 | ⟨hlt,hw1,hw2⟩
   all_goals
    go_wp2_with fail
    go_quiet (fail)
    go_wp2_with fail
    refine (HC.out _ (hR.out.drewN _) ha' hm').mono ?_
    rintro e w1 ⟨cs,rfl,hat,hr1,hg1⟩
    obtain⟨⟨vk,vn,vs,vl⟩,yok,yat,ym,ybad⟩:=y
    have hat':=hat
    simp only [V.At] at hat
    obtain⟨xa,xc,rfl,hxl,hxn,hxall⟩:=hat
    clear hxall hxn hxl
    have HAT:=Lib.hid hat'
    have hgw:=grown_drew_l hg1
    obtain⟨hO1,hRow1⟩:=row_kept hO.out hRow.out hgw (by omega)
    have HO1:=Lib.hid hO1
    have HRow1:=Lib.hid hRow1
    have HF1:=Lib.hid (hF.out.kept hgw (by simp; omega))
    have HB1:=Lib.hid (hB.out.kept hgw (by simp; omega))
    have HG1:=Lib.hid (grown_trans hG.out hgw)
    have HR1:=Lib.hid hr1
    have hvl:=hO.out.lt
    have hvl1:∀ k,(Value.slice va acc.length vc).ownBlock=some k→k<wr.heap.size:=fun k hk=>(hvl k hk).2
    have hsz1:w.heap.size+2≤w1.heap.size:=Nat.le_trans hsz hg1.size
    have hszw:wr.heap.size≤w1.heap.size:=hgw.size
    have HVL:=Lib.hid hvl1
    clear hat' hgw hO1 hRow1 hr1 hg1 hvl hvl1 b0' b1' b2' b3' g0 g1 g2 g3 d0 d1 k1 e0 e1 e2 e3
    have HF2:=Lib.hid (HF1.out.alloc (.cells #[.int .i64 vk,.int .i64 vn,.string vs,.slice xa vl.length xc] 70))
    have HB2:=Lib.hid (HB1.out.alloc (.cells #[.int .i64 vk,.int .i64 vn,.string vs,.slice xa vl.length xc] 70))
    have HR2:=Lib.hid (HR1.out.alloc (.cells #[.int .i64 vk,.int .i64 vn,.string vs,.slice xa vl.length xc] 70))
    have HG2:=Lib.hid (grown_trans HG1.out (World.grownBy_alloc w1 (.cells #[.int .i64 vk,.int .i64 vn,.string vs,.slice xa vl.length xc] 70) (some r)))
    have HN2:=Lib.hid (Four.new w1 70 (.int .i64 vk) (.int .i64 vn) (.string vs) (.slice xa vl.length xc))
    have b0:=HF2.out.c0
    have b1:=HF2.out.c1
    have b2:=HF2.out.c2
    have b3:=HF2.out.c3
    have g0:=HF2.out.free 0
    have g1:=HF2.out.free 1
    have g2:=HF2.out.free 2
    have g3:=HF2.out.free 3
    have e3:=HB2.out.c3
    have k3:=HB2.out.free 3
    have n0:=HN2.out.c0
    have n1:=HN2.out.c1
    have n2:=HN2.out.c2
    have n3:=HN2.out.c3
    cases yok with
    | false =>
      go_wp2_with fail
      have HST2:Hid (x=Rd.no yat ym ybad):=Lib.hid (by rw [HST.out]; rfl)
      have HF3:=HF2.out.all (.int .i64 0) (.int .i64 0) (.string ⟨#[]⟩) (.slice none 0 0)
      have hgf:=grown_four (w1.alloc (.cells #[.int .i64 vk,.int .i64 vn,.string vs,.slice xa vl.length xc] 70)) w.heap.size (.int .i64 0) (.int .i64 0) (.string ⟨#[]⟩) (.slice none 0 0)
      clear b0 b1 b2 b3 g0 g1 g2 g3 e3 k3 n0 n1 n2 n3
      generalize (w1.alloc (.cells #[.int .i64 vk,.int .i64 vn,.string vs,.slice xa vl.length xc] 70))=w9 at *
      generalize ((((w9.setCell ⟨w.heap.size,0,none⟩ (.int .i64 0)).setCell ⟨w.heap.size,1,none⟩ (.int .i64 0)).setCell ⟨w.heap.size,2,none⟩ (.string ⟨#[]⟩)).setCell ⟨w.heap.size,3,none⟩ (.slice none 0 0))=w10 at *
      have e0:=HF3.c0
      have e1:=HF3.c1
      have e2:=HF3.c2
      have e3:=HF3.c3
      (try simp only [Exit.inBlock,Exit.then])
      refine bodyPost_ret (v:=.tuple #[.agg #[.int .i64 0,.int .i64 0,.string ⟨#[]⟩,.slice none 0 0],.bool false]) ?_ rfl ?_
      ·rw [results_cell_tmp rfl]; go_simp
      ·rw [HST2.out]
       exact⟨_,rfl,zeroV_at _ _,HR2.out.kept hgf (by simp; omega),grown_fresh HG2.out hgf (Nat.le_refl _)⟩
    | true =>
      obtain⟨hbad,hyat,hyat2,hym⟩:=HGD.out rfl
      dsimp only at hbad hyat hyat2 hym
      subst hbad
      have h4:∀ u∈[Value.int .i64 vk,.int .i64 vn,.string vs,.slice xa vl.length xc],u.oneCell'=true:=HAT.out.four.2
      have H4:=Lib.hid h4
      have HY:=Lib.hid (And.intro hyat (And.intro hyat2 hym))
      clear hyat hyat2 hym h4
      go_wp2_with (at_builtin; refine Stop.go ?_)
      unfold Stop
      refine wpList_app4 _ rfl _ _ 68 rfl (w.heap.size+2) 70 i0 _ 56 underV HI.out HZ.out.1 HZ.out.2.1 HZ.out.2.2 rfl _ acc.length cells (HO1.out.alloc _) rfl _ _ _ _ _ (w1.heap.size+1) (by simp) rfl H4.out (by unfold maxLen; omega) (by omega) (by simp; omega) ?_
      intro v3 w3 ho3 hg3 hs3 hob
      generalize hw2:w1.alloc (.cells #[.int .i64 vk,.int .i64 vn,.string vs,.slice xa vl.length xc] 70)=w2 at *
      have hgw2:∀ row,w1.grownBy w2 row:=fun row=>hw2 ▸ World.grownBy_alloc w1 _ row
      obtain⟨hO2,hRow2⟩:=row_kept HO1.out HRow1.out (hgw2 (some r)) (by omega)
      have hsz2:=(hgw2 none).size
      have hlt2:=hO2.lt
      have hat2:V.At w2 (fun b=>wr.heap.size≤b∧b<w2.heap.size) (.mk vk vn vs vl) [.int .i64 vk,.int .i64 vn,.string vs,.slice xa vl.length xc]:=V.At.move (fun b (hb:_∧_)=>⟨hb.1,Nat.lt_of_lt_of_le hb.2 hsz2⟩) (fun b (hb:_∧_)=>(hgw2 none).block b hb.2 (by simp)) _ _ HAT.out
      have hrow3:RowOf w3 (InRow (w.heap.size+2) v3 w3) (acc++[.mk vk vn vs vl]) (cells++[.int .i64 vk,.int .i64 vn,.string vs,.slice xa vl.length xc]):=row_snoc hO2 hRow2 hat2 hsz HVL.out hg3 (hob.imp id fun e=>⟨_,e,by omega⟩)
      obtain⟨a3,c3,rfl,-⟩:=own_vals ho3 hrow3
      have hne:∀ b,b<w.heap.size+2→some b≠(Value.slice va acc.length vc).ownBlock:=fun b hb e=>by have:=(hlt2 b e.symm).1; omega
      have HF3:=Lib.hid (HF2.out.kept hg3 (hne _ (by omega)))
      have HB3:=Lib.hid (HB2.out.kept hg3 (hne _ (by omega)))
      have HR3:=Lib.hid (HR2.out.kept hg3 (hne _ (by omega)))
      have HG3:=Lib.hid (grown_own HG2.out hg3 (fun b e=>by have:=(hlt2 b e).1; omega))
      have hlen:(acc++[V.mk vk vn vs vl]).length=acc.length+1:=by simp
      rw [hlen] at ho3 hrow3
      have HO3:=Lib.hid ho3
      have HRow3:=Lib.hid hrow3
      have hsz3:w.heap.size+2≤w3.heap.size:=by omega
      have HLEN:=Lib.hid hlen
      clear b0 b1 b2 b3 g0 g1 g2 g3 e3 k3 n0 n1 n2 n3 ho3 hrow3 hg3 hob hat2 hO2 hRow2 hlt2 hgw2 hw2 hne hs3 hlen
      have e3:=HB3.out.c3
      have k3:=HB3.out.free 3
      go_wp2_with fail
      go_roundg f
      case rel =>
       have hg4:=grown_setCell w3 (w.heap.size+1) 3 (.slice a3 (acc.length+1) c3)
       obtain⟨h5,h6⟩:=row_kept HO3.out HRow3.out hg4 (by omega)
       refine⟨yat,ym,acc++[.mk vk vn vs vl],cells++[.int .i64 vk,.int .i64 vn,.string vs,.slice xa vl.length xc],a3,c3,?_,?_,?_,?_,?_,Lib.hid (HR3.out.kept hg4 (by simp; omega)),Lib.hid (HF3.out.kept hg4 (by simp)),?_,?_,?_,Lib.hid (grown_fresh HG3.out hg4 (by omega)),?_⟩
       ·have:=HY.out; omega
       ·exact HY.out.2.1
       ·exact HY.out.2.2
       ·rw [HLEN.out]; have:=HY.out; omega
       ·simp; exact hsz3
       ·rw [HLEN.out]; exact Lib.hid (HB3.out.set3 _)
       ·rw [HLEN.out]; exact Lib.hid h5
       ·rw [HLEN.out]; exact Lib.hid h6
       ·exact Lib.hid (by rw [HST.out]; rfl)
      case measure=>omega
end Go.Proofs.YtlpgbmaoenncjaaGreatDoor
namespace Go.Proofs.YtlpgbmaoenncjaaGreatDoor
open Go.RowKit
set_option linter.unusedVariables false
theorem value_text (r:Nat) (s:ByteArray) (k:Int) (a m:Nat) (w:World) (h:RdAt w r s a m 0) (hs:s.size≤131072) (h1:a<s.size) (hb:48≤s[a].toNat∧s[a].toNat≤57) (hk:k<30) (hm:m<4000) :
 Calls Tryz.prog 92 #[.pointer (some ⟨r,0,none⟩),.int .i64 k] w (ValPost r s w (rdText s a (m+1))):=by
 unfold rdText
 have hok:=digitsL_ok s 131072 a (by decide) (s.size+1 - a) 0 a (Nat.le_refl _) (Nat.zero_le _)
 have hx:Hid (digitsL s 131072 a (s.size+1 - a) 0 a=digitsL s 131072 a (s.size+1 - a) 0 a):=Lib.hid rfl
 generalize hg:digitsL s 131072 a (s.size+1 - a) 0 a=x at *
 rw [← hg] at hx
 obtain⟨x1,x2,x3,x4⟩:=x
 dsimp only at *
 cases x2 with
 | false=>exact value_text_a r s k a m w h hs h1 hb hk hm x1 x3 x4 (Lib.hid hg.symm)
 | true =>
   rw [if_pos rfl]
   obtain⟨hx4,hx1,-,hx3⟩:=hok rfl
   subst hx4
   have hma:=mustL_at s x3 58
   have hmo:=mustL_ok s x3 58
   generalize hh:mustL s x3 58=y at *
   obtain⟨y1,y2,y3⟩:=y
   dsimp only at *
   cases y1 with
   | false=>exact value_text_b r s k a m w h hs h1 hb hk hm x1 x3 (Lib.hid hg.symm) y2 y3 (Lib.hid hh.symm)
   | true =>
     rw [if_pos rfl]
     obtain⟨hy2,hy3⟩:=hma rfl
     have hy4:=hmo rfl
     subst hy4
     by_cases hn:s.size - y2<x1
     ·rw [if_pos hn]
      exact value_text_c r s k a m w h hs h1 hb hk hm x1 x3 (Lib.hid hg.symm) y2 (Lib.hid hh.symm) (by omega) hx1 hn
     ·rw [if_neg hn]
      exact value_text_d r s k a m w h hs h1 hb hk hm x1 x3 (Lib.hid hg.symm) y2 (Lib.hid hh.symm) (by omega) hx1 (by omega)
theorem value_any (r:Nat) (s:ByteArray) (hs:s.size≤131072):∀ (d:Nat) (k:Int),k+(d:Int)=30→0≤k→∀ (a m:Nat) (w:World),RdAt w r s a m 0→a≤s.size→m≤4000 →
 Calls Tryz.prog 92 #[.pointer (some ⟨r,0,none⟩),.int .i64 k] w (ValPost r s w (rdValue s d a m))
 | 0,k,hk,hk0,a,m,w,h,ha,hm=>by
   rw [rdValue]
   by_cases h1:a<s.size
   ·rw [at_lt h1]
    dsimp only
    cases hb:begins s[a] with
    | true=>rw [if_pos rfl]; exact value_deep r s k a m w h hs h1 hb (by omega)
    | false=>exact value_byte r s k a m w h hs h1 hb
   ·rw [at_ge h1]; exact value_end r s k a m w h hs h1
 | d+1,k,hk,hk0,a,m,w,h,ha,hm=>by
   rw [rdValue]
   by_cases h1:a<s.size
   ·rw [at_lt h1]
    dsimp only
    cases hb:begins s[a] with
    | false=>exact value_byte r s k a m w h hs h1 hb
    | true =>
      rw [if_pos rfl]
      by_cases h2:4000≤m
      ·rw [if_pos h2]; exact value_long r s k a m w h hs h1 hb (by omega) h2
      ·rw [if_neg h2]
       by_cases h3:s[a]=105
       ·rw [if_pos h3]; exact value_number r s k a m w h hs h1 h3 (by omega) (by omega)
       ·rw [if_neg h3]
        by_cases h4:s[a]=108
        ·rw [if_pos h4]
         exact value_list r s k a m w h hs h1 h4 (by omega) hk0 (by omega) (rdValue s d) (Lib.hid (rdValue_good s d)) (Lib.hid (value_any r s hs d (k+1) (by omega) (by omega))) _ (Lib.hid rfl)
        ·rw [if_neg h4]
         refine value_text r s k a m w h hs h1 ?_ (by omega) (by omega)
         unfold begins at hb
         simpa [h3,h4] using hb
   ·rw [at_ge h1]; exact value_end r s k a m w h hs h1
end Go.Proofs.YtlpgbmaoenncjaaGreatDoor
