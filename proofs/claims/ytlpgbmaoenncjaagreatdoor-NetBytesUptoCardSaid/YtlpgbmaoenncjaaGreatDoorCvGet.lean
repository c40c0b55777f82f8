/-
  The walk of code.Get: any text is read as just that value, or refused.
-/
import Derived.Test.YtlpgbmaoenncjaaGreatDoorCvValue
import Derived.Below
namespace Go.Proofs.YtlpgbmaoenncjaaGreatDoor
open Go.RowKit
set_option linter.unusedVariables false
theorem results_cell_tmps {fn:Func}{p u v:Tmp}{ty:TypeId}(h:fn.results=#[.cell p ty,.tmp u,.tmp v]) (tmps:Array Value) (P:Program) (w:World) :
 (results fn tmps).run P w =
   ((asAddr (tmps.getD p undef)).run P w).andThen fun a w₁=>((loadVar ty a).run P w₁).andThen fun x w₂=>.ok (.tuple #[x,tmps.getD u undef,tmps.getD v undef]) w₂:=by
 simp only [results,h]
 simp [Sem.run_bind,Result.andThen]
structure Got where
 v:V
 bad:Int
 at_:Nat
def getL (s:ByteArray):Got :=
 if 131072<s.size then ⟨zeroV,2,0⟩
 else if (rdValue s 30 0 0).ok=true then (if (rdValue s 30 0 0).at_<s.size then ⟨zeroV,11,(rdValue s 30 0 0).at_⟩ else ⟨(rdValue s 30 0 0).v,0,0⟩)
 else ⟨zeroV,(rdValue s 30 0 0).bad,(rdValue s 30 0 0).at_⟩
def GetPost (w:World) (x:Got) (e:Ending) (w':World):Prop :=
 ∃ cs:List Value,e = .returned (.tuple #[.agg cs.toArray,.int .i64 x.bad,.int .i64 (x.at_:Int)])∧V.At w' (fun b=>w.heap.size≤b∧b<w'.heap.size) x.v cs∧Below w.heap.size w w'
set_option maxRecDepth 20000 in
set_option maxHeartbeats 4000000 in
theorem get_long (s:ByteArray) (w:World) (hm:s.size≤9223372036854775807) (h:131072<s.size) :
 Calls Tryz.prog 42 #[.string s] w (GetPost w ⟨zeroV,2,0⟩):=by
 have hi:(131072:Int)<(s.size:Int):=by omega
 have HF:Hid (Four (w.alloc (.cells #[.int .i64 0,.int .i64 0,.string ⟨#[]⟩,.slice none 0 0] 70)) w.heap.size 70 (.int .i64 0) (.int .i64 0) (.string ⟨#[]⟩) (.slice none 0 0)):=Lib.hid (Four.new w _ _ _ _ _)
 have HB:=Lib.hid ((Below.refl w.heap.size w).alloc (Nat.le_refl _) (.cells #[.int .i64 0,.int .i64 0,.string ⟨#[]⟩,.slice none 0 0] 70))
 have b0:=HF.out.c0
 have b1:=HF.out.c1
 have b2:=HF.out.c2
 have b3:=HF.out.c3
 have g0:=HF.out.free 0
 have g1:=HF.out.free 1
 have g2:=HF.out.free 2
 have g3:=HF.out.free 3
 go_enter Tryz.func42,Tryz.ntmps42
 go_wp2_with fail
 clear b0 b1 b2 b3 g0 g1 g2 g3
 generalize (w.alloc (.cells #[.int .i64 0,.int .i64 0,.string ⟨#[]⟩,.slice none 0 0] 70))=w9 at *
 have e0:=HF.out.c0
 have e1:=HF.out.c1
 have e2:=HF.out.c2
 have e3:=HF.out.c3
 (try simp only [Exit.inBlock,Exit.then])
 refine bodyPost_ret (v:=.tuple #[.agg #[.int .i64 0,.int .i64 0,.string ⟨#[]⟩,.slice none 0 0],.int .i64 2,.int .i64 0]) ?_ rfl ?_
 ·rw [results_cell_tmps rfl]; go_simp
 ·exact⟨_,rfl,zeroV_at _ _,HB.out⟩
set_option maxRecDepth 20000 in
set_option maxHeartbeats 4000000 in
theorem get_short (s:ByteArray) (w:World) (h:s.size≤131072) (y:Rd) (hy:Hid (y=rdValue s 30 0 0)) (g:Got) (hg:Hid (g=(if y.ok=true then (if y.at_<s.size then ⟨zeroV,11,y.at_⟩ else ⟨y.v,0,0⟩) else ⟨zeroV,y.bad,y.at_⟩))) :
 Calls Tryz.prog 42 #[.string s] w (GetPost w g):=by
 have hi:(s.size:Int)≤131072:=by omega
 have hcall:=Lib.hid (fun (w0:World) (h0:RdAt w0 (w.heap.size+1) s 0 0 0)=>hy.out ▸ value_any (w.heap.size+1) s h 30 0 (by decide) (by decide) 0 0 w0 h0 (Nat.zero_le _) (Nat.zero_le _))
 have hgood:=rdValue_good s 30 0 0 (by decide)
 rw [← hy.out] at hgood
 have HGD:=Lib.hid hgood
 clear hgood hy
 have HF0:Hid (Four (w.alloc (.cells #[.int .i64 0,.int .i64 0,.string ⟨#[]⟩,.slice none 0 0] 70)) w.heap.size 70 (.int .i64 0) (.int .i64 0) (.string ⟨#[]⟩) (.slice none 0 0)):=Lib.hid (Four.new w _ _ _ _ _)
 have HB0:=Lib.hid ((Below.refl w.heap.size w).alloc (Nat.le_refl _) (.cells #[.int .i64 0,.int .i64 0,.string ⟨#[]⟩,.slice none 0 0] 70))
 have hsz0:(w.alloc (.cells #[.int .i64 0,.int .i64 0,.string ⟨#[]⟩,.slice none 0 0] 70)).heap.size=w.heap.size+1:=by simp
 go_enter Tryz.func42,Tryz.ntmps42
 go_wp2_with fail
 have HF1:=Lib.hid (HF0.out.alloc (.cells #[.string s,.int .i64 0,.int .i64 0,.int .i64 0] 139))
 have HB1:=Lib.hid (HB0.out.alloc (by simp) (.cells #[.string s,.int .i64 0,.int .i64 0,.int .i64 0] 139))
 have HN1:=Four.new (w.alloc (.cells #[.int .i64 0,.int .i64 0,.string ⟨#[]⟩,.slice none 0 0] 70)) 139 (.string s) (.int .i64 0) (.int .i64 0) (.int .i64 0)
 have hsz1:((w.alloc (.cells #[.int .i64 0,.int .i64 0,.string ⟨#[]⟩,.slice none 0 0] 70)).alloc (.cells #[.string s,.int .i64 0,.int .i64 0,.int .i64 0] 139)).heap.size=w.heap.size+2:=by simp
 have hr1:RdAt ((w.alloc (.cells #[.int .i64 0,.int .i64 0,.string ⟨#[]⟩,.slice none 0 0] 70)).alloc (.cells #[.string s,.int .i64 0,.int .i64 0,.int .i64 0] 139)) (w.heap.size+1) s 0 0 0:=by
  rw [hsz0] at HN1
  exact⟨by rw [hsz1]; omega,HN1.c0,HN1.c1,HN1.c2,HN1.c3,fun j _=>HN1.free j⟩
 refine (hcall.out _ hr1).mono ?_
 rintro e w1 ⟨cs,rfl,hat,hr2,hg2⟩
 clear hr1 HN1 hcall HF0 HB0 hsz0
 have HF2:=Lib.hid (HF1.out.kept hg2 (by simp))
 have HB2:=Lib.hid (HB1.out.grown hg2 (by rw [hsz1]; omega) (fun k e=>by cases e; omega))
 have hsz2:=hg2.size
 have HR2:=Lib.hid hr2
 rw [hsz1] at hsz2
 clear hr2 hg2 HF1 HB1 hsz1
 obtain⟨⟨vk,vn,vs,vl⟩,yok,yat,ym,ybad⟩:=y
 have hat':=V.At.move (T:=fun b=>w.heap.size+1≤b∧b<w1.heap.size) (fun b (hb:_∧_)=>⟨by have:=hb.1; simp at this; omega,hb.2⟩) (fun _ _=>rfl) _ _ hat
 simp only [V.At] at hat
 obtain⟨xa,xc,rfl,-,-,-⟩:=hat
 have HAT:=Lib.hid hat'
 clear hat'
 have hst:=hg.out
 clear hg
 have HF3:=Lib.hid (HF2.out.alloc (.cells #[.int .i64 vk,.int .i64 vn,.string vs,.slice xa vl.length xc] 70))
 have HN3:=Lib.hid (Four.new w1 70 (.int .i64 vk) (.int .i64 vn) (.string vs) (.slice xa vl.length xc))
 have HR3:=Lib.hid (HR2.out.alloc (.cells #[.int .i64 vk,.int .i64 vn,.string vs,.slice xa vl.length xc] 70))
 have HB3:=Lib.hid (HB2.out.alloc (by omega) (.cells #[.int .i64 vk,.int .i64 vn,.string vs,.slice xa vl.length xc] 70))
 have HK:Hid (w1.grownBy (w1.alloc (.cells #[.int .i64 vk,.int .i64 vn,.string vs,.slice xa vl.length xc] 70)) none):=Lib.hid (World.grownBy_alloc w1 _ none)
 have b0:=HF3.out.c0
 have b1:=HF3.out.c1
 have b2:=HF3.out.c2
 have b3:=HF3.out.c3
 have g0:=HF3.out.free 0
 have g1:=HF3.out.free 1
 have g2:=HF3.out.free 2
 have g3:=HF3.out.free 3
 have n0:=HN3.out.c0
 have n1:=HN3.out.c1
 have n2:=HN3.out.c2
 have n3:=HN3.out.c3
 have d1:=HR3.out.c1
 have d3:=HR3.out.c3
 cases yok with
 | false =>
   have HST:Hid (g=⟨zeroV,ybad,yat⟩):=Lib.hid (by rw [hst]; rfl)
   clear hst
   go_wp2_with fail
   go_region
   (try simp only [Exit.then])
   go_wp2_with fail
   have HF4:=HF3.out.all (.int .i64 0) (.int .i64 0) (.string ⟨#[]⟩) (.slice none 0 0)
   have hgf:=grown_four (w1.alloc (.cells #[.int .i64 vk,.int .i64 vn,.string vs,.slice xa vl.length xc] 70)) w.heap.size (.int .i64 0) (.int .i64 0) (.string ⟨#[]⟩) (.slice none 0 0)
   have HB4:=Lib.hid (HB3.out.grown hgf (by simp; omega) (fun k e=>by cases e; exact Nat.le_refl _))
   clear b0 b1 b2 b3 g0 g1 g2 g3 n0 n1 n2 n3 d1 d3
   generalize (w1.alloc (.cells #[.int .i64 vk,.int .i64 vn,.string vs,.slice xa vl.length xc] 70))=w9 at *
   generalize ((((w9.setCell ⟨w.heap.size,0,none⟩ (.int .i64 0)).setCell ⟨w.heap.size,1,none⟩ (.int .i64 0)).setCell ⟨w.heap.size,2,none⟩ (.string ⟨#[]⟩)).setCell ⟨w.heap.size,3,none⟩ (.slice none 0 0))=w10 at *
   have HF4:Four w10.drew w.heap.size 70 (.int .i64 0) (.int .i64 0) (.string ⟨#[]⟩) (.slice none 0 0):=HF4
   have HB4:Hid (Below w.heap.size w w10.drew):=Lib.hid HB4.out.drew
   generalize w10.drew=w11 at *
   have e0:=HF4.c0
   have e1:=HF4.c1
   have e2:=HF4.c2
   have e3:=HF4.c3
   (try simp only [Exit.inBlock,Exit.then])
   refine bodyPost_ret (v:=.tuple #[.agg #[.int .i64 0,.int .i64 0,.string ⟨#[]⟩,.slice none 0 0],.int .i64 ybad,.int .i64 (yat:Int)]) ?_ rfl ?_
   ·rw [results_cell_tmps rfl]; go_simp
   ·rw [HST.out]; exact⟨_,rfl,zeroV_at _ _,HB4.out⟩
 | true =>
   obtain⟨hbad,hyat,hyat2,hym⟩:=HGD.out rfl
   dsimp only at hbad hyat hyat2 hym
   subst hbad
   by_cases hat:yat<s.size
   ·have HST:Hid (g=⟨zeroV,11,yat⟩):=Lib.hid (by rw [hst,if_pos rfl,if_pos hat])
    have hati:(yat:Int)<(s.size:Int):=by omega
    clear hst
    go_wp2_with fail
    refine (fail_any (w.heap.size+1) s (yat:Int) (ym:Int) 11 _ HR3.out).mono ?_
    rintro e w9 ⟨rfl,hr5,hg5⟩
    have HF5:=Lib.hid (HF3.out.kept hg5 (by simp))
    have HB5:=Lib.hid (HB3.out.grown hg5 (by simp; omega) (fun k e=>by cases e; omega))
    have HR5:=Lib.hid hr5
    have hsz5:=hg5.size
    rw [World.size_alloc] at hsz5
    clear hr5 hg5 b0 b1 b2 b3 g0 g1 g2 g3 d1 d3
    have b0:=HF5.out.c0
    have b1:=HF5.out.c1
    have b2:=HF5.out.c2
    have b3:=HF5.out.c3
    have g0:=HF5.out.free 0
    have g1:=HF5.out.free 1
    have g2:=HF5.out.free 2
    have g3:=HF5.out.free 3
    have d1:=HR5.out.c1
    have d3:=HR5.out.c3
    go_wp2_with fail
    go_region
    (try simp only [Exit.then])
    go_wp2_with fail
    have HF4:=HF5.out.all (.int .i64 0) (.int .i64 0) (.string ⟨#[]⟩) (.slice none 0 0)
    have hgf:=grown_four w9 w.heap.size (.int .i64 0) (.int .i64 0) (.string ⟨#[]⟩) (.slice none 0 0)
    have HB4:=Lib.hid (HB5.out.grown hgf (by omega) (fun k e=>by cases e; exact Nat.le_refl _))
    clear b0 b1 b2 b3 g0 g1 g2 g3 n0 n1 n2 n3 d1 d3
    generalize ((((w9.setCell ⟨w.heap.size,0,none⟩ (.int .i64 0)).setCell ⟨w.heap.size,1,none⟩ (.int .i64 0)).setCell ⟨w.heap.size,2,none⟩ (.string ⟨#[]⟩)).setCell ⟨w.heap.size,3,none⟩ (.slice none 0 0))=w10 at *
    have HF4:Four w10.drew w.heap.size 70 (.int .i64 0) (.int .i64 0) (.string ⟨#[]⟩) (.slice none 0 0):=HF4
    have HB4:Hid (Below w.heap.size w w10.drew):=Lib.hid HB4.out.drew
    generalize w10.drew=w11 at *
    have e0:=HF4.c0
    have e1:=HF4.c1
    have e2:=HF4.c2
    have e3:=HF4.c3
    (try simp only [Exit.inBlock,Exit.then])
    refine bodyPost_ret (v:=.tuple #[.agg #[.int .i64 0,.int .i64 0,.string ⟨#[]⟩,.slice none 0 0],.int .i64 11,.int .i64 (yat:Int)]) ?_ rfl ?_
    ·rw [results_cell_tmps rfl]; go_simp
    ·rw [HST.out]; exact⟨_,rfl,zeroV_at _ _,HB4.out⟩
   ·have HST:Hid (g=⟨.mk vk vn vs vl,0,0⟩):=Lib.hid (by rw [hst,if_pos rfl,if_neg hat])
    have hati:(s.size:Int)≤(yat:Int):=by omega
    clear hst
    go_wp2_with fail
    have HF4:=HF3.out.all (.int .i64 vk) (.int .i64 vn) (.string vs) (.slice xa vl.length xc)
    have hgf:=grown_four (w1.alloc (.cells #[.int .i64 vk,.int .i64 vn,.string vs,.slice xa vl.length xc] 70)) w.heap.size (.int .i64 vk) (.int .i64 vn) (.string vs) (.slice xa vl.length xc)
    have HB4:=Lib.hid (HB3.out.grown hgf (by simp; omega) (fun k e=>by cases e; exact Nat.le_refl _))
    clear b0 b1 b2 b3 g0 g1 g2 g3 n0 n1 n2 n3 d1 d3
    generalize (w1.alloc (.cells #[.int .i64 vk,.int .i64 vn,.string vs,.slice xa vl.length xc] 70))=w9 at *
    generalize ((((w9.setCell ⟨w.heap.size,0,none⟩ (.int .i64 vk)).setCell ⟨w.heap.size,1,none⟩ (.int .i64 vn)).setCell ⟨w.heap.size,2,none⟩ (.string vs)).setCell ⟨w.heap.size,3,none⟩ (.slice xa vl.length xc))=w10 at *
    have e0:=HF4.c0
    have e1:=HF4.c1
    have e2:=HF4.c2
    have e3:=HF4.c3
    (try simp only [Exit.inBlock,Exit.then])
    refine bodyPost_ret (v:=.tuple #[.agg #[.int .i64 vk,.int .i64 vn,.string vs,.slice xa vl.length xc],.int .i64 0,.int .i64 0]) ?_ rfl ?_
    ·rw [results_cell_tmps rfl]; go_simp
    ·rw [HST.out]; exact⟨_,rfl,V.At.move (fun b (hb:_∧_)=>⟨Nat.le_of_succ_le hb.1,Nat.lt_of_lt_of_le hb.2 (Nat.le_trans HK.out.size hgf.size)⟩) (fun b (hb:_∧_)=>(hgf.block b (Nat.lt_of_lt_of_le hb.2 HK.out.size) (by have:=hb.1; simp; omega)).trans (HK.out.block b hb.2 (by simp))) _ _ HAT.out,HB4.out⟩
theorem get_any (s:ByteArray) (w:World) (hm:s.size≤9223372036854775807):Calls Tryz.prog 42 #[.string s] w (GetPost w (getL s)):=by
 unfold getL
 by_cases h:131072<s.size
 ·rw [if_pos h]; exact get_long s w hm h
 ·rw [if_neg h]; exact get_short s w (by omega) _ (Lib.hid rfl) _ (Lib.hid rfl)
end Go.Proofs.YtlpgbmaoenncjaaGreatDoor
