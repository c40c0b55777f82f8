/-
  The walk of the reference's May: new blocks alone are made; the slices within reach. (Written by wip/mkmay.py.)
-/
import Derived.Test.YtlpgbmaoenncjaaGreatDoorNmD
import Derived.Test.YtlpgbmaoenncjaaGreatDoorGen
namespace Go.Proofs.YtlpgbmaoenncjaaGreatDoor
open Go.RowKit
set_option linter.unusedVariables false
set_option linter.unusedSimpArgs false
def b2i (b:Bool):Int:=if b=true then 1 else 0
def mayZ (kd fr ds tm ok ix lt cm nr ns nv rv al rg:Int):Prop:=(1≤kd∧kd≤5)∧(1≤fr∧fr≤9)∧(1≤ds∧ds≤9)∧fr≠ds∧(1≤tm∧tm≤1073741824)∧(0≤ix∧ix≤1073741824)∧(0≤cm∧cm≤1073741824)∧(0≤lt∧lt≤tm) ∧
 ¬ (ok=1∧kd≠2∧kd≠4)∧¬ (ix≠0∧kd=2)∧¬ (lt≠0∧(kd=2∨kd=4))∧¬ (cm≠0∧kd≠3)∧¬ (nr≠0∧kd≠3)∧¬ (ns≠0∧kd≠5)∧¬ (nv≠0∧kd≠5) ∧
 (kd=5→1≤ix∧1≤lt∧ns≤131072∧rv=1)∧(kd=3→nr≤20∧al=1∧rg=1)
instance (kd fr ds tm ok ix lt cm nr ns nv rv al rg:Int):Decidable (mayZ kd fr ds tm ok ix lt cm nr ns nv rv al rg):=by unfold mayZ; exact inferInstance
theorem b2i_one (b:Bool):(b2i b=1)=(b=true):=by cases b <;> simp [b2i]
theorem mayM_Z (kd fr ds tm:Int) (ok:Bool) (ix lt:Int) (rs:List Rc) (cm:Int) (sn:ByteArray) (vs:List Int) :
 mayM ⟨kd,fr,ds,tm,ok,ix,lt,rs,cm,sn,vs⟩=decide (mayZ kd fr ds tm (b2i ok) ix lt cm (rs.length:Int) (sn.size:Int) (vs.length:Int) (b2i (rightV vs)) (b2i (termsUpto tm rs)) (b2i (rightG ix lt rs))):=by
 unfold mayM
 congr 1
 apply propext
 unfold numsM bareM snapM logM mayZ
 dsimp only
 rw [b2i_one,b2i_one,b2i_one,b2i_one]
 have e1:((rs.length:Int)≠0)=(rs.length≠0):=propext ⟨fun h e=>h (by omega),fun h e=>h (by omega)⟩
 have e2:((sn.size:Int)≠0)=(sn.size≠0):=propext ⟨fun h e=>h (by omega),fun h e=>h (by omega)⟩
 have e3:((vs.length:Int)≠0)=(vs.length≠0):=propext ⟨fun h e=>h (by omega),fun h e=>h (by omega)⟩
 have e4:((sn.size:Int)≤131072)=(sn.size≤131072):=propext ⟨fun h=>by omega,fun h=>by omega⟩
 have e5:((rs.length:Int)≤20)=(rs.length≤20):=propext ⟨fun h=>by omega,fun h=>by omega⟩
 rw [e1,e2,e3,e4,e5]
 constructor
 ·rintro⟨⟨h1,h2,h3,h4,h5,h6,h7,h8⟩,⟨g1,g2,g3,g4,g5,g6,g7⟩,k1,k2⟩
  exact⟨h1,h2,h3,h4,h5,h6,h7,h8,g1,g2,g3,g4,g5,g6,g7,k1,k2⟩
 ·rintro⟨h1,h2,h3,h4,h5,h6,h7,h8,g1,g2,g3,g4,g5,g6,g7,k1,k2⟩
  exact⟨⟨h1,h2,h3,h4,h5,h6,h7,h8⟩,⟨g1,g2,g3,g4,g5,g6,g7⟩,k1,k2⟩
theorem emptyD (s:ByteArray):s.toList.isEmpty=decide ((s.size:Int)=0):=by
 by_cases h:s.size=0
 ·obtain rfl:=size0 h
  rw [toList_nil]
  decide
 ·rw [isEmpty_no h,decide_eq_false (by omega)]
theorem b2i_r (b:Bool):0≤b2i b∧b2i b≤1:=by cases b <;> decide
theorem i17_any (n lo hi:Int) (w:World):Calls Tryz.prog 83 #[.int .i64 n,.int .i64 lo,.int .i64 hi] w fun e w'=>e = .returned (.bool (decide (lo≤n)&&decide (n≤hi)))∧w=w':=in17_any n lo hi w _ (Lib.hid rfl)
end Go.Proofs.YtlpgbmaoenncjaaGreatDoor
