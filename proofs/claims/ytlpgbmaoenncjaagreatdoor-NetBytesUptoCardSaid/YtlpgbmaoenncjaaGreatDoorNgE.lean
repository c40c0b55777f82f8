/-
  The walk of net.Get, whole: any text is read as just that message, or refused; the texts that an int can count.
-/
import Derived.Test.YtlpgbmaoenncjaaGreatDoorNgD
namespace Go.Proofs.YtlpgbmaoenncjaaGreatDoor
open Go.RowKit
set_option linter.unusedVariables false
theorem nget_any (s:ByteArray) (w:World) (hm:s.size≤9223372036854775807):Calls Tryz.prog 14 #[.string s] w (RetM w (getM s)):=by
 unfold getM
 by_cases hb:(getL s).bad≠0
 ·rw [if_pos hb]
  exact nget_bad s w hm hb
 ·rw [if_neg hb]
  have hb:(getL s).bad=0:=Classical.byContradiction hb
  by_cases hh:headV (getL s).v
  ·exact nget_go s w hm hb _ rfl hh _ (Lib.hid (readN_eq _).symm)
  ·have hr:readM (getL s).v=(Ms.zero,1):=by
    unfold readM
    rw [if_neg (fun h=>hh h.1)]
   rw [hr]
   exact nget_head s w hm hb _ rfl hh
end Go.Proofs.YtlpgbmaoenncjaaGreatDoor
