/-
  The calls of both Saves put together.
-/
import Derived.Test.YtlpgbmaoenncjaaGreatDoorWsK
import Derived.Test.YtlpgbmaoenncjaaGreatDoorDkFour
import Derived.Test.YtlpgbmaoenncjaaGreatDoorDkThree
import Derived.Test.YtlpgbmaoenncjaaGreatDoorDkTwo
namespace Go.Proofs.YtlpgbmaoenncjaaGreatDoor
open Go.RowKit
set_option linter.unusedVariables false
set_option maxRecDepth 100000
theorem steps_all (a:Option Addr) (n c:Nat) (d:Dk) (sa:Option Addr) (ns cs:Nat) (L:List Stp) (W:World) (h:DkAt W a n c d) (hL:stE.Sl W sa ns L) (hok:∀ s∈L,StOk s) (hn:ns≤1000000):Calls Tryz.prog 56 #[d.val a n c,.slice sa ns cs] W (RetDk W (stepsS d L)) :=
 steps_any a n c d sa ns cs L W h hL hok hn (Lib.hid fun a n c d nm more W h1 h2 h3=>write_any a n c d nm more W h1 h2 (by omega)) (Lib.hid fun a n c d nm W h1 h2=>sync_any a n c d nm W h1 h2) (Lib.hid fun a n c d nm more W h1 h2 h3=>rename_any a n c d nm more W h1 h2 (by unfold maxLen; omega)) (Lib.hid fun a n c d nm W h1 h2=>remove_any a n c d nm W h1 h2)
theorem anew_all (a:Option Addr) (n c:Nat) (d:Dk) (h:Hd) (ar:Option Addr) (nr cr:Nat) (av:Option Addr) (nv cv:Nat) (w:World) (hd:DkAt w a n c d) (H:HdAt w h ar nr cr av nv cv) (htab:Lib.TabIs Tryz.prog w "internal/strconv.uint64pow10" .u64 Lib.pow10Tab) (hr:rightH h=true):Calls Tryz.prog 53 #[d.val a n c,h.val ar nr cr av nv cv] w (RetDk w (anewS d h)) :=
 wanew_any a n c d h ar nr cr av nv cv w hd H htab hr (Lib.hid fun a n c d sa ns cs L W h1 h2 h3 h4=>steps_all a n c d sa ns cs L W h1 h2 h3 h4)
theorem wsave_all (a:Option Addr) (n c:Nat) (d:Dk) (old now:Hd) (ar:Option Addr) (nr cr:Nat) (av:Option Addr) (nv cv:Nat) (ar1:Option Addr) (nr1 cr1:Nat) (av1:Option Addr) (nv1 cv1:Nat) (w:World) (hd:DkAt w a n c d) (H:HdAt w old ar nr cr av nv cv) (H1:HdAt w now ar1 nr1 cr1 av1 nv1 cv1) (htab:Lib.TabIs Tryz.prog w "internal/strconv.uint64pow10" .u64 Lib.pow10Tab):Calls Tryz.prog 19 #[d.val a n c,old.val ar nr cr av nv cv,now.val ar1 nr1 cr1 av1 nv1 cv1] w (RetDk w (saveS d old now)) :=
 wsave_any a n c d old now ar nr cr av nv cv ar1 nr1 cr1 av1 nv1 cv1 w hd H H1 htab (Lib.hid fun a n c d sa ns cs L W h1 h2 h3 h4=>steps_all a n c d sa ns cs L W h1 h2 h3 h4) (Lib.hid fun a n c d h ar nr cr av nv cv W h1 h2 h3 h4=>anew_all a n c d h ar nr cr av nv cv W h1 h2 h3 h4)
end Go.Proofs.YtlpgbmaoenncjaaGreatDoor
