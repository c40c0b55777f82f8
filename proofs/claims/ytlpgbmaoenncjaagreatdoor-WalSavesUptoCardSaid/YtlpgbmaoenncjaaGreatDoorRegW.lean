/-
  A disk that is laid in a new box by a region that draws its order.
-/
import Derived.Test.YtlpgbmaoenncjaaGreatDoorRegV
import Derived.Test.YtlpgbmaoenncjaaGreatDoorWsT
namespace Go.Proofs.YtlpgbmaoenncjaaGreatDoor
open Go.RowKit
set_option linter.unusedVariables false
set_option maxRecDepth 100000
def finDk (d:Dk) (cs:List Value) (w:World):Prop:=∃ a n c,cs=[.int .i64 d.room,.slice a n c,.int .i64 d.left,.bool d.down]∧DkAt w a n c d
theorem finDk_keep (d:Dk):∀ cs w w',Below w.heap.size w w'→finDk d cs w→finDk d cs w':=fun cs w w' hb ⟨a,n,c,h1,h2⟩=>⟨a,n,c,h1,h2.keep hb⟩
theorem CBox.storeDk {w1:World}{ia s:Nat}{d:Dk}{e:Vals}{w:World}{p:Nat}{a:Option Addr}{n c:Nat}(h:CBox w1 38 ia s [.int .i64 0,.slice none 0 0,.int .i64 0,.bool false] (finDk d) e w) (hne:ia≠s) (hu:e ia=some (.pointer (some ⟨p,0,none⟩))) (hp:w1.heap.size≤p)
 (hz:Four w p 38 (.int .i64 0) (.slice none 0 0) (.int .i64 0) (.bool false)) (hd:DkAt w a n c d) :
 CBox w1 38 ia s [.int .i64 0,.slice none 0 0,.int .i64 0,.bool false] (finDk d) (e.set s undef) ((((w.setCell ⟨p,0,none⟩ (.int .i64 d.room)).setCell ⟨p,1,none⟩ (.slice a n c)).setCell ⟨p,2,none⟩ (.int .i64 d.left)).setCell ⟨p,3,none⟩ (.bool d.down)):=by
 refine⟨four_sets h.1 hp _ _ _ _,fun u hu2=>?_⟩
 rw [Vals.set_other e _ hne,hu] at hu2
 obtain rfl:=Option.some.inj hu2
 refine⟨p,rfl,hp,fun hn=>?_,fun x hx=>⟨_,Four.all hz _ _ _ _,a,n,c,rfl,DkAt.setD (e:=Dk.zero) (a1:=none) (n1:=0) (c1:=0) hd hz _ _ _ _⟩⟩
 rw [Vals.set_same] at hn
 cases hn
end Go.Proofs.YtlpgbmaoenncjaaGreatDoor
