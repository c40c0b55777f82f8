/-
  The walks of journal.Right and of the reference's Right of a log: new blocks alone are made; the slices within reach. (Written by wip/mknmb.py.)
-/
import Derived.Test.YtlpgbmaoenncjaaGreatDoorNmA
import Derived.Test.YtlpgbmaoenncjaaGreatDoorGen
namespace Go.Proofs.YtlpgbmaoenncjaaGreatDoor
open Go.RowKit
set_option linter.unusedVariables false
def rcE:Enc Rc where
 k:=3
 enc r:=[.int .i64 r.term,.int .i64 r.kind,.string r.data]
 len _:=rfl
 one r u hu:=by
  simp at hu
  rcases hu with rfl | rfl | rfl <;> rfl
 pos:=by decide
theorem rc_at {w:World}{a:Option Addr}{n:Nat}{l:List Rc}(h:rcE.Sl w a n l) (hn:0<n):∃ b off,a=some ⟨b,off,none⟩∧∀ (i:Nat) (hi:i<l.length),w.cell? ⟨b,off+i*3,none⟩=some (.int .i64 l[i].term)∧w.cell? ⟨b,off+i*3+1,none⟩=some (.int .i64 l[i].kind)∧w.cell? ⟨b,off+i*3+2,none⟩=some (.string l[i].data):=by
 rcases h.2 with rfl | ⟨b,off,ha,hc⟩
 ·have:=h.1; simp at this; omega
 ·exact⟨b,off,ha,fun i hi=>⟨hc i hi 0 _ rfl,hc i hi 1 _ rfl,hc i hi 2 _ rfl⟩⟩
def Rc.wf (r:Rc):Prop:=r.data.size≤maxLen
def lastT (bt:Int) (l:List Rc) (i:Nat):Int:=match i with
 | 0=>bt
 | j+1=>match l[j]? with
   | none=>0
   | some y=>y.term
theorem lastT_next (bt:Int) (l:List Rc) (i:Nat) (h:i<l.length):lastT bt l (i+1)=l[i].term:=by
 unfold lastT
 dsimp only
 rw [List.getElem?_eq_getElem h]
theorem termAt_last (bt:Int) (l:List Rc) (i:Nat) (h:i≤l.length):termAt bt l i=max (lastT bt l i) 1:=by
 unfold termAt lastT
 cases i with
 | zero=>rfl
 | succ j=>dsimp only; rw [List.getElem?_eq_getElem (show j<l.length by omega)]
end Go.Proofs.YtlpgbmaoenncjaaGreatDoor
