/-
  The walk of code.reader's value.
  The walk of code.reader's value: a number.
  The walk of code.reader's value: a text. (Written by wip/mkval.py.)
  The walk of code.reader's value: a text that is one. (Written by wip/mkval.py D.)
  Rows of values of one's own, and append of one value onto them; without a condition but for the sizes.
  The walk of code.reader's value: a list.
  code.reader's value, whole.
-/
import Derived.Test.YtlpgbmaoenncjaaGreatDoorCvBase
import Derived.Test.YtlpgbmaoenncjaaGreatDoorGen
import Derived.Laws.ResultCell
import Derived.Maps.AppendAt
import Derived.KernelRfl
import Derived.Test.YtlpgbmaoenncjaaGreatDoorRows
import Derived.Deep.LoopGhost
namespace Go.Proofs.YtlpgbmaoenncjaaGreatDoor
open Go.RowKit
set_option linter.unusedVariables false
end Go.Proofs.YtlpgbmaoenncjaaGreatDoor
namespace Go.Proofs.YtlpgbmaoenncjaaGreatDoor
open Go.RowKit
set_option linter.unusedVariables false
theorem numV_at (w:World) (S:Nat→Prop) (n:Int):V.At w S (.mk 1 n ⟨#[]⟩ []) [.int .i64 1,.int .i64 n,.string ⟨#[]⟩,.slice none 0 0]:=by
 simp only [V.At]
 exact⟨none,0,rfl,Nat.le_refl _,fun _=>rfl,by simp only [VAll]⟩
end Go.Proofs.YtlpgbmaoenncjaaGreatDoor
namespace Go.Proofs.YtlpgbmaoenncjaaGreatDoor
open Go.RowKit
set_option linter.unusedVariables false
theorem textV_at (w:World) (S:Nat→Prop) (t:ByteArray):V.At w S (.mk 2 0 t []) [.int .i64 2,.int .i64 0,.string t,.slice none 0 0]:=by
 simp only [V.At]
 exact⟨none,0,rfl,Nat.le_refl _,fun _=>rfl,by simp only [VAll]⟩
end Go.Proofs.YtlpgbmaoenncjaaGreatDoor
namespace Go.Proofs.YtlpgbmaoenncjaaGreatDoor
open Go.RowKit
set_option linter.unusedVariables false
end Go.Proofs.YtlpgbmaoenncjaaGreatDoor
namespace Go.Proofs.YtlpgbmaoenncjaaGreatDoor
open Go.RowKit
set_option linter.unusedVariables false
theorem infoVal:(Tryz.prog.info? 70).map (fun i=>(i.zero,i.size,i.bytes))=some (some (.agg #[.int .i64 0,.int .i64 0,.string ⟨#[]⟩,.slice none 0 0]),4,56):=by kernel_rfl
theorem infoV:∃ i,Tryz.prog.info? 70 = some i∧i.zero=some (.agg #[.int .i64 0,.int .i64 0,.string ⟨#[]⟩,.slice none 0 0])∧i.size=4∧i.bytes=56:=by
 have h:=infoVal
 cases hi:Tryz.prog.info? 70 with
 | none=>rw [hi] at h; cases h
 | some i =>
   rw [hi] at h
   simp only [Option.map_some,Option.some.injEq,Prod.mk.injEq] at h
   exact⟨i,rfl,h.1,h.2.1,h.2.2⟩
def InRow (base:Nat) (v:Value) (w:World) (b:Nat):Prop:=base≤b∧b<w.heap.size∧some b≠v.ownBlock
theorem own_vals {w:World}{base:Nat}{e:TypeId}{v:Value}{n:Nat}{l:List V}{cells:List Value}(h:w.ownsRow base e 4 v n cells) (hr:RowOf w (InRow base v w) l cells) :
 ∃ a c,v = .slice a l.length c∧l.length≤c∧(a=none→c=0)∧VAll w (fun b=>base≤b∧b<w.heap.size) a 0 l:=by
 have hn:n=l.length:=by have:=h.1; rw [hr.length] at this; omega
 have hlt:=h.lt
 have hr2:RowOf w (fun b=>base≤b∧b<w.heap.size) l cells:=hr.move (fun b hb=>⟨hb.1,hb.2.1⟩) (fun _ _=>rfl)
 rcases h.2 with ⟨hv,hl⟩ | ⟨g,c,cur,hv,hg,hh,hnc,_⟩
 ·subst hv
  have hl0:l=[]:=List.eq_nil_of_length_eq_zero (by omega)
  subst hl0
  exact⟨none,0,rfl,Nat.le_refl _,fun _=>rfl,by simp only [VAll]⟩
 ·subst hv
  subst hn
  obtain⟨h1,h2⟩:=hlt g rfl
  refine⟨some ⟨g,0,none⟩,c,rfl,hnc,(fun e=>by cases e),RowOf.all ⟨h1,h2⟩ hr2 fun j u hj=>?_⟩
  have:=h.cells (g:=g) rfl j u hj
  have e:(⟨g,0,none⟩:Addr).add j=⟨g,j,none⟩:=by unfold Addr.add; split <;> simp_all
  rwa [e] at this
theorem row_kept {w w':World}{base r:Nat}{e:TypeId}{v:Value}{n:Nat}{l:List V}{cells:List Value}(h:w.ownsRow base e 4 v n cells) (hr:RowOf w (InRow base v w) l cells) (hg:w.grownBy w' (some r)) (hrb:r<base) :
 w'.ownsRow base e 4 v n cells∧RowOf w' (InRow base v w') l cells:=by
 refine⟨h.kept hg ?_,hr.move (fun b hb=>⟨hb.1,Nat.lt_of_lt_of_le hb.2.1 hg.size,hb.2.2⟩) fun b hb=>hg.block b hb.2.1 (by simp; have:=hb.1; omega)⟩
 by_cases hv:v.ownBlock=some r
 ·have:=(h.lt r hv).1; omega
 ·exact .inr hv
end Go.Proofs.YtlpgbmaoenncjaaGreatDoor
namespace Go.Proofs.YtlpgbmaoenncjaaGreatDoor
open Go.RowKit
set_option linter.unusedVariables false
def Stop (p:Prop):Prop:=p
theorem Stop.go {p:Prop}(h:Stop p):p:=h
end Go.Proofs.YtlpgbmaoenncjaaGreatDoor
namespace Go.Proofs.YtlpgbmaoenncjaaGreatDoor
open Go.RowKit
set_option linter.unusedVariables false
end Go.Proofs.YtlpgbmaoenncjaaGreatDoor
