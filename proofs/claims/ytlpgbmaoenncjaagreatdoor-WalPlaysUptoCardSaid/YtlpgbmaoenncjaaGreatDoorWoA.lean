/-
  slices.Clone at records.
-/
import Derived.Test.YtlpgbmaoenncjaaGreatDoorNgAll
namespace Go.Proofs.YtlpgbmaoenncjaaGreatDoor
open Go.RowKit
set_option linter.unusedVariables false
set_option maxRecDepth 100000
def OwnRcs (w w':World) (l:List Rc) (v:Value):Prop:=w'.ownsRow w.heap.size 67 3 v l.length (rcE.cells l)∧Below w.heap.size w w'
theorem infoRecord0:(Tryz.prog.info? 67).map (fun i=>(i.zero,i.size,i.bytes))=some (some (.agg #[.int .i64 0,.int .i64 0,.string ⟨#[]⟩]),3,32):=by kernel_rfl
set_option maxHeartbeats 2000000 in
theorem cloneRc_any (a:Option Addr) (n c:Nat) (l:List Rc) (w:World) (h:rcE.Sl w a n l) (hn:n≤1000000) :
 Calls Tryz.prog 168 #[.slice a n c] w fun e w'=>∃ v,e = .returned v∧OwnRcs w w' l v:=by
 obtain⟨i0,hi,hz0,hz1,hz2⟩:=info_parts infoRecord0
 have HI:=Lib.hid hi
 have HZ:=Lib.hid (And.intro hz0 (And.intro hz1 hz2))
 clear hi hz0 hz1 hz2
 have hl:n=l.length:=h.1
 have q:∀ (w:World) (a:Option Addr) (n c n' c':Nat),(binOp .eql 22 (.slice a n c) (.slice none n' c')).run Tryz.prog w = .ok (.bool a.isNone) w:=fun w a n c n' c'=>Lib.run_eql_slice_nil w _ _ a n c n' c' Tryz.underlying22
 cases a with
 | none =>
   have hl0:l=[]:=by
    rcases h.2 with h1 | ⟨b,off,e,_⟩
    ·exact h1
    ·cases e
   subst hl0
   have hn0:n=0:=hl
   clear hl
   subst hn0
   clear h hn
   go_enter Tryz.func168,Tryz.ntmps168
   go_wp2
   go_ret
   exact⟨_,rfl,World.ownsRow_nil _ _ _ _,Below.refl _ _⟩
 | some x =>
   have HL:=Lib.hid hl
   have HO0:Hid ((w.alloc (.cells #[] 67)).ownsRow w.heap.size 67 3 (.slice (some ⟨w.heap.size,0,none⟩) 0 0) 0 (rcE.cells [])):=Lib.hid (Enc.row_lit0 w w.heap.size (Nat.le_refl _) _ _)
   have HBA:=Lib.hid ((Below.refl w.heap.size w).alloc (Nat.le_refl _) (.cells #[] 67))
   have HS:=Lib.hid (h.keep HBA.out)
   clear h hl
   go_enter Tryz.func168,Tryz.ntmps168
   go_wp2_with (at_builtin; refine Enc.wpList_app (E:=rcE) _ rfl _ _ 22 rfl w.heap.size 67 i0 _ 32 Tryz.underlying22 HI.out HZ.out.1 HZ.out.2.1 HZ.out.2.2 rfl _ 0 [] HO0.out rfl (some x) n c l rfl HS.out (fun e=>by cases e) (by unfold maxLen; omega) (by omega) HBA.out.size ?_)
   intro v3 w3 ho3 hg3
   have HB3:=Lib.hid (HBA.out.grown hg3 HBA.out.size (fun q e=>(HO0.out.lt q e).1))
   have HO3:Hid (w3.ownsRow w.heap.size 67 3 v3 l.length (rcE.cells l)):=Lib.hid (by rw [← HL.out]; exact ho3)
   clear ho3 hg3
   go_wp2_with fail
   go_ret
   exact⟨_,rfl,HO3.out,HB3.out⟩
end Go.Proofs.YtlpgbmaoenncjaaGreatDoor
