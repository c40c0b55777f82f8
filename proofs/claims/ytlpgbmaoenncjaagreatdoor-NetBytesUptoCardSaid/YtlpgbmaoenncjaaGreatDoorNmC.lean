/-
  The walks of the references' Ints and LikeRecords at rows that are one: nothing is changed.
-/
import Derived.Test.YtlpgbmaoenncjaaGreatDoorNmB
import Derived.Laws.StructEq
import Derived.Deep.QuietTactic
import Derived.BigQuiet
namespace Go.Proofs.YtlpgbmaoenncjaaGreatDoor
open Go.RowKit
set_option linter.unusedVariables false
set_option maxRecDepth 20000 in
set_option maxHeartbeats 1000000 in
theorem ints_same (a a':Option Addr) (n c n' c':Nat) (l:List Int) (w:World) (h:SlAt w a n (i64s l)) (h':SlAt w a' n' (i64s l)) (hmx:n≤100000000000000) :
 Calls Tryz.prog 48 #[.slice a n c,.slice a' n' c'] w fun e w'=>e = .returned (.bool true)∧Below w.heap.size w w':=by
 have hn:=h.1
 have hn':=h'.1
 rw [i64s_length] at hn hn'
 obtain rfl:n=n':=by omega
 have HN:=Lib.hid hn
 have H:=Lib.hid h
 have H':=Lib.hid h'
 clear h h' hn hn'
 have b0:((n:Int) != (n:Int))=false:=by simp
 go_enter Tryz.func48,Tryz.ntmps48
 go_wp2_with fail
 go_loopg [5,13] n (fun gk v5 i wr=>∃ k:Nat,k≤n∧gk=n - k∧i = .int .i64 (k:Int)∧Hid (Below w.heap.size w wr))
 case atStart=>exact⟨0,Nat.zero_le _,rfl,rfl,Lib.hid (Below.refl _ _)⟩
 case round =>
  obtain⟨k,hk,rfl,rfl,hB⟩:=hrel
  by_cases hkn:k<n
  ·have hki:(k:Int)<(n:Int):=by omega
   have hkl:k<l.length:=by rw [← HN.out]; exact hkn
   obtain⟨-,b,off,rfl,hc⟩:=(H.out.keep hB.out).i64 (by omega)
   obtain⟨-,b',off',rfl,hc'⟩:=(H'.out.keep hB.out).i64 (by omega)
   have c1:=hc k hkl
   have c2:=hc' k hkl
   clear hc hc'
   generalize l[k]=x at *
   have bx:(x != x)=false:=by simp
   go_wp2_with fail
   go_quiet (fail)
   go_wp2_with fail
   go_roundg (n - (k+1))
   case rel=>exact⟨k+1,by omega,rfl,by go_num,Lib.hid (below_drewN hB.out _)⟩
   case measure=>omega
  ·have hki:(n:Int)≤(k:Int):=by omega
   go_wp2_with fail
   go_ret
   exact⟨rfl,hB.out⟩
theorem neqRec (x y:Int) (z:ByteArray) (w:World):(binOp .neq 67 (.agg #[.int .i64 x,.int .i64 y,.string z]) (.agg #[.int .i64 x,.int .i64 y,.string z])).run Tryz.prog w = .ok (.bool false) w:=by
 have u3:=Tryz.underlying9
 have u4:=Tryz.underlying3
 have hS:Tryz.prog.underlying 67 = some (.struct (Tryz.prog.fieldsOf 67)):=by kernel_rfl
 have hp:Tryz.prog.stoodInHeld 67 = false:=by kernel_rfl
 rw [run_neq_struct,show (10000:Nat)=9999+1 from rfl,run_equalIn_agg w 9999 67 _ _ hS hp]
 simp only [Program.fieldsOf,Tryz.underlying67]
 go_simp
set_option maxRecDepth 20000 in
set_option maxHeartbeats 1000000 in
theorem recs_same (a a':Option Addr) (n c n' c':Nat) (l:List Rc) (w:World) (h:rcE.Sl w a n l) (h':rcE.Sl w a' n' l) (hmx:n≤100000000000000) :
 Calls Tryz.prog 49 #[.slice a n c,.slice a' n' c'] w fun e w'=>e = .returned (.bool true)∧Below w.heap.size w w':=by
 have hn:=h.1
 have hn':=h'.1
 obtain rfl:n=n':=by omega
 have HN:=Lib.hid hn
 have H:=Lib.hid h
 have H':=Lib.hid h'
 clear h h' hn hn'
 have b0:((n:Int) != (n:Int))=false:=by simp
 have hnf:=neqRec
 go_enter Tryz.func49,Tryz.ntmps49
 go_wp2_with fail
 go_loopg [5,13] n (fun gk v5 i wr=>∃ k:Nat,k≤n∧gk=n - k∧i = .int .i64 (k:Int)∧Hid (Below w.heap.size w wr))
 case atStart=>exact⟨0,Nat.zero_le _,rfl,rfl,Lib.hid (Below.refl _ _)⟩
 case round =>
  obtain⟨k,hk,rfl,rfl,hB⟩:=hrel
  by_cases hkn:k<n
  ·have hki:(k:Int)<(n:Int):=by omega
   have hkl:k<l.length:=by rw [← HN.out]; exact hkn
   obtain⟨b,off,rfl,hc⟩:=rc_at (H.out.keep hB.out) (by omega)
   obtain⟨b',off',rfl,hc'⟩:=rc_at (H'.out.keep hB.out) (by omega)
   obtain⟨c0,c1,c2⟩:=hc k hkl
   obtain⟨d0,d1,d2⟩:=hc' k hkl
   clear hc hc'
   generalize l[k]=r at *
   obtain⟨rt,rk,rd⟩:=r
   dsimp only at *
   go_wp2_with fail
   go_quiet (fail)
   go_wp2_with fail
   go_roundg (n - (k+1))
   case rel=>exact⟨k+1,by omega,rfl,by go_num,Lib.hid (below_drewN hB.out _)⟩
   case measure=>omega
  ·have hki:(n:Int)≤(k:Int):=by omega
   go_wp2_with fail
   go_ret
   exact⟨rfl,hB.out⟩
end Go.Proofs.YtlpgbmaoenncjaaGreatDoor
