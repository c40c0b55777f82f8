/-
  The walks of the references' Like and Ints: each tells whether two lists are one; only reads.
-/
import Derived.Test.YtlpgbmaoenncjaaGreatDoorGen
import Derived.WalkKit
import Derived.WalkSpells
import Derived.WalkLawsBesides
namespace Go.Proofs.YtlpgbmaoenncjaaGreatDoor
open Go.RowKit
set_option linter.unusedVariables false
set_option maxHeartbeats 400000 in
theorem ints_uneq (a b:Option Addr) (n m c d:Nat) (w:World) (h:n≠m) :
 Calls Tryz.prog 48 #[.slice a n c,.slice b m d] w fun e w'=>e = .returned (.bool false)∧∃ k,w'=w.drewN k:=by
 have hne:((n:Int) != (m:Int))=true:=by rw [bne_iff_ne]; omega
 go_enter Tryz.func48,Tryz.ntmps48
 go_wp2
 go_ret
 exact⟨rfl,0,rfl⟩
set_option maxHeartbeats 400000 in
theorem ints_eq (a b:Option Addr) (n c d:Nat) (xs ys:List Int) (w:World) (h1:SlAt w a n (i64s xs)) (h2:SlAt w b n (i64s ys)) (hn:n≤9223372036854775807) (v:Bool) (hv:Hid (v=intsB xs ys)) :
 Calls Tryz.prog 48 #[.slice a n c,.slice b n d] w fun e w'=>e = .returned (.bool v)∧∃ k,w'=w.drewN k:=by
 by_cases h0:n=0
 ·subst h0
  have hx:xs=[]:=by have:=h1.1; rw [i64s_length] at this; exact List.eq_nil_of_length_eq_zero this.symm
  have hy:ys=[]:=by have:=h2.1; rw [i64s_length] at this; exact List.eq_nil_of_length_eq_zero this.symm
  subst hx hy
  go_enter Tryz.func48,Tryz.ntmps48
  go_wp2
  go_loop [5,13] (fun _ i=>i = .int .i64 0) (fun _ _=>0)
  case atStart=>rfl
  case round =>
   obtain rfl:=hrel
   go_wp2
   go_ret
   exact⟨ret_bool (by rw [hv.out,intsB_yes rfl]),0,rfl⟩
 ·obtain⟨hnx,b1,o1,rfl,hc1⟩:=h1.i64 (by omega)
  obtain⟨hny,b2,o2,rfl,hc2⟩:=h2.i64 (by omega)
  have HX:=Lib.hid hnx
  have HY:=Lib.hid hny
  have HC1:=Lib.hid hc1
  have HC2:=Lib.hid hc2
  clear hnx hny hc1 hc2 h1 h2
  have hne:((n:Int) != (n:Int))=false:=by simp
  go_enter Tryz.func48,Tryz.ntmps48
  go_wp2
  go_loopw [5,13] (fun _ i wr=>∃ k m:Nat,k≤n∧i = .int .i64 k∧wr=w.drewN m∧∀ j (h1:j<xs.length) (h2:j<ys.length),j<k→xs[j]=ys[j]) (fun _ i _=>n - (intOf i).toNat)
  case atStart=>exact⟨0,0,Nat.zero_le _,rfl,rfl,fun j _ _ h=>absurd h (Nat.not_lt_zero _)⟩
  case round =>
   obtain⟨k,m,hk,rfl,rfl,hall⟩:=hrel
   have HA:=Lib.hid hall
   clear hall
   by_cases hlt:k<n
   ·have hkx:k<xs.length:=by have:=HX.out; omega
    have hky:k<ys.length:=by have:=HY.out; omega
    have hcx:=HC1.out k hkx
    have hcy:=HC2.out k hky
    have hi1:(k:Int)<(n:Int):=by omega
    by_cases he:xs[k]=ys[k]
    ·have hall2:Hid (∀ j (h1:j<xs.length) (h2:j<ys.length),j<k+1→xs[j]=ys[j]):=Lib.hid fun j h1 h2 hj=>by
      by_cases hjk:j=k
      ·subst hjk; exact he
      ·exact HA.out j h1 h2 (by omega)
     rw [he] at hcx
     clear he
     generalize ys[k]=t at *
     have htt:(t != t)=false:=by simp
     go_wp2
     go_quiet (fail)
     go_wp2
     go_roundw
     case rel=>exact⟨k+1,_,by omega,by go_num,by first | rfl | exact World.drewN_drewN _ _ _,hall2.out⟩
     case measure=>simp [intOf]; omega
    ·have hfin:intsB xs ys=false:=intsB_no (fun e=>he (by subst e; rfl))
     have HF:=Lib.hid hfin
     have htt:(xs[k]==ys[k])=false:=beq_eq_false_iff_ne.2 he
     have htt2:(xs[k] != ys[k])=true:=bne_iff_ne.2 he
     clear hfin he
     generalize ys[k]=t at *
     generalize xs[k]=s at *
     go_wp2
     go_quiet (fail)
     go_wp2
     go_ret
     exact⟨ret_bool (by rw [hv.out,HF.out]),_,by first | rfl | exact World.drewN_drewN _ _ _⟩
   ·have hfin:intsB xs ys=true:=intsB_yes (list_ext_upto xs ys (by rw [← HX.out,← HY.out]) fun j h1 h2=>HA.out j h1 h2 (by have:=HX.out; omega))
    have HF:=Lib.hid hfin
    clear hfin
    go_wp2
    go_ret
    exact⟨ret_bool (by rw [hv.out,HF.out]),_,rfl⟩
theorem ints_any (a b:Option Addr) (n m c d:Nat) (xs ys:List Int) (w:World) (h1:SlAt w a n (i64s xs)) (h2:SlAt w b m (i64s ys)) (hn:n≤9223372036854775807) :
 Calls Tryz.prog 48 #[.slice a n c,.slice b m d] w fun e w'=>e = .returned (.bool (intsB xs ys))∧∃ k,w'=w.drewN k:=by
 by_cases h:n=m
 ·subst h; exact ints_eq a b n c d xs ys w h1 h2 hn _ rfl
 ·have:intsB xs ys=false:=intsB_no (fun e=>h (by subst e; rw [h1.1,h2.1]))
  rw [this]
  exact ints_uneq a b n m c d w h
end Go.Proofs.YtlpgbmaoenncjaaGreatDoor
