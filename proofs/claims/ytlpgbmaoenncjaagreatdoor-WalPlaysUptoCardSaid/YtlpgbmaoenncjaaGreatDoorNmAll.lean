/-
  The walks of within and its like, of quorum.Right and the reference's Right of voters: nothing is changed; the slices within reach.
  The walks of journal.Right and of the reference's Right of a log: new blocks alone are made; the slices within reach. (Written by wip/mknmb.py.)
  The walks of the references' Ints and LikeRecords at rows that are one: nothing is changed.
  '[]byte("l")': a row of one's own with one place marked behind its last (it is full): what an append makes of it is a row of one's own again.
-/
import Derived.Test.YtlpgbmaoenncjaaGreatDoorGen
import Derived.Test.YtlpgbmaoenncjaaGreatDoorRows
import Derived.Deep.LoopGhost
import Derived.Laws.StructEq
import Derived.Deep.QuietTactic
import Derived.BigQuiet
import Derived.Lib.AppendStr
import Derived.Lib.SmallJoins
namespace Go.Proofs.YtlpgbmaoenncjaaGreatDoor
open Go.RowKit
set_option linter.unusedVariables false
end Go.Proofs.YtlpgbmaoenncjaaGreatDoor

namespace Go.Proofs.YtlpgbmaoenncjaaGreatDoor
open Go.RowKit
set_option linter.unusedVariables false
def rcE:Enc Rc where
 k:=3
 enc r:=[.int .i64 r.term,.int .i64 r.kind,.string r.data]
 len _:=rfl
 one r u hu:=by
  simp at hu
  rcases hu with rfl | rfl | rfl <;> rfl
 pos:=by decide
theorem rc_at {w:World}{a:Option Addr}{n:Nat}{l:List Rc}(h:rcE.Sl w a n l) (hn:0<n):∃ b off,a=some ⟨b,off,none⟩∧∀ (i:Nat) (hi:i<l.length),w.cell? ⟨b,off+i*3,none⟩=some (.int .i64 l[i].term)∧w.cell? ⟨b,off+i*3+1,none⟩=some (.int .i64 l[i].kind)∧w.cell? ⟨b,off+i*3+2,none⟩=some (.string l[i].data):=by
 rcases h.2 with rfl | ⟨b,off,ha,hc⟩
 ·have:=h.1; simp at this; omega
 ·exact⟨b,off,ha,fun i hi=>⟨hc i hi 0 _ rfl,hc i hi 1 _ rfl,hc i hi 2 _ rfl⟩⟩
def Rc.wf (r:Rc):Prop:=r.data.size≤maxLen
def lastT (bt:Int) (l:List Rc) (i:Nat):Int:=match i with
 | 0=>bt
 | j+1=>match l[j]? with
   | none=>0
   | some y=>y.term
theorem termAt_last (bt:Int) (l:List Rc) (i:Nat) (h:i≤l.length):termAt bt l i=max (lastT bt l i) 1:=by
 unfold termAt lastT
 cases i with
 | zero=>rfl
 | succ j=>dsimp only; rw [List.getElem?_eq_getElem (show j<l.length by omega)]
end Go.Proofs.YtlpgbmaoenncjaaGreatDoor

namespace Go.Proofs.YtlpgbmaoenncjaaGreatDoor
open Go.RowKit
set_option linter.unusedVariables false
set_option maxRecDepth 20000 in
set_option maxHeartbeats 1000000 in
theorem ints_same (a a':Option Addr) (n c n' c':Nat) (l:List Int) (w:World) (h:SlAt w a n (i64s l)) (h':SlAt w a' n' (i64s l)) (hmx:n≤100000000000000) :
 Calls Tryz.prog 48 #[.slice a n c,.slice a' n' c'] w fun e w'=>e = .returned (.bool true)∧Below w.heap.size w w':=by
 have hn:=h.1
 have hn':=h'.1
 rw [i64s_length] at hn hn'
 obtain rfl:n=n':=by omega
 have HN:=Lib.hid hn
 have H:=Lib.hid h
 have H':=Lib.hid h'
 clear h h' hn hn'
 have b0:((n:Int) != (n:Int))=false:=by simp
 go_enter Tryz.func48,Tryz.ntmps48
 go_wp2_with fail
 go_loopg [5,13] n (fun gk v5 i wr=>∃ k:Nat,k≤n∧gk=n - k∧i = .int .i64 (k:Int)∧Hid (Below w.heap.size w wr))
 case atStart=>exact⟨0,Nat.zero_le _,rfl,rfl,Lib.hid (Below.refl _ _)⟩
 case round =>
  obtain⟨k,hk,rfl,rfl,hB⟩:=hrel
  by_cases hkn:k<n
  ·have hki:(k:Int)<(n:Int):=by omega
   have hkl:k<l.length:=by rw [← HN.out]; exact hkn
   obtain⟨-,b,off,rfl,hc⟩:=(H.out.keep hB.out).i64 (by omega)
   obtain⟨-,b',off',rfl,hc'⟩:=(H'.out.keep hB.out).i64 (by omega)
   have c1:=hc k hkl
   have c2:=hc' k hkl
   clear hc hc'
   generalize l[k]=x at *
   have bx:(x != x)=false:=by simp
   go_wp2_with fail
   go_quiet (fail)
   go_wp2_with fail
   go_roundg (n - (k+1))
   case rel=>exact⟨k+1,by omega,rfl,by go_num,Lib.hid (below_drewN hB.out _)⟩
   case measure=>omega
  ·have hki:(n:Int)≤(k:Int):=by omega
   go_wp2_with fail
   go_ret
   exact⟨rfl,hB.out⟩
theorem neqRec (x y:Int) (z:ByteArray) (w:World):(binOp .neq 67 (.agg #[.int .i64 x,.int .i64 y,.string z]) (.agg #[.int .i64 x,.int .i64 y,.string z])).run Tryz.prog w = .ok (.bool false) w:=by
 have u3:=Tryz.underlying9
 have u4:=Tryz.underlying3
 have hS:Tryz.prog.underlying 67 = some (.struct (Tryz.prog.fieldsOf 67)):=by kernel_rfl
 have hp:Tryz.prog.stoodInHeld 67 = false:=by kernel_rfl
 rw [run_neq_struct,show (10000:Nat)=9999+1 from rfl,run_equalIn_agg w 9999 67 _ _ hS hp]
 simp only [Program.fieldsOf,Tryz.underlying67]
 go_simp
end Go.Proofs.YtlpgbmaoenncjaaGreatDoor

namespace Go.Proofs.YtlpgbmaoenncjaaGreatDoor
open Go.RowKit
def OwnsM (w:World) (base:Nat) (e:TypeId) (v:Value) (n:Nat) (xs:List Value):Prop :=
 w.ownsRow base e 1 v n xs∨∃ g x,v = .slice (some ⟨g,0,none⟩) 1 1∧base≤g∧n=1∧xs=[x]∧w.heap[g]? = some (.cells #[x] e (1,2))
theorem OwnsM.alloc {w:World}{base n:Nat}{e:TypeId}{v:Value}{xs:List Value}(h:OwnsM w base e v n xs) (o:Obj):OwnsM (w.alloc o) base e v n xs:=by
 rcases h with h | ⟨g,x,rfl,hb,rfl,rfl,hg⟩
 ·exact .inl (h.alloc o)
 ·exact .inr ⟨g,x,rfl,hb,rfl,rfl,by
   have hlt:g<w.heap.size:=by
    rcases Nat.lt_or_ge g w.heap.size with h' | h'
    ·exact h'
    ·simp [Array.getElem?_eq_none h'] at hg
   rw [← hg]; exact heap_alloc_old w o hlt⟩
theorem OwnsM.lt {w:World}{base n:Nat}{e:TypeId}{v:Value}{xs:List Value}(h:OwnsM w base e v n xs):∀ k,v.ownBlock=some k→k<w.heap.size∧base≤k:=by
 intro k hk
 rcases h with h | ⟨g,x,rfl,hb,rfl,rfl,hg⟩
 ·have:=h.lt k hk
  rcases h.2 with ⟨rfl,_⟩ | ⟨g,cap,cur,rfl,hb,_⟩
  ·simp [Value.ownBlock] at hk
  ·simp [Value.ownBlock] at hk
   subst hk
   exact⟨this.2,hb⟩
 ·simp [Value.ownBlock] at hk
  subst hk
  refine⟨?_,hb⟩
  rcases Nat.lt_or_ge g w.heap.size with h' | h'
  ·exact h'
  ·simp [Array.getElem?_eq_none h'] at hg
theorem OwnsM.kept {w w':World}{base n:Nat}{e:TypeId}{v:Value}{xs:List Value}(h:OwnsM w base e v n xs) (hb:Below w.heap.size w w'):OwnsM w' base e v n xs:=by
 rcases h with h | ⟨g,x,rfl,hb',rfl,rfl,hg⟩
 ·exact .inl (h.kept (⟨hb.os,hb.tape,hb.output,hb.size,fun k hk _=>hb.block k hk⟩:w.grownBy w' none) (by cases hv:v.ownBlock <;> simp))
 ·exact .inr ⟨g,x,rfl,hb',rfl,rfl,by
   have hlt:g<w.heap.size:=by
    rcases Nat.lt_or_ge g w.heap.size with h' | h'
    ·exact h'
    ·simp [Array.getElem?_eq_none h'] at hg
   rw [hb.block g hlt]; exact hg⟩
end Go.Proofs.YtlpgbmaoenncjaaGreatDoor
