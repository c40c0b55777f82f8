/-
  The law WalCrashes holds, where what it reads is of bulk at most 1048576: the call returns true and its arguments read afterwards as before. THE CARD. (Written by wip/card.py.)
-/
import Derived.Test.YtlpgbmaoenncjaaGreatDoorWalCrashesWalk
import Derived.Test.YtlpgbmaoenncjaaGreatDoorOpAll
import Derived.Test.YtlpgbmaoenncjaaGreatDoorCards
import Derived.Test.YtlpgbmaoenncjaaGreatDoorTie
import Derived.WalkKit
import Derived.ProofKit
import Derived.OpenShut
import Derived.ShutString
import Derived.Deep.DeepHandedRow
import Derived.Shelf.Vars
import Derived.Lay
import Derived.Below
import Derived.LaidSub
import Derived.MakeChecks
import Derived.Lib.LaidTab
import Derived.SliceStrings
namespace Go.Proofs.YtlpgbmaoenncjaaGreatDoor.walCrashes
open Go.ChangeShapes Go.WideShapes Go.ChangeAt Go.RowKit
open Go.ChangeMaps (open_string shut_string)
set_option linter.unusedVariables false
theorem own:ownKnob Tryz.prog.godebug=none:=by kernel_rfl
theorem laidOut:laidOutB Tryz.prog=true:=by kernel_rfl
theorem table {W:World}(h:laidMetH Tryz.prog Rows.walCrashesUptoRow.laid W):Lib.TabIs Tryz.prog W "internal/strconv.uint64pow10" .u64 Lib.pow10Tab:=by
 have h1:=h.filter fun x=>x.1 == "internal/strconv.uint64pow10"
 rw [Go.MakeChecks.laidMetH_plain _ _ _ (by kernel_rfl)] at h1
 rw [show (Rows.walCrashesUptoRow.laid.filter fun x=>x.1 == "internal/strconv.uint64pow10")=[("internal/strconv.uint64pow10", Lib.tabData .u64 Lib.pow10Tab)] from by kernel_rfl] at h1
 exact Lib.tabIs_of_head (g:=0) (t:=210) (e:=169) (n:=20) (by kernel_rfl) (by kernel_rfl) (by kernel_rfl) (by kernel_rfl) (by kernel_rfl) (by kernel_rfl) h1
set_option maxRecDepth 100000 in
theorem contract (H:Type) (enc:TypeId × Value→H) (W:World) (base:Nat) (args:Array Value) (ds gs:List (DataW H)) (before:List MemPlace)
 (hval:∀ (j:Nat) t v,Tryz.f6.params[j]? = some t→args[j]? = some v→Value.okWide Tryz.prog W .any base t v)
 (hW:DataW.Whole enc Tryz.prog Tryz.f6.params.toList Rows.walCrashesSpec.vars false W args.toList ds gs before)
 (hsz:(DataW.weightsEach Tryz.prog (Tryz.f6.params.toList++(Rows.OpenSpec.upto Rows.walCrashesSpec).bare.plain.varTypes Tryz.prog) (ds++gs)).all (· ≤ reachBytes)=true)
 (hlaid:laidMetH Tryz.prog Rows.walCrashesUptoRow.laid W) :
 Calls Tryz.prog 6 args W fun e W'=>∃ v,e = .returned v∧Rows.walCrashesSpec.post enc Tryz.prog Tryz.f6 false true false false W args v W':=by
 have hW':=hW
 obtain⟨p,q,hA0,hV,rfl,hfz,hnd⟩:=hW
 have hA:DataW.TrodAll enc Tryz.prog W 0 (fun _=>true) true Tryz.f6.params.toList args.toList ds p:=hA0
 rw [Tryz.params6] at hA hval
 obtain⟨v0,vs0,d0,ds0,p0,q0,hargs,rfl,rfl,h0,r0⟩:=trodAll_cons hA
 obtain⟨v1,vs1,d1,ds1,p1,q1,rfl,rfl,rfl,h1,r1⟩:=trodAll_cons r0
 obtain⟨v2,vs2,d2,ds2,p2,q2,rfl,rfl,rfl,h2,r2⟩:=trodAll_cons r1
 obtain⟨v3,vs3,d3,ds3,p3,q3,rfl,rfl,rfl,h3,r3⟩:=trodAll_cons r2
 obtain⟨v4,vs4,d4,ds4,p4,q4,rfl,rfl,rfl,h4,r4⟩:=trodAll_cons r3
 obtain⟨rfl,rfl,rfl⟩:=trodAll_nil r4
 obtain rfl:args=#[v0,v1,v2,v3,v4]:=by cases args; simp_all
 obtain⟨rfl,rfl⟩:=trodVars_none hV
 have k0:=h0
 have lt0:∀ x∈p0,x.block<W.heap.size:=by obtain⟨m,hm⟩:=k0; exact DataW.trod_lt m _ _ _ hm
 obtain⟨m0,ar0,nr0,cr0,av0,nv0,cv0,rfl,w0⟩:=open_hard (hval 0 42 v0 rfl rfl) h0 (small_each hsz 0 rfl rfl)
 have k1:=h1
 have lt1:∀ x∈p1,x.block<W.heap.size:=by obtain⟨m,hm⟩:=k1; exact DataW.trod_lt m _ _ _ hm
 obtain⟨m1,ar1,nr1,cr1,av1,nv1,cv1,rfl,w1⟩:=open_hard (hval 1 42 v1 rfl rfl) h1 (small_each hsz 1 rfl rfl)
 obtain⟨a2,rfl,rfl,rfl,w2⟩:=open_int Tryz.underlying3 (hval 2 3 v2 rfl rfl) h2
 obtain⟨a3,rfl,rfl,rfl,w3⟩:=open_int Tryz.underlying3 (hval 3 3 v3 rfl rfl) h3
 have k4:=h4
 have lt4:∀ x∈p4,x.block<W.heap.size:=by obtain⟨m,hm⟩:=k4; exact DataW.trod_lt m _ _ _ hm
 obtain⟨a4,n4,c4,z4,rfl,w4,s4⟩:=open_ints2 (hval 4 23 v4 rfl rfl) h4 (small_each hsz 4 rfl rfl)
 clear hA0
 refine (walCrashes_walk m0 ar0 nr0 cr0 av0 nv0 cv0 m1 ar1 nr1 cr1 av1 nv1 cv1 a2 a3 a4 n4 c4 z4 W w0 w1 (bounds_i64 w2) (bounds_i64 w3) w4 s4 (table hlaid)).mono fun e W' ⟨he,bel⟩=>?_
 subst he
 exact⟨_,rfl,_,_,_,[],_,[],hW',trodAll_mk1 (shut_bool Tryz.underlying4 _),(trodAll_cons_mk (Below.trod laidOut (by kernel_rfl) (of_decide_eq_true (by kernel_rfl)) k0 bel lt0) (trodAll_cons_mk (Below.trod laidOut (by kernel_rfl) (of_decide_eq_true (by kernel_rfl)) k1 bel lt1) (trodAll_cons_mk (shut_int Tryz.underlying3 w2) (trodAll_cons_mk (shut_int Tryz.underlying3 w3) (trodAll_cons_mk (Below.trod laidOut (by kernel_rfl) (of_decide_eq_true (by kernel_rfl)) k4 bel lt4) trodAll_mk0))))),rfl,bel.frame _,fun h=>by cases h⟩
noncomputable abbrev startW (os:Os):World:=World.laidAll Tryz.prog os Rows.walCrashesUptoRow.laid
theorem laid_met (os:Os):laidMet Tryz.prog Rows.walCrashesUptoRow.laid ((startW os).forCall (fun _ _=>0) ⟨#[],#[.agg #[.int .i64 0,.int .i64 0,.int .i64 0,.int .i64 0,.slice none 0 0,.string ByteArray.empty,.slice none 0 0],.agg #[.int .i64 0,.int .i64 0,.int .i64 0,.int .i64 0,.slice none 0 0,.string ByteArray.empty,.slice none 0 0],.int .i64 0,.int .i64 0,.slice none 0 0],[]⟩).memory :=
 laidMet_laidAll _ (by kernel_rfl) (by kernel_rfl)
theorem reads (os:Os) {H:Type}(enc:TypeId × Value→H):∃ places,DataW.whole enc Tryz.prog ((startW os).forCall (fun _ _=>0) ⟨#[],#[.agg #[.int .i64 0,.int .i64 0,.int .i64 0,.int .i64 0,.slice none 0 0,.string ByteArray.empty,.slice none 0 0],.agg #[.int .i64 0,.int .i64 0,.int .i64 0,.int .i64 0,.slice none 0 0,.string ByteArray.empty,.slice none 0 0],.int .i64 0,.int .i64 0,.slice none 0 0],[]⟩).memory Tryz.f6.params.toList Rows.walCrashesSpec.vars false (#[.agg #[.int .i64 0,.int .i64 0,.int .i64 0,.int .i64 0,.slice none 0 0,.string ByteArray.empty,.slice none 0 0],.agg #[.int .i64 0,.int .i64 0,.int .i64 0,.int .i64 0,.slice none 0 0,.string ByteArray.empty,.slice none 0 0],.int .i64 0,.int .i64 0,.slice none 0 0]:Array Value).toList 8=some ([.agg [.lit (.int .i64 0),.lit (.int .i64 0),.agg [.lit (.int .i64 0),.lit (.int .i64 0),.nil],.lit (.string []),.nil],.agg [.lit (.int .i64 0),.lit (.int .i64 0),.agg [.lit (.int .i64 0),.lit (.int .i64 0),.nil],.lit (.string []),.nil],.lit (.int .i64 0),.lit (.int .i64 0),.nil],[],places) :=
 ⟨[],by kernel_rfl⟩
set_option maxRecDepth 100000 in
theorem liftedUpto (os:Os) (started:os.Started) (H:Type) (enc:TypeId × Value→H) (F:Stop.Interp) :
 ReturnsInHanded {} Tryz.checked os 6 .any ((Rows.OpenSpec.upto Rows.walCrashesSpec).preRow enc Tryz.prog Tryz.f6 Rows.walCrashesUptoRow.domain false Rows.walCrashesUptoRow.laid) (((Rows.OpenSpec.upto Rows.walCrashesSpec).at F).post enc Tryz.prog Tryz.f6 false true false false):=by
 obtain⟨places,hx⟩:=reads os enc
 refine returnsInHanded_of_row (C:=Tryz.checked) (s:=Rows.OpenSpec.upto Rows.walCrashesSpec) own started (by kernel_rfl) Tryz.func6
  (witness_row_at (enc:=enc) (C:=Tryz.checked) false (startW os) #[.agg #[.int .i64 0,.int .i64 0,.int .i64 0,.int .i64 0,.slice none 0 0,.string ByteArray.empty,.slice none 0 0],.agg #[.int .i64 0,.int .i64 0,.int .i64 0,.int .i64 0,.slice none 0 0,.string ByteArray.empty,.slice none 0 0],.int .i64 0,.int .i64 0,.slice none 0 0] (World.laidAll_os _ _ _) (by kernel_rfl) (by kernel_rfl) (by kernel_rfl)
    (OpenSpec.preRow_of_cond 8 hx (by kernel_rfl) (fun k hk=>by cases hk; kernel_rfl) (by kernel_rfl) (laid_met os))) ?_
 intro W base args ds gs before hval hW _ hcond hsz hlaid _ _
 exact contract H enc W base args ds gs before hval hW hsz hlaid
theorem saidUpto:Rows.WalCrashesUptoSaid :=
 OpenClaim.holds_of_cond 6 Tryz.f6 rfl rfl rfl rfl rfl rfl rfl ⟨rfl,rfl,rfl,rfl,rfl⟩ rfl rfl rfl rfl rfl (by kernel_rfl) Tryz.func6 (by kernel_rfl)
  (of_decide_eq_true (by kernel_rfl)) (by unfold Func.isWrapper; first | (rw [if_pos (by decide +kernel)]; kernel_rfl) | (rw [if_neg (by decide +kernel)]; exact⟨rfl,rfl⟩))
  (fun os started H enc _ F=>by rw [OpenClaim.pre_eq_preRow]; exact liftedUpto os started H enc F)
theorem plain (f:FuncId) (fn:Func) (hf:Tryz.pinned.checked.prog.funcNamed "hornbook/hornbooklaw14.WalCrashes" = some f) (hfn:Tryz.pinned.checked.prog.funcs[f]? = some fn) :
 true=Tryz.pinned.checked.prog.looks []∧∀ (j:Nat) t,fn.params[j]? = some t→Tryz.pinned.checked.prog.wantsStandIn t=false:=by
 obtain rfl:f=6:=Option.some.inj ((show Tryz.prog.funcNamed "hornbook/hornbooklaw14.WalCrashes" = some 6 by kernel_rfl).symm.trans hf) |>.symm
 obtain rfl:fn=Tryz.f6:=(Option.some.inj (Tryz.func6.symm.trans hfn)).symm
 refine⟨by kernel_rfl,fun j t ht=>?_⟩
 rw [Tryz.params6] at ht
 have hm:=Array.mem_of_getElem? ht
 have ho:t=42 ∨ t=42 ∨ t=3 ∨ t=3 ∨ t=23:=by simpa using hm
 rcases ho with rfl | rfl | rfl | rfl | rfl
 ·exact (show Tryz.prog.wantsStandIn 42 = false by kernel_rfl)
 ·exact (show Tryz.prog.wantsStandIn 42 = false by kernel_rfl)
 ·exact (show Tryz.prog.wantsStandIn 3 = false by kernel_rfl)
 ·exact (show Tryz.prog.wantsStandIn 3 = false by kernel_rfl)
 ·exact (show Tryz.prog.wantsStandIn 23 = false by kernel_rfl)
theorem proved:Rows.WalCrashesUptoCardSaid :=
 Claim7.holds_tied_plain_at .later [] _ _ _ _ saidUpto (fun _ h=>by cases h) (by kernel_rfl) (fun _ h=>by cases h) walCrashesUpto_row_tie rfl ⟨rfl,rfl⟩ (by kernel_rfl) rfl plain (by kernel_rfl)
#print axioms proved
end Go.Proofs.YtlpgbmaoenncjaaGreatDoor.walCrashes
