/-
  A region that draws its order, calls, and lays what it got in a box that it makes: whatever the order, the box holds it at the end.
-/
import Derived.Test.YtlpgbmaoenncjaaGreatDoorGen
namespace Go.Proofs.YtlpgbmaoenncjaaGreatDoor
open Go.RowKit
set_option linter.unusedVariables false
section
variable {P:Program}{Q:Exit→Act→World→Prop}{a:Act}
theorem wp_region_lastV {id:Nat}{opsG:Array Oper}{w:World}(ops:Array Oper) (ds:List (Option Nat)) (n:Nat) (T:Nat→Value→World→Prop) (C:Vals→World→Prop) (drops:Nat→List Nat)
 (hops:opsG=ops) (hds:(ops.toList.map (·.dst)).take n=ds) (hn:ops.size=n+1) (hm:P.follows .mixedOrders=true) (hl:loneB ops=true) (hb:backB ops=true) (hlast:lastB ops n=true)
 (h0:C (fun _=>none) w.drew) (hstep:∀ i o,i<n→ops[i]? = some o→StepOkE P ops a C T drops i o)
 (hfin:∀ o,ops[n]? = some o→∀ (e:Vals) (vs:List Value) w',vs.length=n→(∀ j v,vs[j]? = some v→e j=some v)→C e w'→(∀ j v,vs[j]? = some v→dropped ops drops j=false→T j v w') →
   ∀ K:Act→World→Prop,(∀ v w,Q .normal ((puts ds vs a).put o.dst v) w→K ((puts ds vs a).put o.dst v) w)→if Region.wanted o (yielded ops (puts ds vs a).tmps)=true then Oper.wp P o (puts ds vs a) w' K Q else K ((puts ds vs a).put o.dst undef) w') :
 (Code.region id opsG true).wp P Q a w:=by
 subst hops
 subst hds
 refine wp_region_any hm ?_
 have key:=wpAny_vals (P:=P) (ops:=opsG) (Q:=Q) hl hb (fun e w=>(∀ j,(e j).isSome=true→∀ k,(waits opsG j).contains k=true→(e k).isSome=true)∧(∀ v,e n=some v→Q .normal (filled opsG e a) w) ∧
  (e n=none→C e w∧∀ j v,e j=some v→(∃ i,i<opsG.size∧(e i).isSome=true∧(drops i).contains j=true)∨T j v w)) a ?_ ?_
 ·have h:=key opsG.size (Array.replicate opsG.size false) (fun _=>none) w.drew (by simp) (fun i hi=>by simp [hi]) (missing_le _ _) ⟨(fun j h=>by cases h),(fun v h=>by cases h),fun _=>⟨h0,fun j v h=>by cases h⟩⟩
  rw [filled_none] at h
  exact h
 ·intro i o ho e w1 ⟨hcl,hq,hI⟩ hei hw
  have hin:i<opsG.size:=(Array.getElem?_eq_some_iff.1 ho).1
  have hclose:∀ v,∀ j,((e.set i v) j).isSome=true→∀ k,(waits opsG j).contains k=true→((e.set i v) k).isSome=true:=by
   intro v j hj k hk2
   by_cases hki:k=i
   ·subst hki; rw [Vals.set_same]; rfl
   ·rw [Vals.set_other e v hki]
    by_cases hji:j=i
    ·subst hji; exact hw k (by simpa using hk2)
    ·rw [Vals.set_other e v hji] at hj; exact hcl j hj k hk2
  have hen:e n=none:=by
   cases hc:e n with
   | none=>rfl
   | some v =>
     by_cases hni:i=n
     ·subst hni; rw [hei] at hc; cases hc
     ·have:=lastB_some hlast hcl (by rw [hc]; rfl) i (by omega)
      rw [hei] at this; cases this
  obtain⟨hC,hT⟩:=hI hen
  refine wpOp_step ho fun K hK=>?_
  have hdi:dstOf opsG i=o.dst:=by unfold dstOf; rw [ho]; rfl
  by_cases hni:i=n
  ·subst hni
   have hall:∀ j,j<i→(e j).isSome=true:=by
    intro j hj
    have h1:=lastB_some (e:=e.set i undef) hlast (hclose undef) (by rw [Vals.set_same]; rfl) j hj
    rwa [Vals.set_other e undef (by omega)] at h1
   have hval:∀ j,j<i→e j=some ((e j).getD undef):=fun j hj=>by
    have h1:=hall j hj
    cases hc:e j with
    | none=>rw [hc] at h1; cases h1
    | some v=>rfl
   have hfill:filled opsG e a=puts ((opsG.toList.map (·.dst)).take i) ((List.range i).map fun j=>(e j).getD undef) a:=by
    rw [← putFrom_puts (ops:=opsG) _ 0 _ (fun j hj=>?_) a]
    ·exact filled_is' hl _ i (by simp) hn (fun j hj=>by rw [hval j (by simpa using hj)]; simp) hei a
    ·rw [List.length_map,List.length_range] at hj
     rw [Nat.zero_add,List.getElem?_take_of_lt hj]
     unfold dstOf
     rw [List.getElem?_map,Array.getElem?_toList,Array.getElem?_eq_getElem (by omega)]
     rfl
   rw [hfill]
   refine hfin o ho e ((List.range i).map fun j=>(e j).getD undef) w1 (by simp) (fun j v hj=>?_) hC (fun j v hj hd=>?_) K (fun v w hA=>?_)
   ·have hji:j<i:=by have:=(List.getElem?_eq_some_iff.1 hj).1; simpa using this
    rw [List.getElem?_map,List.getElem?_range hji] at hj
    rw [hval j hji]
    simpa using hj
   ·have hji:j<i:=by have:=(List.getElem?_eq_some_iff.1 hj).1; simpa using this
    have hjv:e j=some v:=by
     rw [List.getElem?_map,List.getElem?_range hji] at hj
     rw [hval j hji]
     simpa using hj
    rcases hT j v hjv with ⟨k,hk,hke,hkd⟩ | h
    ·exfalso
     have:dropped opsG drops j=true:=List.any_eq_true.2 ⟨k,List.mem_range.2 hk,hkd⟩
     rw [hd] at this; cases this
    ·exact h
   ·rw [← hfill] at hA ⊢
    refine hK _ _ ⟨v,by rw [← hdi,filled_put hl],hclose v,(fun u hu=>by rw [← filled_put hl,hdi]; exact hA),fun h=>by rw [Vals.set_same] at h; cases h⟩
  ·have hil:i<n:=by omega
   have hgo:=hstep i o hil ho e _ w1 rfl hC (fun j hj=>?_) (fun j hj=>?_) K (fun v w' hv hC' hk=>?_)
   ·split
    ·rename_i hwt; rw [if_pos hwt] at hgo; exact wp_noQ hgo
    ·rename_i hwt; rw [if_neg hwt] at hgo; exact hgo
   ·have h1:=hw j (by simpa using hj)
    cases hc:e j with
    | none=>rw [hc] at h1; cases h1
    | some v =>
      refine⟨v,rfl,fun hh=>?_⟩
      rcases hT j v hc with ⟨k,hk,hke,hkd⟩ | h
      ·exfalso
       have h2:=List.all_eq_true.1 hh k (List.mem_range.2 hk)
       have hne:k≠i:=fun he=>by subst he; rw [hei] at hke; cases hke
       rw [hkd] at h2
       simp [hne] at h2
      ·exact h
   ·cases hc:e j with
    | none=>rfl
    | some v =>
      have:=upS_some hcl opsG.size [j] (fun k hk=>by simp at hk; subst hk; rw [hc]; rfl) i (by simpa using hj)
      rw [hei] at this; cases this
   ·refine hK _ _ ⟨v,by rw [← hdi,filled_put hl],hclose v,(fun u hu=>by rw [Vals.set_other e v (Ne.symm hni),hen] at hu; cases hu),fun _=>⟨hC',fun j u hj=>?_⟩⟩
    by_cases hji:j=i
    ·subst hji
     rw [Vals.set_same] at hj
     cases hj
     exact .inr hv
    ·rw [Vals.set_other e v hji] at hj
     rcases hT j u hj with ⟨k,hk,hke,hkd⟩ | h
     ·refine .inl ⟨k,hk,?_,hkd⟩
      by_cases hki:k=i
      ·subst hki; rw [Vals.set_same]; rfl
      ·rw [Vals.set_other e v hki]; exact hke
     ·by_cases hdr:∃ k,k<opsG.size∧((e.set i v) k).isSome=true∧(drops k).contains j=true
      ·exact .inl hdr
      ·refine .inr (hk j u hj hji ?_ (fun k hks hkd=>?_) h)
       rotate_left
       ·have hki:k≠i:=fun he=>hdr ⟨k,hks,by subst he; rw [Vals.set_same]; rfl,hkd⟩
        refine⟨hki,?_⟩
        cases hc:e k with
        | none=>rfl
        | some x=>exact absurd ⟨k,hks,by rw [Vals.set_other e v hki,hc]; rfl,hkd⟩ hdr
       cases hcw:(waits opsG j).contains i with
       | false=>rfl
       | true =>
         have:=hcl j (by rw [hj]; rfl) i hcw
         rw [hei] at this; cases this
 ·intro e w1 ⟨hcl,hq,hI⟩ hall
  have h1:=hall n (by omega)
  cases hc:e n with
  | none=>rw [hc] at h1; cases h1
  | some v=>exact hq v hc
end
section
variable {P:Program}{ops:Array Oper}{C:Vals→World→Prop}{T:Nat→Value→World→Prop}{drops:Nat→List Nat}{i:Nat}{o:Oper}{e:Vals}{A:Act}{w w':World}{K:Act→World→Prop}
theorem step_valueE {v:Value}(hk:NextE ops C T drops i e A w o.dst K) (hw:Region.wanted o (yielded ops A.tmps)=true) (hr:(execOp A.eval o).run P w = .ok (.value v) w') (ht:T i v w') (hC:C (e.set i v) w')
 (hkeep:∀ j u,e j=some u→j≠i→(waits ops j).contains i=false→(∀ k,k<ops.size→(drops k).contains j=true→k≠i∧e k=none)→T j u w→T j u w') :
 if Region.wanted o (yielded ops A.tmps)=true then Oper.wp P o A w K noQ else K (A.put o.dst undef) w:=by
 rw [if_pos hw]
 unfold Oper.wp
 rw [hr]
 exact hk v w' ht hC hkeep
theorem step_skipE (hk:NextE ops C T drops i e A w o.dst K) (hw:Region.wanted o (yielded ops A.tmps)=true) (hr:(execOp A.eval o).run P w = .ok .skip w') (ht:T i undef w') (hC:C (e.set i undef) w')
 (hkeep:∀ j u,e j=some u→j≠i→(waits ops j).contains i=false→(∀ k,k<ops.size→(drops k).contains j=true→k≠i∧e k=none)→T j u w→T j u w') :
 if Region.wanted o (yielded ops A.tmps)=true then Oper.wp P o A w K noQ else K (A.put o.dst undef) w:=by
 rw [if_pos hw]
 unfold Oper.wp
 rw [hr]
 exact hk undef w' ht hC hkeep
end
def CBox (w1:World) (t:TypeId) (ia s:Nat) (zero:List Value) (fin:List Value→World→Prop) (e:Vals) (w:World):Prop :=
 Below w1.heap.size w1 w∧∀ u,e ia=some u→∃ p,u = .pointer (some ⟨p,0,none⟩)∧w1.heap.size≤p∧(e s=none→w.heap[p]? = some (.cells zero.toArray t (0,0)))∧∀ x,e s=some x→∃ cs,w.heap[p]? = some (.cells cs.toArray t (0,0))∧fin cs w
theorem CBox.keep {w1:World}{t:TypeId}{ia s:Nat}{zero:List Value}{fin:List Value→World→Prop}(hf:∀ cs w w',Below w.heap.size w w'→fin cs w→fin cs w') {e:Vals}{w w':World}(h:CBox w1 t ia s zero fin e w) (hb:Below w.heap.size w w')
 {i:Nat}(h1:i≠ia) (h2:i≠s) (v:Value):CBox w1 t ia s zero fin (e.set i v) w':=by
 refine⟨below_then h.1 hb h.1.size,fun u hu=>?_⟩
 rw [Vals.set_other e v (fun e=>h1 e.symm)] at hu
 obtain⟨p,rfl,hp,hz,hs⟩:=h.2 u hu
 refine⟨p,rfl,hp,fun hn=>?_,fun x hx=>?_⟩
 ·rw [Vals.set_other e v (fun e=>h2 e.symm)] at hn
  exact (hb.block p (lt_of_block (hz hn))).trans (hz hn)
 ·rw [Vals.set_other e v (fun e=>h2 e.symm)] at hx
  obtain⟨cs,h3,h4⟩:=hs x hx
  exact⟨cs,(hb.block p (lt_of_block h3)).trans h3,hf _ _ _ hb h4⟩
theorem CBox.start {w1:World}{t:TypeId}{ia s:Nat}{zero:List Value}{fin:List Value→World→Prop}:CBox w1 t ia s zero fin (fun _=>none) w1.drew :=
 ⟨(Below.refl _ _).drew,fun u hu=>by cases hu⟩
end Go.Proofs.YtlpgbmaoenncjaaGreatDoor
