/-
  '[]byte("l")': a row of one's own with one place marked behind its last (it is full): what an append makes of it is a row of one's own again.
-/
import Derived.Test.YtlpgbmaoenncjaaGreatDoorGen
import Derived.Lib.AppendStr
import Derived.Lib.SmallJoins
namespace Go.Proofs.YtlpgbmaoenncjaaGreatDoor
open Go.RowKit
def OwnsM (w:World) (base:Nat) (e:TypeId) (v:Value) (n:Nat) (xs:List Value):Prop :=
 w.ownsRow base e 1 v n xs∨∃ g x,v = .slice (some ⟨g,0,none⟩) 1 1∧base≤g∧n=1∧xs=[x]∧w.heap[g]? = some (.cells #[x] e (1,2))
theorem OwnsM.alloc {w:World}{base n:Nat}{e:TypeId}{v:Value}{xs:List Value}(h:OwnsM w base e v n xs) (o:Obj):OwnsM (w.alloc o) base e v n xs:=by
 rcases h with h | ⟨g,x,rfl,hb,rfl,rfl,hg⟩
 ·exact .inl (h.alloc o)
 ·exact .inr ⟨g,x,rfl,hb,rfl,rfl,by
   have hlt:g<w.heap.size:=by
    rcases Nat.lt_or_ge g w.heap.size with h' | h'
    ·exact h'
    ·simp [Array.getElem?_eq_none h'] at hg
   rw [← hg]; exact heap_alloc_old w o hlt⟩
theorem OwnsM.lt {w:World}{base n:Nat}{e:TypeId}{v:Value}{xs:List Value}(h:OwnsM w base e v n xs):∀ k,v.ownBlock=some k→k<w.heap.size∧base≤k:=by
 intro k hk
 rcases h with h | ⟨g,x,rfl,hb,rfl,rfl,hg⟩
 ·have:=h.lt k hk
  rcases h.2 with ⟨rfl,_⟩ | ⟨g,cap,cur,rfl,hb,_⟩
  ·simp [Value.ownBlock] at hk
  ·simp [Value.ownBlock] at hk
   subst hk
   exact⟨this.2,hb⟩
 ·simp [Value.ownBlock] at hk
  subst hk
  refine⟨?_,hb⟩
  rcases Nat.lt_or_ge g w.heap.size with h' | h'
  ·exact h'
  ·simp [Array.getElem?_eq_none h'] at hg
theorem OwnsM.kept {w w':World}{base n:Nat}{e:TypeId}{v:Value}{xs:List Value}(h:OwnsM w base e v n xs) (hb:Below w.heap.size w w'):OwnsM w' base e v n xs:=by
 rcases h with h | ⟨g,x,rfl,hb',rfl,rfl,hg⟩
 ·exact .inl (h.kept (⟨hb.os,hb.tape,hb.output,hb.size,fun k hk _=>hb.block k hk⟩:w.grownBy w' none) (by cases hv:v.ownBlock <;> simp))
 ·exact .inr ⟨g,x,rfl,hb',rfl,rfl,by
   have hlt:g<w.heap.size:=by
    rcases Nat.lt_or_ge g w.heap.size with h' | h'
    ·exact h'
    ·simp [Array.getElem?_eq_none h'] at hg
   rw [hb.block g hlt]; exact hg⟩
theorem ownsM_new (w:World) (B:Nat) (hB:B≤w.heap.size) (e:TypeId) (x:Value):OwnsM (w.alloc (.cells #[x] e (1,2))) B e (.slice (some ⟨w.heap.size,0,none⟩) 1 1) 1 [x] :=
 .inr ⟨w.heap.size,x,rfl,hB,rfl,rfl,heap_alloc_new w _⟩
theorem rowm_grown (w:World) (base n m old:Nat) (e:TypeId) (z:Value) (hz:z.cells.size=1) (xs ys:List Value) (hx:xs.length=n) (hy:ys.length=m) (h63:n+m≤maxLen) (hb:base≤w.heap.size) :
 (w.drew.alloc (.cells (xs.toArray++ys.toArray++Builtin.zeroCells z.cells (grownCap w (n+m) old e - (n+m))) e)).ownsRow base e 1 (.slice (some ⟨w.heap.size,0,none⟩) (n+m) (grownCap w (n+m) old e)) (n+m) (xs++ys):=by
 have hge:=grownCap_ge w (n+m) old e
 have hcm:grownCap w (n+m) old e≤maxLen:=grownCap_le_maxLen w (n+m) old e h63
 have hlen:(xs++ys).length=(n+m)*1:=by rw [List.length_append,hx,hy,Nat.mul_one]
 refine⟨hlen,.inr ⟨w.heap.size,_,_,rfl,hb,heap_alloc_new w.drew _,hge,hcm,?_,?_⟩⟩
 ·simp only [Array.size_append,List.size_toArray,size_zeroCells,hz,hx,hy]
  omega
 ·simp only [Array.toList_append,List.append_assoc]
  rw [← List.append_assoc,← hlen]
  exact List.take_left
theorem wpList_appM_string {P:Program}(w:World) {ops:Array Oper}{rest:List Oper}{o:Oper}{a:Act}{Q:Exit→Act→World→Prop}(hgd:o.guard=none) (sl x:Operand) (t u:TypeId)
 (ho:o.op = .call { callee:=.builtin .append,args:=#[sl,x],argTypes:=#[t,u] })
 (base:Nat) (e:TypeId) (i:TypeInfo) (ht:P.underlying t=some (.slice e)) (hu:P.underlying u=some .string) (hi:P.info? e=some i) (hz:i.zero=some (.int .u8 0))
 (hsize:i.size=1) (hby:i.bytes=1)
 (v:Value) (n:Nat) (xs:List Value) (hs:a.eval sl=v) (hown:OwnsM w base e v n xs) (s:ByteArray) (hx:a.eval x = .string s) (hpos:0<s.size)
 (h63:n+s.size≤maxLen) (hbytes:n+s.size≤140737488355328) (hbase:base≤w.heap.size)
 (h:∀ v' w',w'.ownsRow base e 1 v' (n+s.size) (xs++Lib.strCells s)→w.grownBy w' v.ownBlock→wpList P ops Q rest (a.put o.dst v') w'):wpList P ops Q (o :: rest) a w:=by
 rcases hown with hown | ⟨g,x0,rfl,hbg,rfl,rfl,hg⟩
 ·exact Lib.wpList_append_own_string w hgd sl x t u ho base e i ht hu hi hz hsize hby v n xs hs hown s hx h63 hbytes hbase (fun v' w' h1 h2 _=>h v' w' h1 h2)
 ·refine wpList_plain hgd fun K hK=>?_
  have hr:=Lib.run_append_grow_string (P:=P) w t u o.type e i (.int .u8 0) ht hu hi hz ⟨g,0,none⟩ 1 1 [x0] (by rw [hsize]; rfl) (by
   intro j y hj
   match j,hj with
   | 0,hj =>
     simp at hj
     subst hj
     show w.cell? ⟨g,0,none⟩=_
     simp [World.cell?,hg]) s (by omega) (by simp only [maxLen] at h63; omega) (by rw [hby]; exact growslice_fits (by omega) (by omega))
  unfold Oper.wp execOp
  simp only [ho,resolve,invoke,builtin,Sem.run_bind,Sem.run_pure,Result.andThen_ok,List.map_toArray,List.map_cons,List.map_nil,hs,hx,hr]
  exact hK _ _ (h _ _ (rowm_grown w base 1 s.size 1 e (.int .u8 0) rfl [x0] (Lib.strCells s) rfl (Lib.strCells_length s) h63 hbase) ⟨rfl,rfl,rfl,by simp,fun k hk _=>heap_alloc_old w.drew _ hk⟩)
theorem wpList_appM1 {P:Program}(w:World) {ops:Array Oper}{rest:List Oper}{o:Oper}{a:Act}{Q:Exit→Act→World→Prop}(hgd:o.guard=none) (s x:Operand) (t:TypeId)
 (ho:o.op = .call { callee:=.builtin .append,args:=#[s,x],argTypes:=#[t,t] })
 (base:Nat) (e:TypeId) (i:TypeInfo) (z:Value) (ht:P.underlying t=some (.slice e)) (hi:P.info? e=some i) (hz:i.zero=some z)
 (hsize:i.size=1) (hby:i.bytes=1) (hzs:z.cells.size=1)
 (v:Value) (n:Nat) (xs:List Value) (hown:OwnsM w base e v n xs) (hs:a.eval s=v)
 (u:Value) (T:TypeId) (hx:a.eval x = .slice (some ⟨w.heap.size,0,none⟩) 1 1) (h1:u.oneCell'=true)
 (h63:n+1≤maxLen) (hbytes:n+1≤140737488355328) (hbase:base≤w.heap.size)
 (h:∀ v' w',w'.ownsRow base e 1 v' (n+1) (xs++[u])→w.grownBy w' v.ownBlock→wpList P ops Q rest (a.put o.dst v') w') :
 wpList P ops Q (o :: rest) a (w.alloc (.cells #[u] T)):=by
 rcases hown with hown | ⟨g,x0,rfl,hbg,rfl,rfl,hg⟩
 ·exact wpList_app1 w hgd s x t ho base e i z 1 ht hi hz hsize hby hzs v n xs hown hs u T hx h1 h63 (by omega) hbase (fun v' w' h1 h2 _=>h v' w' h1 h2)
 ·refine wpList_plain hgd fun K hK=>?_
  have hg2:(w.alloc (.cells #[u] T)).heap[g]? = some (.cells #[x0] e (1,2)):=by
   have hlt:g<w.heap.size:=by
    rcases Nat.lt_or_ge g w.heap.size with h' | h'
    ·exact h'
    ·simp [Array.getElem?_eq_none h'] at hg
   rw [← hg]; exact heap_alloc_old w _ hlt
  have hr:=run_append_grow (P:=P) (w.alloc (.cells #[u] T)) t o.type e i z ht hi hz ⟨g,0,none⟩ 1 1 [x0] (by rw [hsize]; rfl) (by
   intro j y hj
   match j,hj with
   | 0,hj =>
     simp at hj
     subst hj
     show (w.alloc (.cells #[u] T)).cell? ⟨g,0,none⟩=_
     simp [World.cell?,hg2]) ⟨w.heap.size,0,none⟩ 1 1 [u] (by rw [hsize]; rfl) (by
   intro j y hj
   match j,hj with
   | 0,hj =>
     simp at hj
     subst hj
     simp [Addr.add]) (by omega) (by simp only [maxLen] at h63; omega) (growslice_fits (by omega) (by rw [hby]; decide))
  unfold Oper.wp execOp
  simp only [ho,resolve,invoke,builtin,Sem.run_bind,Sem.run_pure,Result.andThen_ok,List.map_toArray,List.map_cons,List.map_nil,hs,hx,hr]
  refine hK _ _ (h _ _ (rowm_grown (w.alloc (.cells #[u] T)) base 1 1 1 e z hzs [x0] [u] rfl rfl h63 (by simp; omega)) ⟨rfl,rfl,rfl,by simp; omega,fun k hk _=>?_⟩)
  rw [heap_alloc_old (w.alloc (.cells #[u] T)).drew _ (by show k<(w.alloc _).heap.size; simp; omega)]
  exact heap_alloc_old w _ hk
end Go.Proofs.YtlpgbmaoenncjaaGreatDoor
