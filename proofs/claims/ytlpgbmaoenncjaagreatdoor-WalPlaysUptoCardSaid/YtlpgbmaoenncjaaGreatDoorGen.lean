/-
  Small facts on lists, bytes and remainders that the walks and the plain laws of this seat share; they hold without a condition.
  What a world holds, as this seat's contracts say it: rows of bytes of one's own; slices that came in; what stays when only new blocks are made. Without a condition.
  Slices of one-celled elements, as this seat's contracts say them: what is read through one, what one of one's own holds; without a condition.
  'append(out, x)' on a row of one's own: what is owned behind it, and that its block is the old one or a new one; without a condition but for the sizes.
  Slices of structs, whatever the struct: what is read through one, what one of one's own holds, append onto it, a parameter that is one; without a condition but for the sizes.
  A block known whole that append, copy and clear rewrite in place, whatever the elements' size in cells; without a condition but for the bounds.
  A block of four cells that is written whole; without a condition.
  Messages in plain Lean: which voters, logs and messages may be; without a condition.
  A region that draws its order, met operation by operation, each ONCE, whatever order is drawn: each operation is shown to go well behind those that it waits for, and to leave what the others have told. Without a condition.
  A region that draws its order, whose last operation waits for all others: the others met one by one, each once; the last one behind them, alone. Without a condition.
  A region that draws its order, whose last operations stand in one forced order (each waits for all ahead of it): the others met one by one, each once; the last ones behind them, as a list. Without a condition.
  A region that draws its order, one of whose operations ends what held ahead of it (an append onto a row that is read before): what holds may depend on which operations are done. Without a condition.
  Small laws of texts and of slices of texts; without a condition.
  The rows of the program's table for the element types that this seat's slices have.
  A region that draws its order, whose callees make new blocks alone; without a condition.
  Slices that are read, whoever owns them: what append, Concat and Clone make of them.
  What came in, read off its datum: a struct's fields with their sizes, a slice whose elements are structs; without a condition but for the reach.
  The walks of slices.Grow of nil, slices.Concat of two, and slices.Clone, of slices of strings: a slice of one's own.
  The walks of slices.Clone at texts and of net.Send, Take and Twice.
-/
import Derived.WalkKit
import Derived.Lib.Strings
import Derived.Below
import Derived.Laws.IdiomStrings
import Derived.Laws.BytesArg
import Derived.Lib.Hide
import Derived.Lib.IndexBytes
import Derived.Deep.QuietTactic
import Derived.BigQuiet
import Derived.OneCell
import Derived.OwnWalk
import Derived.Deep.Slices
import Derived.Deep.Fields
import Derived.ChangeSame
import Derived.OpenShut
import Derived.SizedLaws
import Derived.Laws.AppendOwnNone
import Derived.Lib.Builder
import Derived.Laws.CopyRow
import Derived.Laws.CopyOwn
import Derived.Deep.RegionLaw
import Derived.RegionTactic
import Derived.BigRegion
import Derived.Tactics
import Derived.Lib.SplitLaws
import Derived.Test.YtlpgbmaoenncjaaGreatDoorRows
import Derived.WalkSpells
import Derived.WalkLawsBesides
import Derived.KernelRfl
import Derived.Lib.SmallJoins
import Derived.Deep.Quiet
import Derived.Lib.AppendZerosOnto
import Derived.Lib.SliceRun
import Derived.Deep.LoopGhost
namespace Go.Proofs.YtlpgbmaoenncjaaGreatDoor
theorem ret_int {k:IntKind}{a b:Int}(h:a=b):Ending.returned (.int k a) = .returned (.int k b):=by rw [h]
theorem ret_bool {a b:Bool}(h:a=b):Ending.returned (.bool a) = .returned (.bool b):=by rw [h]
theorem take_snoc (s:ByteArray) (k:Nat) (h:k<s.size):s.data.toList.take (k+1)=s.data.toList.take k++[s[k]]:=by
 rw [List.take_succ_eq_append_getElem (by simpa using h)]; rfl
theorem take_all (s:ByteArray) (k:Nat) (h:¬ k<s.size):s.data.toList.take k=s.data.toList :=
 List.take_of_length_le (by simp; omega)
theorem size_len (s:ByteArray):s.size=s.data.toList.length:=by simp
theorem byte_at (s:ByteArray) (k:Nat) (h:k<s.size):s[k]=s.data.toList[k]'(by simpa using h):=rfl
theorem byte_lt (b:UInt8):b.toNat<256:=b.toNat_lt
end Go.Proofs.YtlpgbmaoenncjaaGreatDoor
namespace Go.Proofs.YtlpgbmaoenncjaaGreatDoor
open Go.RowKit
theorem cell_keep {w w':World}(h:Below w.heap.size w w') {a:Addr}{v:Value}(hc:w.cell? a=some v):w'.cell? a=some v :=
 (h.cell (World.block_lt_of_cell? w a hc)).trans hc
theorem qsame {P:Program}{f:FuncId}{args:Array Value}{w:World}{n:Nat}{v:Value}
 (h:Calls P f args (w.drewN n) fun e w'=>e = .returned v∧w.drewN n=w'):Calls P f args (w.drewN n) fun e w''=>e = .returned v∧∃ m,w''=w.drewN m :=
 h.mono fun _ _ ⟨he,hm⟩=>⟨he,n,hm.symm⟩
theorem below_drewN {B:Nat}{a w:World}(h:Below B a w) (n:Nat):Below B a (w.drewN n):=⟨h.os,h.tape,h.output,h.size,h.block⟩
structure BytesAt (w:World) (B:Nat) (l:List UInt8):Prop where
 lt:B<w.heap.size
 cell:∀ j (hj:j<l.length),w.cell? ⟨B,j,none⟩=some (.int .u8 (l[j].toNat:Int))
 free:∀ j,j<l.length→w.frozen? ⟨B,j,none⟩=false
theorem BytesAt.drewN {w:World}{B:Nat}{l:List UInt8}(h:BytesAt w B l) (n:Nat):BytesAt (w.drewN n) B l:=⟨h.lt,h.cell,h.free⟩
theorem BytesAt.drew {w:World}{B:Nat}{l:List UInt8}(h:BytesAt w B l):BytesAt w.drew B l:=⟨h.lt,h.cell,h.free⟩
theorem BytesAt.set {w:World}{B:Nat}{l:List UInt8}(h:BytesAt w B l) (j:Nat) (hj:j<l.length) (x:UInt8) (v:Int) (hv:v=(x.toNat:Int)) :
 BytesAt (w.setCell ⟨B,j,none⟩ (.int .u8 v)) B (l.set j x):=by
 subst hv
 refine⟨by simpa using h.lt,fun i hi=>?_,fun i hi=>?_⟩
 ·have hi':i<l.length:=by simpa using hi
  by_cases he:i=j
  ·subst he
   rw [World.cell?_setCell_same w _ _ (h.cell i hi')]
   simp
  ·rw [World.cell?_setCell_other w _ _ _ (fun e=>he (congrArg Addr.off e).symm),h.cell i hi']
   simp [Ne.symm he]
 ·rw [World.frozen?_setCell]
  exact h.free i (by simpa using hi)
def strOf (l:List UInt8):ByteArray:=⟨l.toArray⟩
theorem strOf_size (l:List UInt8):(strOf l).size=l.length:=by simp [strOf,ByteArray.size]
theorem strOf_self (s:ByteArray):strOf s.data.toList=s:=rfl
theorem toList_ne {a b:ByteArray}(h:a≠b):(a.toList==b.toList)=false:=by
 rw [beq_eq_false_iff_ne]
 intro e
 apply h
 rw [ByteArray.toList_eq,ByteArray.toList_eq] at e
 obtain⟨⟨a⟩⟩:=a; obtain⟨⟨b⟩⟩:=b
 simp at e; rw [e]
theorem below_then {B:Nat}{w w1 w2:World}(h:Below B w w1) (k:Below w1.heap.size w1 w2) (hB:B≤w1.heap.size):Below B w w2:=h.trans (k.mono hB)
end Go.Proofs.YtlpgbmaoenncjaaGreatDoor
namespace Go.Proofs.YtlpgbmaoenncjaaGreatDoor
open Go.RowKit
def One (w:World) (b:Nat) (t:TypeId) (v:Value):Prop:=w.heap[b]? = some (.cells #[v] t (0,0))
theorem One.drew {w:World}{b:Nat}{t:TypeId}{v:Value}(h:One w b t v):One w.drew b t v:=h
theorem One.drewN {w:World}{b:Nat}{t:TypeId}{v:Value}(h:One w b t v) (n:Nat):One (w.drewN n) b t v:=h
theorem One.new (w:World) (t:TypeId) (v:Value):One (w.alloc (.cells #[v] t)) w.heap.size t v:=heap_alloc_new w _
theorem One.lt {w:World}{b:Nat}{t:TypeId}{v:Value}(h:One w b t v):b<w.heap.size:=lt_of_block h
theorem One.alloc {w:World}{b:Nat}{t:TypeId}{v:Value}(h:One w b t v) (o:Obj):One (w.alloc o) b t v:=(Below.heap_alloc w o b (lt_of_block h)).trans h
theorem One.grown {w w':World}{b:Nat}{t:TypeId}{v:Value}(h:One w b t v) {row:Option Nat}(hg:w.grownBy w' row) (hr:some b≠row):One w' b t v:=(hg.block b (lt_of_block h) hr).trans h
theorem One.other {w:World}{b:Nat}{t:TypeId}{v:Value}(h:One w b t v) (a:Addr) (u:Value) (hn:b≠a.block):One (w.setCell a u) b t v:=(Below.heap_setCell w a u b hn).trans h
theorem One.below {w w':World}{b:Nat}{t:TypeId}{v:Value}(h:One w b t v) (hb:Below w.heap.size w w'):One w' b t v:=(hb.block b (lt_of_block h)).trans h
theorem One.ne {w:World}{b b':Nat}{t t':TypeId}{v v':Value}(h:One w b t v) (h':One w b' t' v') (hv:t≠t'):b≠b':=fun e=>by
 subst e
 have:=h.symm.trans h'
 simp at this
 exact hv this.2
theorem grown_trans {a b c:World}{row:Option Nat}(h:a.grownBy b row) (k:b.grownBy c row):a.grownBy c row :=
 ⟨k.os.trans h.os,k.tape.trans h.tape,k.output.trans h.output,Nat.le_trans h.size k.size,fun i hi hr=>(k.block i (Nat.lt_of_lt_of_le hi h.size) hr).trans (h.block i hi hr)⟩
theorem grown_drewN {a b:World}{row:Option Nat}(h:a.grownBy b row) (n:Nat):a.grownBy (b.drewN n) row:=⟨h.os,h.tape,h.output,h.size,h.block⟩
theorem grown_setCell (w:World) (b o:Nat) (u:Value):w.grownBy (w.setCell ⟨b,o,none⟩ u) (some b) :=
 ⟨rfl,rfl,rfl,by simp,fun k _ hk=>Below.heap_setCell w _ u k (fun e=>hk (by simp [e]))⟩
theorem grown_below {w w':World}(h:Below w.heap.size w w') (row:Option Nat):w.grownBy w' row:=⟨h.os,h.tape,h.output,h.size,fun k hk _=>h.block k hk⟩
def SlAt (w:World) (a:Option Addr) (n:Nat) (xs:List Value):Prop :=
 n=xs.length∧(xs=[]∨∃ b off,a=some ⟨b,off,none⟩∧∀ i (h:i<xs.length),w.cell? ⟨b,off+i,none⟩=some xs[i])
theorem SlAt.keep {w w':World}{a:Option Addr}{n:Nat}{xs:List Value}(h:SlAt w a n xs) (hb:Below w.heap.size w w'):SlAt w' a n xs:=by
 refine⟨h.1,?_⟩
 rcases h.2 with h0 | ⟨b,off,ha,hc⟩
 ·exact .inl h0
 ·exact .inr ⟨b,off,ha,fun i hi=>cell_keep hb (hc i hi)⟩
theorem SlAt.kept {w w':World}{a:Option Addr}{n:Nat}{xs:List Value}(h:SlAt w a n xs) {row:Option Nat}(hg:w.grownBy w' row) (hr:∀ b,a.map Addr.block=some b→row≠some b):SlAt w' a n xs:=by
 refine⟨h.1,?_⟩
 rcases h.2 with h0 | ⟨b,off,ha,hc⟩
 ·exact .inl h0
 ·refine .inr ⟨b,off,ha,fun i hi=>hg.cell (hc i hi) (fun e=>hr b (by rw [ha]; rfl) e.symm)⟩
theorem SlAt.drewN {w:World}{a:Option Addr}{n:Nat}{xs:List Value}(h:SlAt w a n xs) (m:Nat):SlAt (w.drewN m) a n xs:=h
theorem SlAt.nil (w:World) (a:Option Addr):SlAt w a 0 []:=⟨rfl,.inl rfl⟩
theorem SlAt.ofOwn {w:World}{base:Nat}{e:TypeId}{a:Option Addr}{n cap k:Nat}{xs:List Value}(h:w.ownsRow base e 1 (.slice a n cap) k xs):SlAt w a n xs:=by
 have hl:xs.length=k:=by have:=h.1; omega
 rcases h.2 with ⟨hv,hk⟩ | ⟨g,c,cur,hv,hb,hg,hn,hm,hs,ht⟩
 ·cases hv
  subst hk
  have:xs=[]:=List.eq_nil_of_length_eq_zero hl
  subst this
  exact SlAt.nil w _
 ·cases hv
  refine⟨hl.symm,.inr ⟨g,0,rfl,fun i hi=>?_⟩⟩
  have hc:=h.cells (g:=g) rfl i xs[i] (List.getElem?_eq_getElem hi)
  unfold Addr.add at hc
  split at hc
  ·rename_i h0; subst h0; exact hc
  ·exact hc
def strs (l:List ByteArray):List Value:=l.map Value.string
theorem strs_length (l:List ByteArray):(strs l).length=l.length:=by simp [strs]
theorem strs_snoc (l:List ByteArray) (s:ByteArray):strs (l++[s])=strs l++[Value.string s]:=by simp [strs]
def i64s (l:List Int):List Value:=l.map (Value.int .i64)
theorem i64s_length (l:List Int):(i64s l).length=l.length:=by simp [i64s]
theorem i64s_snoc (l:List Int) (s:Int):i64s (l++[s])=i64s l++[Value.int .i64 s]:=by simp [i64s]
theorem SlAt.str {w:World}{a:Option Addr}{n:Nat}{l:List ByteArray}(h:SlAt w a n (strs l)) (h0:0<n) :
 n=l.length∧∃ b off,a=some ⟨b,off,none⟩∧∀ i (h:i<l.length),w.cell? ⟨b,off+i,none⟩=some (.string l[i]):=by
 have hl:n=l.length:=by have:=h.1; rw [strs_length] at this; exact this
 refine⟨hl,?_⟩
 rcases h.2 with h1 | ⟨b,off,ha,hc⟩
 ·have:=h.1; rw [h1] at this; simp at this; omega
 ·exact⟨b,off,ha,fun i hi=>by rw [hc i (by rw [strs_length]; exact hi)]; simp [strs]⟩
theorem SlAt.i64 {w:World}{a:Option Addr}{n:Nat}{l:List Int}(h:SlAt w a n (i64s l)) (h0:0<n) :
 n=l.length∧∃ b off,a=some ⟨b,off,none⟩∧∀ i (h:i<l.length),w.cell? ⟨b,off+i,none⟩=some (.int .i64 l[i]):=by
 have hl:n=l.length:=by have:=h.1; rw [i64s_length] at this; exact this
 refine⟨hl,?_⟩
 rcases h.2 with h1 | ⟨b,off,ha,hc⟩
 ·have:=h.1; rw [h1] at this; simp at this; omega
 ·exact⟨b,off,ha,fun i hi=>by rw [hc i (by rw [i64s_length]; exact hi)]; simp [i64s]⟩
def intsB (a b:List Int):Bool:=decide (a=b)
theorem intsB_yes {a b:List Int}(h:a=b):intsB a b=true:=decide_eq_true h
theorem intsB_no {a b:List Int}(h:a≠b):intsB a b=false:=decide_eq_false h
theorem list_ext_upto {α:Type}(a b:List α) (h:a.length=b.length) (he:∀ j (h1:j<a.length) (h2:j<b.length),a[j]=b[j]):a=b :=
 List.ext_getElem h he
theorem own_slice {w:World}{base:Nat}{e:TypeId}{v:Value}{k:Nat}{xs:List Value}(h:w.ownsRow base e 1 v k xs):∃ a n c,v = .slice a n c∧SlAt w a n xs∧(∀ x,a=some x→base≤x.block)∧n≤c:=by
 rcases h.2 with ⟨hv,hl⟩ | ⟨g,c,cur,hv,hg,hh,hn,_⟩
 ·subst hv; exact⟨_,_,_,rfl,SlAt.ofOwn h,fun x e=>(by cases e),Nat.le_refl _⟩
 ·subst hv; exact⟨_,_,_,rfl,SlAt.ofOwn h,fun x e=>(by cases e; exact hg),hn⟩
end Go.Proofs.YtlpgbmaoenncjaaGreatDoor
namespace Go.Proofs.YtlpgbmaoenncjaaGreatDoor
open Go.RowKit
theorem append_block {P:Program}(w:World) (base:Nat) (t ty e:TypeId) (i:TypeInfo) (z:Value) (size bytes:Nat) (ht:P.underlying t=some (.slice e)) (hi:P.info? e=some i) (hz:i.zero=some z)
 (hsize:i.size=size) (hby:i.bytes=bytes) (v:Value) (n:Nat) (xs:List Value) (hown:w.ownsRow base e size v n xs)
 (a:Addr) (m c:Nat) (news:List Value) (hl:news.length=m*size) (hnews:∀ j u,news[j]? = some u→w.cell? (a.add j)=some u) (h1:∀ u∈news,u.oneCell'=true) (hm:0<m)
 (h63:n+m≤maxLen) (hbytes:(n+m)*bytes≤140737488355328) {v':Value}{w':World}
 (hr:(Builtin.append_ #[t,t] ty #[v,.slice (some a) m c]).run P w = .ok v' w'):v'.ownBlock=v.ownBlock∨v'.ownBlock=some w.heap.size:=by
 subst hsize
 subst hby
 have hsmall:n+m≤9223372036854775807:=by simp only [maxLen] at h63; omega
 rcases hown.2 with ⟨rfl,rfl⟩ | ⟨g,cap,cur,rfl,hbg,hg,hnc,hcm,hcs,htake⟩
 ·have h2:=run_append_nil (P:=P) w t ty e i z ht hi hz a m c news hl hnews hm (by omega) (by have hb:=hbytes; simp only [Nat.zero_add] at hb; omega)
  rw [h2] at hr
  cases hr
  exact .inr rfl
 ·by_cases hroom:n+m≤cap
  ·have hfit:n*i.size+news.length≤cur.size:=by rw [hl,hcs,← Nat.add_mul]; exact Nat.mul_le_mul_right _ hroom
   have h2:=run_append_room (P:=P) w t ty e i ht hi g n cap cur hg a m c news hl hnews h1 hroom hfit
   rw [h2] at hr
   cases hr
   exact .inl rfl
  ·have holds:∀ j u,xs[j]? = some u→w.cell? ((⟨g,0,none⟩:Addr).add j)=some u:=hown.cells (g:=g) rfl
   have h2:=run_append_grow (P:=P) w t ty e i z ht hi hz ⟨g,0,none⟩ n cap xs hown.1 holds a m c news hl hnews (by omega) (by omega) (growslice_fits (by omega) hbytes)
   rw [h2] at hr
   cases hr
   exact .inr rfl
theorem wpList_app1 {P:Program}(w:World) {ops:Array Oper}{rest:List Oper}{o:Oper}{a:Act}{Q:Exit→Act→World→Prop}(hgd:o.guard=none) (s x:Operand) (t:TypeId)
 (ho:o.op = .call { callee:=.builtin .append,args:=#[s,x],argTypes:=#[t,t] })
 (base:Nat) (e:TypeId) (i:TypeInfo) (z:Value) (bytes:Nat) (ht:P.underlying t=some (.slice e)) (hi:P.info? e=some i) (hz:i.zero=some z)
 (hsize:i.size=1) (hby:i.bytes=bytes) (hzs:z.cells.size=1)
 (v:Value) (n:Nat) (xs:List Value) (hown:w.ownsRow base e 1 v n xs) (hs:a.eval s=v)
 (u:Value) (T:TypeId) (hx:a.eval x = .slice (some ⟨w.heap.size,0,none⟩) 1 1) (h1:u.oneCell'=true)
 (h63:n+1≤maxLen) (hbytes:(n+1)*bytes≤140737488355328) (hbase:base≤w.heap.size)
 (h:∀ v' w',w'.ownsRow base e 1 v' (n+1) (xs++[u])→w.grownBy w' v.ownBlock→(v'.ownBlock=v.ownBlock∨v'.ownBlock=some (w.heap.size+1))→wpList P ops Q rest (a.put o.dst v') w') :
 wpList P ops Q (o :: rest) a (w.alloc (.cells #[u] T)):=by
 refine wpList_plain hgd fun _ hK=>?_
 have hnews:∀ j y,[u][j]? = some y→(w.alloc (.cells #[u] T)).cell? ((⟨w.heap.size,0,none⟩:Addr).add j)=some y:=by
  intro j y hj
  match j,hj with
  | 0,hj =>
    simp at hj
    subst hj
    simp [Addr.add]
 have h1':∀ y∈[u],y.oneCell'=true:=by intro y hy; simp at hy; subst hy; exact h1
 obtain⟨v',w',hr,h2,h3,h4⟩:=run_append_own (P:=P) (w.alloc (.cells #[u] T)) base t o.type e i z 1 bytes ht hi hz hsize hby hzs (by decide) v n xs (hown.alloc _) ⟨w.heap.size,0,none⟩ 1 1 [u] rfl hnews h1' h63 hbytes (by simp; omega)
 have h5:=append_block (P:=P) (w.alloc (.cells #[u] T)) base t o.type e i z 1 bytes ht hi hz hsize hby v n xs (hown.alloc _) ⟨w.heap.size,0,none⟩ 1 1 [u] rfl hnews h1' (by decide) h63 hbytes hr
 rw [World.size_alloc] at h5
 unfold Oper.wp execOp
 simp only [ho,resolve,invoke,builtin,Sem.run_bind,Sem.run_pure,Result.andThen_ok,List.map_toArray,List.map_cons,List.map_nil,hs,hx,hr]
 exact hK _ _ (h v' w' h2 (grown_trans (World.grownBy_alloc w _ _) h3) h5)
end Go.Proofs.YtlpgbmaoenncjaaGreatDoor
namespace Go.Proofs.YtlpgbmaoenncjaaGreatDoor
open Go.RowKit Go.ChangeShapes Go.WideShapes Go.Deep
set_option linter.unusedVariables false
structure Enc (α:Type) where
 k:Nat
 enc:α→List Value
 len:∀ x,(enc x).length=k
 one:∀ x,∀ u∈enc x,u.oneCell'=true
 pos:0<k
namespace Enc
variable {α:Type}(E:Enc α)
def cells (d:List α):List Value:=d.flatMap E.enc
theorem cells_nil:E.cells []=[]:=rfl
theorem cells_cons (o:α) (d:List α):E.cells (o :: d)=E.enc o++E.cells d:=by simp [cells]
theorem cells_append (a b:List α):E.cells (a++b)=E.cells a++E.cells b:=by simp [cells]
theorem cells_length (d:List α):(E.cells d).length=d.length*E.k:=by
 induction d with
 | nil=>simp [cells]
 | cons o r ih=>rw [cells_cons,List.length_append,ih,List.length_cons,E.len,Nat.add_mul,Nat.one_mul,Nat.add_comm]
theorem cells_one (d:List α):∀ u∈E.cells d,u.oneCell'=true:=by
 intro u hu
 obtain⟨o,_,ho⟩:=List.mem_flatMap.1 hu
 exact E.one o u ho
theorem cells_get:∀ (d:List α) (i:Nat) (h:i<d.length) (j:Nat) (hj:j<E.k),(E.cells d)[i*E.k+j]? = (E.enc d[i])[j]?
 | o :: r,0,_,j,hj=>by rw [E.cells_cons,Nat.zero_mul,Nat.zero_add,List.getElem?_append_left (by rw [E.len]; exact hj)]; rfl
 | o :: r,i+1,h,j,hj=>by
   have ih:=cells_get r i (by simpa using h) j hj
   rw [E.cells_cons,List.getElem?_append_right (by rw [E.len,Nat.add_mul,Nat.one_mul]; omega),E.len]
   rw [show (i+1)*E.k+j - E.k=i*E.k+j by rw [Nat.add_mul,Nat.one_mul]; omega]
   simpa using ih
theorem cells_mod {d:List α}{p:Nat}{u:Value}(h:(E.cells d)[p]? = some u):∃ (i:Nat) (hi:i<d.length) (j:Nat),j<E.k∧p=i*E.k+j∧(E.enc d[i])[j]? = some u:=by
 have hp:=(List.getElem?_eq_some_iff.1 h).1
 rw [E.cells_length] at hp
 have hk:=E.pos
 have hi:p / E.k<d.length:=Nat.div_lt_of_lt_mul (by rw [Nat.mul_comm]; exact hp)
 have hj:p % E.k<E.k:=Nat.mod_lt _ hk
 have he:p=p / E.k*E.k+p % E.k:=by rw [Nat.mul_comm]; exact (Nat.div_add_mod p E.k).symm
 refine⟨p / E.k,hi,p % E.k,hj,he,?_⟩
 rw [← E.cells_get d _ hi _ hj,← he]
 exact h
def Sl (w:World) (a:Option Addr) (n:Nat) (d:List α):Prop :=
 n=d.length∧(d=[]∨∃ b off,a=some ⟨b,off,none⟩∧∀ i (h:i<d.length) j u,(E.enc d[i])[j]? = some u→w.cell? ⟨b,off+i*E.k+j,none⟩=some u)
variable {E}
theorem Sl.keep {w w':World}{a:Option Addr}{n:Nat}{d:List α}(h:E.Sl w a n d) (hb:Below w.heap.size w w'):E.Sl w' a n d:=by
 refine⟨h.1,?_⟩
 rcases h.2 with h0 | ⟨b,off,ha,hc⟩
 ·exact .inl h0
 ·exact .inr ⟨b,off,ha,fun i hi j u hu=>cell_keep hb (hc i hi j u hu)⟩
theorem Sl.kept {w w':World}{a:Option Addr}{n:Nat}{d:List α}(h:E.Sl w a n d) {row:Option Nat}(hg:w.grownBy w' row) (hr:∀ b,a.map Addr.block=some b→row≠some b):E.Sl w' a n d:=by
 refine⟨h.1,?_⟩
 rcases h.2 with h0 | ⟨b,off,ha,hc⟩
 ·exact .inl h0
 ·exact .inr ⟨b,off,ha,fun i hi j u hu=>hg.cell (hc i hi j u hu) (fun e=>hr b (by rw [ha]; rfl) e.symm)⟩
theorem Sl.drewN {w:World}{a:Option Addr}{n:Nat}{d:List α}(h:E.Sl w a n d) (m:Nat):E.Sl (w.drewN m) a n d:=h
theorem Sl.nil (w:World) (a:Option Addr):E.Sl w a 0 []:=⟨rfl,.inl rfl⟩
theorem Sl.take {w:World}{a:Option Addr}{n m:Nat}{d:List α}(h:E.Sl w a n d) (hm:m≤n):E.Sl w a m (d.take m):=by
 refine⟨by rw [List.length_take]; have:=h.1; omega,?_⟩
 rcases h.2 with rfl | ⟨b,off,ha,hc⟩
 ·exact .inl (by simp)
 ·exact .inr ⟨b,off,ha,fun i hi j u hu=>by
   have hi':i<d.length:=by rw [List.length_take] at hi; omega
   rw [List.getElem_take] at hu; exact hc i hi' j u hu⟩
theorem Sl.at {w:World}{a:Option Addr}{n:Nat}{d:List α}(h:E.Sl w a n d) (h0:0<n) :
 n=d.length∧∃ b off,a=some ⟨b,off,none⟩∧∀ i (h:i<d.length) j u,(E.enc d[i])[j]? = some u→w.cell? ⟨b,off+i*E.k+j,none⟩=some u:=by
 refine⟨h.1,?_⟩
 rcases h.2 with rfl | h
 ·have:=h.1; simp at this; omega
 ·exact h
theorem Sl.drop {w:World}{b off n m:Nat}{d:List α}(h:E.Sl w (some ⟨b,off,none⟩) n d) (hm:m≤n):E.Sl w (some ⟨b,off+m*E.k,none⟩) (n - m) (d.drop m):=by
 refine⟨by rw [List.length_drop,h.1],?_⟩
 rcases h.2 with rfl | ⟨b',off',ha,hc⟩
 ·exact .inl (by simp)
 ·cases ha
  refine .inr ⟨b,off+m*E.k,rfl,fun i hi j u hu=>?_⟩
  rw [List.length_drop] at hi
  rw [List.getElem_drop] at hu
  have:=hc (m+i) (by omega) j u hu
  rw [Nat.add_mul] at this
  rw [Nat.add_assoc off]
  exact this
theorem add_is (b o n:Nat):(⟨b,o,none⟩:Addr).add n=⟨b,o+n,none⟩:=by
 unfold Addr.add; split
 ·rename_i h; subst h; rfl
 ·rfl
theorem Sl.flat {w:World}{b off n:Nat}{d:List α}(h:E.Sl w (some ⟨b,off,none⟩) n d):∀ j u,(E.cells d)[j]? = some u→w.cell? ((⟨b,off,none⟩:Addr).add j)=some u:=by
 intro p u hp
 rcases h.2 with rfl | ⟨b',off',e,hc⟩
 ·simp [cells] at hp
 ·cases e
  obtain⟨i,hi,j,hj,rfl,hu⟩:=E.cells_mod hp
  rw [add_is,← Nat.add_assoc]
  exact hc i hi j u hu
theorem Sl.ofCells {w:World}{b off:Nat}{d:List α}(h:∀ j u,(E.cells d)[j]? = some u→w.cell? ⟨b,off+j,none⟩=some u):E.Sl w (some ⟨b,off,none⟩) d.length d:=by
 refine⟨rfl,.inr ⟨b,off,rfl,fun i hi j u hu=>?_⟩⟩
 have hj:j<E.k:=by have:=(List.getElem?_eq_some_iff.1 hu).1; rwa [E.len] at this
 have:=h (i*E.k+j) u (by rw [E.cells_get d i hi j hj]; exact hu)
 rwa [← Nat.add_assoc] at this
theorem Sl.one (w:World) (x:α) (T:TypeId) (cs:Array Value) (hcs:cs.toList=E.enc x):E.Sl (w.alloc (.cells cs T)) (some ⟨w.heap.size,0,none⟩) 1 [x]:=by
 have h:=Sl.ofCells (E:=E) (w:=w.alloc (.cells cs T)) (b:=w.heap.size) (off:=0) (d:=[x]) fun j u hu=>by
  rw [E.cells_cons,E.cells_nil,List.append_nil] at hu
  rw [Nat.zero_add]
  have hb:(w.alloc (.cells cs T)).heap[w.heap.size]? = some (.cells cs T (0,0)):=heap_alloc_new w _
  rw [Lib.cell_of_heap hb j,← hu,← hcs]
  simp
 exact h
theorem own_sl {w:World}{base:Nat}{e:TypeId}{v:Value}{n:Nat}{d:List α}(h:w.ownsRow base e E.k v n (E.cells d)) :
 ∃ a c,v = .slice a n c∧n=d.length∧E.Sl w a n d∧(∀ x,a=some x→base≤x.block)∧n≤c∧(a=none→c=0):=by
 have hn:n=d.length:=by have:=h.1; rw [E.cells_length] at this; exact (Nat.eq_of_mul_eq_mul_right E.pos this).symm
 rcases h.2 with ⟨hv,hl⟩ | ⟨g,c,cur,hv,hg,hh,hnc,_⟩
 ·subst hv
  have hd:d=[]:=List.eq_nil_of_length_eq_zero (by omega)
  subst hd
  subst hl
  exact⟨_,_,rfl,rfl,Sl.nil _ _,fun x e=>(by cases e),Nat.le_refl _,fun _=>rfl⟩
 ·subst hv
  subst hn
  refine⟨_,_,rfl,rfl,Sl.ofCells fun j u hu=>?_,fun x e=>(by cases e; exact hg),hnc,fun e=>by cases e⟩
  have hc:=h.cells (g:=g) rfl j u hu
  rw [add_is] at hc
  exact hc
theorem row_down {W:World}{base B:Nat}{e:TypeId}{size k:Nat}{v:Value}{xs:List Value}(h:W.ownsRow base e size v k xs) (hB:B≤base):W.ownsRow B e size v k xs :=
 ⟨h.1,h.2.imp id (fun ⟨g,cap,cur,e1,hb,r⟩=>⟨g,cap,cur,e1,Nat.le_trans hB hb,r⟩)⟩
theorem row_under {w w':World}{base:Nat}{e:TypeId}{size:Nat}{v:Value}{n:Nat}{xs:List Value}(h:w.ownsRow base e size v n xs) (hb:Below w.heap.size w w'):w'.ownsRow base e size v n xs :=
 h.kept (grown_below hb none) (by cases hv:v.ownBlock <;> simp)
theorem row_lit0 (w:World) (base:Nat) (hb:base≤w.heap.size) (e:TypeId) (size:Nat):(w.alloc (.cells #[] e)).ownsRow base e size (.slice (some ⟨w.heap.size,0,none⟩) 0 0) 0 [] :=
 row_down (World.ownsRow_made (base:=w.heap.size) (e:=e) (size:=size) w #[] 0 (Nat.le_refl _) (Nat.zero_le _) (by simp)) hb
theorem wpList_app {P:Program}(w:World) {ops:Array Oper}{rest:List Oper}{o:Oper}{a:Act}{Q:Exit→Act→World→Prop}(hgd:o.guard=none) (s x:Operand) (t:TypeId)
 (ho:o.op = .call { callee:=.builtin .append,args:=#[s,x],argTypes:=#[t,t] })
 (base:Nat) (e:TypeId) (i:TypeInfo) (z:Value) (bytes:Nat) (ht:P.underlying t=some (.slice e)) (hi:P.info? e=some i) (hz:i.zero=some z)
 (hsize:i.size=E.k) (hby:i.bytes=bytes) (hzs:z.cells.size=E.k)
 (v:Value) (n:Nat) (d:List α) (hown:w.ownsRow base e E.k v n (E.cells d)) (hs:a.eval s=v)
 (b:Option Addr) (m c:Nat) (d':List α) (hx:a.eval x = .slice b m c) (hsl:E.Sl w b m d') (hc:b=none→c=0)
 (h63:n+m≤maxLen) (hbytes:(n+m)*bytes≤140737488355328) (hbase:base≤w.heap.size)
 (h:∀ v' w',w'.ownsRow base e E.k v' (n+m) (E.cells (d++d'))→w.grownBy w' v.ownBlock→wpList P ops Q rest (a.put o.dst v') w') :
 wpList P ops Q (o :: rest) a w:=by
 cases b with
 | none =>
   have hm:m=0:=by
    rcases hsl.2 with rfl | ⟨_,_,e,_⟩
    ·exact hsl.1
    ·cases e
   subst hm
   have hd:d'=[]:=List.eq_nil_of_length_eq_zero hsl.1.symm
   subst hd
   obtain rfl:=hc rfl
   refine wpList_append_own_none hgd s x t ho base e i E.k ht hi v n _ hs hown hx (h v w (by simpa using hown) ⟨rfl,rfl,rfl,Nat.le_refl _,fun _ _ _=>rfl⟩)
 | some ad =>
   have hcell:∀ j u,(E.cells d')[j]? = some u→w.cell? (ad.add j)=some u:=by
    rcases hsl.2 with rfl | ⟨b',off',e,hcc⟩
    ·intro j u hj; simp [cells] at hj
    ·cases e; exact hsl.flat
   exact wpList_append_own w hgd s x t ho base e i z E.k bytes ht hi hz hsize hby hzs E.pos v n _ hs hown ad m c (E.cells d') hx (by rw [E.cells_length,hsl.1]) hcell (E.cells_one d') h63 hbytes hbase (fun v' w' h2 h3 _=>h v' w' (by rw [E.cells_append]; exact h2) h3)
end Enc
def structOf (P:Program) (t:TypeId):Option (List (TypeId × Nat)) :=
 match P.underlying t with
 | some (.struct fs)=>some (fs.toList.map fun f=>(f.type,f.offset))
 | _=>none
section
variable {H:Type}{enc:TypeId × Value→H}{P:Program}{w:World}{base:Nat}{spare:Nat→Bool}{held:Bool}
theorem one_of {l:List Value}{i:Nat}(h:i<l.length):(l.drop i).take 1=[l[i]]:=by
 rw [List.drop_eq_getElem_cons h]; rfl
theorem spot_none {w:World}{a:Addr}{v:Value}(h:w.cell? a=some v):a=⟨a.block,a.off,none⟩:=by
 obtain⟨b,o,s⟩:=a
 cases s with
 | none=>rfl
 | some x =>
   unfold World.cell? at h
   split at h <;> simp at h
end
end Go.Proofs.YtlpgbmaoenncjaaGreatDoor
namespace Go.Proofs.YtlpgbmaoenncjaaGreatDoor
open Go.RowKit
set_option linter.unusedVariables false
def Blk (w:World) (g:Nat) (t:TypeId) (cs:List Value):Prop:=w.heap[g]? = some (.cells cs.toArray t (0,0))
theorem Blk.cell {w:World}{g:Nat}{t:TypeId}{cs:List Value}(h:Blk w g t cs) {j:Nat}{v:Value}(hj:cs[j]? = some v):w.cell? ⟨g,j,none⟩=some v:=by
 rw [cell_of_row w g j cs.toArray t (0,0) h]; simpa using hj
theorem Blk.cellAt {w:World}{g:Nat}{t:TypeId}{cs:List Value}(h:Blk w g t cs) (j:Nat):w.cell? ⟨g,j,none⟩=cs[j]?:=by
 rw [cell_of_row w g j cs.toArray t (0,0) h]; simp
theorem Blk.free {w:World}{g:Nat}{t:TypeId}{cs:List Value}(h:Blk w g t cs) (j:Nat):w.frozen? ⟨g,j,none⟩=false:=frozen_of_row w g j _ _ h
theorem Blk.lt {w:World}{g:Nat}{t:TypeId}{cs:List Value}(h:Blk w g t cs):g<w.heap.size:=lt_of_block h
theorem Blk.drewN {w:World}{g:Nat}{t:TypeId}{cs:List Value}(h:Blk w g t cs) (n:Nat):Blk (w.drewN n) g t cs:=h
theorem Blk.alloc {w:World}{g:Nat}{t:TypeId}{cs:List Value}(h:Blk w g t cs) (o:Obj):Blk (w.alloc o) g t cs:=(Below.heap_alloc w o g (lt_of_block h)).trans h
theorem Blk.kept {w w':World}{g:Nat}{t:TypeId}{cs:List Value}(h:Blk w g t cs) {row:Option Nat}(hg:w.grownBy w' row) (hr:some g≠row):Blk w' g t cs:=(hg.block g (lt_of_block h) hr).trans h
theorem Blk.keep {w w':World}{g:Nat}{t:TypeId}{cs:List Value}(h:Blk w g t cs) (hb:Below w.heap.size w w'):Blk w' g t cs:=(hb.block g (lt_of_block h)).trans h
theorem Blk.set {w:World}{g:Nat}{t:TypeId}{cs:List Value}(h:Blk w g t cs) (j:Nat) (u:Value):Blk (w.setCell ⟨g,j,none⟩ u) g t (cs.set j u):=by
 unfold Blk at *
 have:=heap_setCell_same w g j cs.toArray t u h
 simpa using this
theorem Blk.row {w:World}{g:Nat}{t:TypeId}{cs:List Value}(h:Blk w g t cs) (cs':List Value):Blk (w.setRow g cs'.toArray) g t cs'∧w.grownBy (w.setRow g cs'.toArray) (some g) :=
 ⟨setRow_heap w g _ _ t _ h,⟨rfl,rfl,rfl,by simp [World.setRow],fun k _ hk=>setRow_other w g k _ (fun e=>hk (by rw [e]))⟩⟩
theorem own_blk {w:World}{base g n c k size:Nat}{e:TypeId}{xs:List Value}(h:w.ownsRow base e size (.slice (some ⟨g,0,none⟩) n c) k xs):∃ cs,Blk w g e cs∧cs.length=c*size∧cs.take (n*size)=xs∧base≤g∧n≤c∧c≤maxLen∧k=n:=by
 rcases h.2 with ⟨hv,_⟩ | ⟨g',cap,cur,hv,hb,hg,hnc,hcm,hcs,htake⟩
 ·cases hv
 ·cases hv
  exact⟨cur.toList,by simpa [Blk] using hg,by simpa using hcs,htake,hb,hnc,hcm,rfl⟩
theorem blk_own {w:World}{base g n c size:Nat}{e:TypeId}{cs:List Value}(h:Blk w g e cs) (hl:cs.length=c*size) (hb:base≤g) (hn:n≤c) (hc:c≤maxLen) {xs:List Value}(hx:cs.take (n*size)=xs):w.ownsRow base e size (.slice (some ⟨g,0,none⟩) n c) n xs:=by
 refine⟨?_,.inr ⟨g,c,cs.toArray,rfl,hb,h,hn,hc,by simpa using hl,by simpa using hx⟩⟩
 rw [← hx,List.length_take,hl]
 exact Nat.min_eq_left (Nat.mul_le_mul_right _ hn)
variable {P:Program}{w:World}{ops:Array Oper}{rest:List Oper}{o:Oper}{a:Act}{Q:Exit→Act→World→Prop}{K:Act→World→Prop}{E:Prop}
def Reads (w:World) (ad:Addr) (news:List Value):Prop:=∀ j u,news[j]? = some u→w.cell? (ad.add j)=some u
theorem run_app_blk (t ty e:TypeId) (i:TypeInfo) (size:Nat) (ht:P.underlying t=some (.slice e)) (hi:P.info? e=some i) (hsize:i.size=size) {g n cap:Nat}{cs:List Value}(hg:Blk w g e cs)
 (ad:Addr) (m c:Nat) (news:List Value) (hl:news.length=m*size) (hnews:Reads w ad news) (h1:∀ u∈news,u.oneCell'=true) (hroom:n+m≤cap) (hfit:n*size+news.length≤cs.length) :
 (Builtin.append_ #[t,t] ty #[.slice (some ⟨g,0,none⟩) n cap,.slice (some ad) m c]).run P w = .ok (.slice (some ⟨g,0,none⟩) (n+m) cap) (w.setRow g (splice cs (n*size) news).toArray):=by
 subst hsize
 have h:=run_append_room (P:=P) w t ty e i ht hi g n cap cs.toArray hg ad m c news hl hnews h1 hroom (by simpa using hfit)
 rw [h]
 simp [splice]
theorem wpList_app_blk (hgd:o.guard=none) (s x:Operand) (t:TypeId) (hop:o.op=Op.call { callee:=Callee.builtin Builtin.append,args:=#[s,x],argTypes:=#[t,t] })
 (e:TypeId) (i:TypeInfo) (size:Nat) (ht:P.underlying t=some (.slice e)) (hi:P.info? e=some i) (hsize:i.size=size) (g n cap:Nat) (cs:List Value) (hg:Blk w g e cs) (hs:a.eval s = .slice (some ⟨g,0,none⟩) n cap)
 (ad:Addr) (m c:Nat) (news:List Value) (hx:a.eval x = .slice (some ad) m c) (hl:news.length=m*size) (hnews:Reads w ad news) (h1:∀ u∈news,u.oneCell'=true) (hroom:n+m≤cap) (hfit:n*size+news.length≤cs.length)
 (h:∀ w',Hid (Blk w' g e (splice cs (n*size) news))→Hid (w.grownBy w' (some g))→wpList P ops Q rest (a.put o.dst (.slice (some ⟨g,0,none⟩) (n+m) cap)) w') :
 wpList P ops Q (o :: rest) a w:=by
 refine wpList_plain hgd fun _ hK=>?_
 have hrun:=run_app_blk (P:=P) (w:=w) t o.type e i size ht hi hsize (n:=n) (cap:=cap) hg ad m c news hl hnews h1 hroom hfit
 unfold Oper.wp execOp
 simp only [hop,resolve,invoke,builtin,Sem.run_bind,Sem.run_pure,Result.andThen_ok,List.map_toArray,List.map_cons,List.map_nil,hs,hx,hrun]
 exact hK _ _ (h _ (Lib.hid (hg.row _).1) (Lib.hid (hg.row _).2))
theorem run_copy_blk (dT sT ty e:TypeId) (i:TypeInfo) (size:Nat) (ht:P.underlying dT=some (.slice e)) (hi:P.info? e=some i) (hsize:i.size=size) {g off dLen dCap:Nat}{cs:List Value}(hg:Blk w g e cs)
 (ad:Addr) (sLen sCap m:Nat) (news:List Value) (hm:m=Nat.min sLen dLen) (hl:news.length=m*size) (hnews:Reads w ad news) (h1:∀ u∈news,u.oneCell'=true) (hfit:off+news.length≤cs.length) :
 (Builtin.copy_ #[dT,sT] ty #[.slice (some ⟨g,off,none⟩) dLen dCap,.slice (some ad) sLen sCap]).run P w = .ok (goInt m) (w.setRow g (splice cs off news).toArray):=by
 subst hsize hm
 have hf:=run_firstCells_some (P:=P) w i.size (Nat.min sLen dLen) ad sLen sCap news hl hnews
 have hst:=run_storeCells_at P g off e news 0 cs.toArray w hg (by simpa using hfit) h1
 simp [Builtin.copy_,run_underlying ht,Builtin.lenOf,sizeOf,typeInfo,hi,hf,hst,splice]
theorem wpList_copy_blk (hgd:o.guard=none) (d s:Operand) (dT sT:TypeId) (ho:o.op = .call { callee:=.builtin .copy,args:=#[d,s],argTypes:=#[dT,sT] })
 (e:TypeId) (i:TypeInfo) (size:Nat) (ht:P.underlying dT=some (.slice e)) (hi:P.info? e=some i) (hsize:i.size=size) (g off dLen dCap:Nat) (cs:List Value) (hg:Blk w g e cs) (hd:a.eval d = .slice (some ⟨g,off,none⟩) dLen dCap)
 (ad:Addr) (sLen sCap m:Nat) (news:List Value) (hs:a.eval s = .slice (some ad) sLen sCap) (hm:m=Nat.min sLen dLen) (hl:news.length=m*size) (hnews:Reads w ad news) (h1:∀ u∈news,u.oneCell'=true) (hfit:off+news.length≤cs.length)
 (h:∀ w',Hid (Blk w' g e (splice cs off news))→Hid (w.grownBy w' (some g))→wpList P ops Q rest (a.put o.dst (goInt m)) w') :
 wpList P ops Q (o :: rest) a w:=by
 refine wpList_plain hgd fun _ hK=>?_
 have hrun:=run_copy_blk (P:=P) (w:=w) dT sT o.type e i size ht hi hsize (dCap:=dCap) hg ad sLen sCap m news hm hl hnews h1 hfit
 unfold Oper.wp execOp
 simp only [ho,resolve,invoke,builtin,Sem.run_bind,Sem.run_pure,Result.andThen_ok,List.map_toArray,List.map_cons,List.map_nil,hd,hs,hrun]
 exact hK _ _ (h _ (Lib.hid (hg.row _).1) (Lib.hid (hg.row _).2))
theorem run_clear_blk (T ty e:TypeId) (z:Value) (zs:List Value) (ht:P.underlying T=some (.slice e)) (hz:∀ w,(zeroValue e).run P w = .ok z w) {g off n c:Nat}{cs:List Value}(hg:Blk w g e cs) (h0:0<n) (hzs:(Builtin.zeroCells z.cells n).toList=zs)
 (h1:∀ u∈zs,u.oneCell'=true) (hfit:off+zs.length≤cs.length) :
 (Builtin.clear_ #[T] ty #[.slice (some ⟨g,off,none⟩) n c]).run P w = .ok (.tuple #[]) (w.setRow g (splice cs off zs).toArray):=by
 subst hzs
 have hst:=run_storeCells_at P g off e (Builtin.zeroCells z.cells n).toList 0 cs.toArray w hg (by simpa using hfit) h1
 obtain⟨m,rfl⟩:∃ m,n=m+1:=⟨n - 1,by omega⟩
 simp [Builtin.clear_,run_underlying ht,hz,hst,splice] at hst ⊢
end Go.Proofs.YtlpgbmaoenncjaaGreatDoor
namespace Go.Proofs.YtlpgbmaoenncjaaGreatDoor
open Go.RowKit
set_option linter.unusedVariables false
def Four (w:World) (b:Nat) (t:TypeId) (v0 v1 v2 v3:Value):Prop:=w.heap[b]? = some (.cells #[v0,v1,v2,v3] t (0,0))
theorem Four.new (w:World) (t:TypeId) (v0 v1 v2 v3:Value):Four (w.alloc (.cells #[v0,v1,v2,v3] t)) w.heap.size t v0 v1 v2 v3:=heap_alloc_new w _
theorem Four.kept {w w':World}{b:Nat}{t:TypeId}{v0 v1 v2 v3:Value}(h:Four w b t v0 v1 v2 v3) {row:Option Nat}(hg:w.grownBy w' row) (hr:some b≠row):Four w' b t v0 v1 v2 v3:=(hg.block b (lt_of_block h) hr).trans h
theorem Four.drewN {w:World}{b:Nat}{t:TypeId}{v0 v1 v2 v3:Value}(h:Four w b t v0 v1 v2 v3) (n:Nat):Four (w.drewN n) b t v0 v1 v2 v3:=h
theorem Four.alloc {w:World}{b:Nat}{t:TypeId}{v0 v1 v2 v3:Value}(h:Four w b t v0 v1 v2 v3) (o:Obj):Four (w.alloc o) b t v0 v1 v2 v3:=h.kept (World.grownBy_alloc w o none) (by simp)
theorem Four.c0 {w:World}{b:Nat}{t:TypeId}{v0 v1 v2 v3:Value}(h:Four w b t v0 v1 v2 v3):w.cell? ⟨b,0,none⟩=some v0:=by unfold World.cell?; rw [h]; rfl
theorem Four.c1 {w:World}{b:Nat}{t:TypeId}{v0 v1 v2 v3:Value}(h:Four w b t v0 v1 v2 v3):w.cell? ⟨b,1,none⟩=some v1:=by unfold World.cell?; rw [h]; rfl
theorem Four.c2 {w:World}{b:Nat}{t:TypeId}{v0 v1 v2 v3:Value}(h:Four w b t v0 v1 v2 v3):w.cell? ⟨b,2,none⟩=some v2:=by unfold World.cell?; rw [h]; rfl
theorem Four.c3 {w:World}{b:Nat}{t:TypeId}{v0 v1 v2 v3:Value}(h:Four w b t v0 v1 v2 v3):w.cell? ⟨b,3,none⟩=some v3:=by unfold World.cell?; rw [h]; rfl
theorem Four.free {w:World}{b:Nat}{t:TypeId}{v0 v1 v2 v3:Value}(h:Four w b t v0 v1 v2 v3) (j:Nat):w.frozen? ⟨b,j,none⟩=false:=by unfold World.frozen?; rw [h]; simp
theorem Four.set3 {w:World}{b:Nat}{t:TypeId}{v0 v1 v2 v3:Value}(h:Four w b t v0 v1 v2 v3) (u:Value):Four (w.setCell ⟨b,3,none⟩ u) b t v0 v1 v2 u:=by
 have h':w.heap[b]? = _:=h
 show (w.setCell _ u).heap[b]? = _
 simp [World.setCell,Array.getElem?_modify,h']
theorem Four.set0 {w:World}{b:Nat}{t:TypeId}{v0 v1 v2 v3:Value}(h:Four w b t v0 v1 v2 v3) (u:Value):Four (w.setCell ⟨b,0,none⟩ u) b t u v1 v2 v3:=by
 have h':w.heap[b]? = _:=h
 show (w.setCell _ u).heap[b]? = _
 simp [World.setCell,Array.getElem?_modify,h']
theorem Four.set1 {w:World}{b:Nat}{t:TypeId}{v0 v1 v2 v3:Value}(h:Four w b t v0 v1 v2 v3) (u:Value):Four (w.setCell ⟨b,1,none⟩ u) b t v0 u v2 v3:=by
 have h':w.heap[b]? = _:=h
 show (w.setCell _ u).heap[b]? = _
 simp [World.setCell,Array.getElem?_modify,h']
theorem Four.set2 {w:World}{b:Nat}{t:TypeId}{v0 v1 v2 v3:Value}(h:Four w b t v0 v1 v2 v3) (u:Value):Four (w.setCell ⟨b,2,none⟩ u) b t v0 v1 u v3:=by
 have h':w.heap[b]? = _:=h
 show (w.setCell _ u).heap[b]? = _
 simp [World.setCell,Array.getElem?_modify,h']
theorem Four.all {w:World}{b:Nat}{t:TypeId}{v0 v1 v2 v3:Value}(h:Four w b t v0 v1 v2 v3) (u0 u1 u2 u3:Value) :
 Four ((((w.setCell ⟨b,0,none⟩ u0).setCell ⟨b,1,none⟩ u1).setCell ⟨b,2,none⟩ u2).setCell ⟨b,3,none⟩ u3) b t u0 u1 u2 u3:=(((h.set0 u0).set1 u1).set2 u2).set3 u3
theorem grown_four (w:World) (b:Nat) (u0 u1 u2 u3:Value):w.grownBy ((((w.setCell ⟨b,0,none⟩ u0).setCell ⟨b,1,none⟩ u1).setCell ⟨b,2,none⟩ u2).setCell ⟨b,3,none⟩ u3) (some b) :=
 grown_trans (grown_trans (grown_trans (grown_setCell w b 0 u0) (grown_setCell _ b 1 u1)) (grown_setCell _ b 2 u2)) (grown_setCell _ b 3 u3)
end Go.Proofs.YtlpgbmaoenncjaaGreatDoor
namespace Go.Proofs.YtlpgbmaoenncjaaGreatDoor
open Go.RowKit
set_option linter.unusedVariables false
structure Rc where
 term:Int
 kind:Int
 data:ByteArray
instance:Inhabited Rc:=⟨⟨0,0,⟨#[]⟩⟩⟩
structure Ms where
 kind:Int
 fr:Int
 dst:Int
 term:Int
 ok:Bool
 index:Int
 logTerm:Int
 recs:List Rc
 commit:Int
 snap:ByteArray
 voters:List Int
def Ms.zero:Ms:=⟨0,0,0,0,false,0,0,[],0,⟨#[]⟩,[]⟩
def goodV (l:List Int) (i:Nat):Bool:=match l[i]? with
 | none=>true
 | some x=>decide (1≤x∧x≤9)&&(match i with
   | 0=>true
   | j+1=>match l[j]? with
     | none=>true
     | some y=>decide (y<x))
def rightV (l:List Int):Bool:=decide (1≤l.length∧l.length≤7)&&(List.range l.length).all (goodV l)
def termAt (bt:Int) (l:List Rc) (i:Nat):Int:=match i with
 | 0=>max bt 1
 | j+1=>match l[j]? with
   | none=>1
   | some y=>max y.term 1
def goodR (bt:Int) (l:List Rc) (i:Nat):Bool:=match l[i]? with
 | none=>true
 | some r=>decide (termAt bt l i≤r.term∧r.term≤1073741824∧0≤r.kind∧r.kind≤2∧r.data.size≤8192)
def rightR (bt:Int) (l:List Rc):Bool:=(List.range l.length).all (goodR bt l)
def headG (base bt:Int) (n:Nat):Prop:=0≤base∧base≤1073741824∧0≤bt∧bt≤1073741824∧(base=0↔bt=0)∧n≤200∧base≤1073741824 - (n:Int)
instance (base bt:Int) (n:Nat):Decidable (headG base bt n):=by unfold headG; exact inferInstance
def rightG (base bt:Int) (l:List Rc):Bool:=decide (headG base bt l.length)&&rightR bt l
def termsUpto (t:Int) (l:List Rc):Bool:=l.all fun r=>decide (r.term≤t)
def numsM (m:Ms):Prop:=(1≤m.kind∧m.kind≤5)∧(1≤m.fr∧m.fr≤9)∧(1≤m.dst∧m.dst≤9)∧m.fr≠m.dst∧(1≤m.term∧m.term≤1073741824)∧(0≤m.index∧m.index≤1073741824)∧(0≤m.commit∧m.commit≤1073741824)∧(0≤m.logTerm∧m.logTerm≤m.term)
instance (m:Ms):Decidable (numsM m):=by unfold numsM; exact inferInstance
def bareM (m:Ms):Prop:=¬ (m.ok=true∧m.kind≠2∧m.kind≠4)∧¬ (m.index≠0∧m.kind=2)∧¬ (m.logTerm≠0∧(m.kind=2∨m.kind=4))∧¬ (m.commit≠0∧m.kind≠3)∧¬ (m.recs.length≠0∧m.kind≠3)∧¬ (m.snap.size≠0∧m.kind≠5)∧¬ (m.voters.length≠0∧m.kind≠5)
instance (m:Ms):Decidable (bareM m):=by unfold bareM; exact inferInstance
def snapM (m:Ms):Prop:=1≤m.index∧1≤m.logTerm∧m.snap.size≤131072∧rightV m.voters=true
instance (m:Ms):Decidable (snapM m):=by unfold snapM; exact inferInstance
def logM (m:Ms):Prop:=m.recs.length≤20∧termsUpto m.term m.recs=true∧rightG m.index m.logTerm m.recs=true
instance (m:Ms):Decidable (logM m):=by unfold logM; exact inferInstance
def mayM (m:Ms):Bool:=decide (numsM m∧bareM m∧(m.kind=5→snapM m)∧(m.kind=3→logM m))
theorem goodV_is (l:List Int) (i:Nat) (h:i<l.length):goodV l i=(decide (1≤l[i]∧l[i]≤9)&&(decide (i=0)||decide (l[i - 1]'(by omega)<l[i]))):=by
 unfold goodV
 rw [List.getElem?_eq_getElem h]
 cases i with
 | zero=>simp
 | succ j=>simp [List.getElem?_eq_getElem (show j<l.length by omega)]
theorem all_range {α:Type}{l:List α}{p:Nat→Bool}{k:Nat}(hk:l.length≤k) (h:∀ i,i<k→p i=true):(List.range l.length).all p=true :=
 List.all_eq_true.2 fun i hi=>h i (by have:=List.mem_range.1 hi; omega)
theorem not_range {α:Type}{l:List α}{p:Nat→Bool}{k:Nat}(hk:k<l.length) (h:p k=false):(List.range l.length).all p=false:=by
 cases ha:(List.range l.length).all p with
 | false=>rfl
 | true=>rw [List.all_eq_true.1 ha k (List.mem_range.2 hk)] at h; cases h
theorem termAt_next (bt:Int) (l:List Rc) (i:Nat) (h:i<l.length):termAt bt l (i+1)=max l[i].term 1:=by
 unfold termAt
 dsimp only
 rw [List.getElem?_eq_getElem h]
end Go.Proofs.YtlpgbmaoenncjaaGreatDoor
namespace Go.Proofs.YtlpgbmaoenncjaaGreatDoor
open Go.RowKit
set_option linter.unusedVariables false
abbrev Vals:=Nat→Option Value
def Vals.set (e:Vals) (i:Nat) (v:Value):Vals:=fun j=>if j=i then some v else e j
theorem Vals.set_same (e:Vals) (i:Nat) (v:Value):(e.set i v) i=some v:=by simp [Vals.set]
theorem Vals.set_other (e:Vals) {i j:Nat}(v:Value) (h:j≠i):(e.set i v) j=e j:=by simp [Vals.set,h]
def dstOf (ops:Array Oper) (j:Nat):Option Nat:=(ops[j]?).bind (·.dst)
def whose (ops:Array Oper) (t:Nat):Option Nat:=(List.range ops.size).find? fun j=>dstOf ops j==some t
def loneB (ops:Array Oper):Bool:=(List.range ops.size).all fun i=>(List.range ops.size).all fun j=>i==j||match dstOf ops i with | some d=>dstOf ops j != some d | none=>true
def waits (ops:Array Oper) (i:Nat):List Nat:=match ops[i]? with | some o=>(o.after.toList.filter fun e=>Region.binds .any e).map (·.on) | none=>[]
def backB (ops:Array Oper):Bool:=(List.range ops.size).all fun i=>(waits ops i).all fun j=>decide (j<i)
def filled (ops:Array Oper) (e:Vals) (a:Act):Act:={ a with tmps:=a.tmps.mapIdx fun t x=>((whose ops t).bind e).getD x }
def putFrom (ops:Array Oper):Nat→List Value→Act→Act
 | _,[],a=>a
 | k,v :: r,a=>putFrom ops (k+1) r (a.put (dstOf ops k) v)
section
variable {P:Program}{ops:Array Oper}{Q:Exit→Act→World→Prop}{e:Vals}{a A:Act}
theorem whose_some {t j:Nat}(h:whose ops t=some j):dstOf ops j=some t:=by
 have:=List.find?_some h
 simpa using this
theorem dstOf_lt {j d:Nat}(h:dstOf ops j=some d):j<ops.size:=by
 rcases Nat.lt_or_ge j ops.size with h1 | h1
 ·exact h1
 ·unfold dstOf at h; rw [Array.getElem?_eq_none h1] at h; cases h
theorem lone_eq (hl:loneB ops=true) {i j d:Nat}(hi:dstOf ops i=some d) (hj:dstOf ops j=some d):i=j:=by
 have h1:=List.all_eq_true.1 hl i (List.mem_range.2 (dstOf_lt hi))
 have h2:=List.all_eq_true.1 h1 j (List.mem_range.2 (dstOf_lt hj))
 rw [hi] at h2
 simp [hj] at h2
 exact h2
theorem whose_of (hl:loneB ops=true) {i d:Nat}(hi:dstOf ops i=some d):whose ops d=some i:=by
 cases hw:whose ops d with
 | none =>
   have:=List.find?_eq_none.1 hw i (List.mem_range.2 (dstOf_lt hi))
   simp [hi] at this
 | some j=>rw [lone_eq hl (whose_some hw) hi]
theorem Act.ext' {a b:Act}(h1:a.tmps=b.tmps) (h2:a.defers=b.defers):a=b:=by cases a; cases b; simp_all
theorem filled_none (ops:Array Oper) (a:Act):filled ops (fun _=>none) a=a:=by
 refine Act.ext' ?_ rfl
 refine Array.ext_getElem? fun t=>?_
 simp only [filled,Array.getElem?_mapIdx]
 cases a.tmps[t]? <;> cases whose ops t <;> simp
theorem filled_put (hl:loneB ops=true) (i:Nat) (v:Value):(filled ops e a).put (dstOf ops i) v=filled ops (e.set i v) a:=by
 cases hd:dstOf ops i with
 | none =>
   refine Act.ext' ?_ rfl
   refine Array.ext_getElem? fun t=>?_
   simp only [Act.put,filled,Array.getElem?_mapIdx]
   cases hw:whose ops t with
   | none=>simp
   | some j =>
     have:j≠i:=fun he=>by subst he; rw [whose_some hw] at hd; cases hd
     simp [Vals.set_other e v this]
 | some d =>
   refine Act.ext' ?_ rfl
   refine Array.ext_getElem? fun t=>?_
   simp only [Act.put,filled,Array.getElem?_mapIdx]
   by_cases ht:d=t
   ·subst ht
    rw [Array.getElem?_setIfInBounds_self,whose_of hl hd]
    simp [Vals.set_same]
    by_cases hs:d<a.tmps.size
    ·simp [hs]
    ·simp [hs]
   ·rw [Array.getElem?_setIfInBounds_ne ht,Array.getElem?_mapIdx]
    cases hw:whose ops t with
    | none=>simp
    | some j =>
      have:j≠i:=fun he=>by subst he; rw [whose_some hw] at hd; cases hd; exact ht rfl
      simp [Vals.set_other e v this]
theorem filled_tmp {t j:Nat}{v:Value}(hA:A=filled ops e a) (h:whose ops t=some j) (he:e j=some v) (hs:t<a.tmps.size):A.eval (.tmp t)=v:=by
 subst hA
 simp [Act.eval,filled,Array.getD_eq_getD_getElem?,h,he,hs]
theorem filled_base {t:Nat}{v:Value}(hA:A=filled ops e a) (h:whose ops t=none) (hv:a.eval (.tmp t)=v):A.eval (.tmp t)=v:=by
 subst hA
 rw [← hv]
 simp only [Act.eval,filled,Array.getD_eq_getD_getElem?,Array.getElem?_mapIdx,h]
 cases a.tmps[t]? <;> simp
theorem wanted_yes {o:Oper}{g:Nat}{b:Bool}{tmps:Array Value}(hg:o.guard=some (g,b)) (hy:yielded ops tmps g=some b):Region.wanted o (yielded ops tmps)=true:=by
 simp [Region.wanted,hg,hy]
theorem filled_putFrom (hl:loneB ops=true):∀ (l:List Value) (k:Nat) (e0:Vals) (a:Act),putFrom ops k l (filled ops e0 a)=filled ops (fun j=>if k≤j∧j<k+l.length then l[j - k]? else e0 j) a
 | [],k,e0,a=>by
   simp only [putFrom]
   congr 1
   funext j
   have:¬ (k≤j∧j<k+([]:List Value).length):=by simp
   rw [if_neg this]
 | v :: r,k,e0,a=>by
   rw [putFrom,filled_put hl,filled_putFrom hl r (k+1) (e0.set k v) a]
   congr 1
   funext j
   by_cases hj:j=k
   ·subst hj
    rw [if_neg (by omega),Vals.set_same,if_pos ⟨Nat.le_refl _,by simp⟩]
    simp
   ·by_cases hr:k+1≤j∧j<k+1+r.length
    ·rw [if_pos hr,if_pos ⟨by omega,by simp; omega⟩]
     have:j - k=(j - (k+1))+1:=by omega
     rw [this]; simp
    ·rw [if_neg hr,Vals.set_other _ _ hj,if_neg (by simp; omega)]
theorem filled_is (hl:loneB ops=true) (l:List Value) (hn:l.length=ops.size) (h:∀ j (hj:j<l.length),e j=some l[j]) (a:Act):filled ops e a=putFrom ops 0 l a:=by
 have h1:=filled_putFrom hl l 0 (fun _=>none) a
 rw [filled_none] at h1
 rw [h1]
 refine Act.ext' ?_ rfl
 refine Array.ext_getElem? fun t=>?_
 simp only [filled,Array.getElem?_mapIdx]
 cases hw:whose ops t with
 | none=>simp
 | some j =>
   have hj:j<l.length:=by rw [hn]; exact dstOf_lt (whose_some hw)
   simp only [Option.bind_some]
   rw [h j hj,if_pos ⟨Nat.zero_le _,by omega⟩,Nat.sub_zero,List.getElem?_eq_getElem hj]
def missing (n:Nat) (listed:Array Bool):List Nat:=(List.range n).filter fun i=>!listed.getD i true
theorem missing_set {n i:Nat}{listed:Array Bool}(hi:i<listed.size) (hn:i<n) (h:listed.getD i true=false):(missing n (listed.setIfInBounds i true)).length<(missing n listed).length:=by
 have h1:missing n (listed.setIfInBounds i true)=(missing n listed).filter fun j=>decide (j≠i):=by
  unfold missing
  rw [List.filter_filter]
  refine List.filter_congr fun j _=>?_
  by_cases hj:j=i
  ·subst hj
   simp [hi]
  ·rw [getD_set_ne true (Ne.symm hj)]; simp [hj]
 rw [h1]
 exact List.length_filter_lt_length_iff_exists.2 ⟨i,List.mem_filter.2 ⟨List.mem_range.2 hn,by simp [h]⟩,by simp⟩
theorem waits_mem {i:Nat}{o:Oper}(ho:ops[i]? = some o) {x:Edge}(hx:x∈o.after) (hb:Region.binds .any x=true):x.on∈waits ops i:=by
 unfold waits
 rw [ho]
 exact List.mem_map.2 ⟨x,List.mem_filter.2 ⟨by simpa using hx,hb⟩,rfl⟩
theorem ready_exists (hb:backB ops=true) {listed:Array Bool}(hsz:listed.size=ops.size):∀ i,i<ops.size→listed.getD i true=false→Region.ready .any ops listed≠[]:=by
 intro i
 induction i using Nat.strongRecOn with
 | _ i ih =>
   intro hi hu
   have ho:ops[i]? = some ops[i]:=Array.getElem?_eq_getElem hi
   by_cases hall:∀ e∈ops[i].after,Region.binds .any e=true→listed.getD e.on false=true
   ·intro h0
    have:i∈Region.ready .any ops listed:=mem_ready.2 ⟨hu,_,ho,hall⟩
    rw [h0] at this; cases this
   ·have ⟨x,hx⟩:=Classical.not_forall.1 hall
    have ⟨hx1,hx2⟩:=Classical.not_imp.1 hx
    have ⟨hx3,hx4⟩:=Classical.not_imp.1 hx2
    have h1:=List.all_eq_true.1 hb i (List.mem_range.2 hi)
    have h2:=List.all_eq_true.1 h1 x.on (waits_mem ho hx1 hx3)
    have hlt:x.on<i:=by simpa using h2
    refine ih x.on hlt (by omega) ?_
    have hls:x.on<listed.size:=by omega
    cases hc:listed.getD x.on true with
    | false=>rfl
    | true =>
      exfalso
      apply hx4
      simp [hls] at hc ⊢
      exact hc
theorem wpAny_vals (hl:loneB ops=true) (hb:backB ops=true) (I:Vals→World→Prop) (a:Act)
 (hstep:∀ i o,ops[i]? = some o→∀ e w,I e w→e i=none→(∀ j∈waits ops i,(e j).isSome=true)→wpOp P ops Q i (fun a' w'=>∃ v,a'=filled ops (e.set i v) a∧I (e.set i v) w') (filled ops e a) w)
 (hend:∀ e w,I e w→(∀ i,i<ops.size→(e i).isSome=true)→Q .normal (filled ops e a) w) :
 ∀ (fuel:Nat) (listed:Array Bool) (e:Vals) (w:World),listed.size=ops.size→(∀ i,i<ops.size→listed.getD i true=(e i).isSome)→(missing ops.size listed).length≤fuel→I e w→wpAny P .any ops Q fuel listed (filled ops e a) w:=by
 intro fuel
 have hdone:∀ (listed:Array Bool) (e:Vals) (w:World),listed.size=ops.size→(∀ i,i<ops.size→listed.getD i true=(e i).isSome)→Region.ready .any ops listed=[]→I e w→Q .normal (filled ops e a) w:=by
  intro listed e w hsz hle hr hI
  refine hend e w hI fun i hi=>?_
  rw [← hle i hi]
  cases hc:listed.getD i true with
  | true=>rfl
  | false=>exact absurd hr (ready_exists hb hsz i hi hc)
 induction fuel with
 | zero =>
   intro listed e w hsz hle hm hI
   have hr:Region.ready .any ops listed=[]:=by
    have h0:missing ops.size listed=[]:=List.eq_nil_of_length_eq_zero (by omega)
    cases hc:Region.ready .any ops listed with
    | nil=>rfl
    | cons i r =>
      have hmem:i∈Region.ready .any ops listed:=by rw [hc]; simp
      obtain⟨hu,o,ho,_⟩:=mem_ready.1 hmem
      have hi:i<ops.size:=(Array.getElem?_eq_some_iff.1 ho).1
      have:i∈missing ops.size listed:=List.mem_filter.2 ⟨List.mem_range.2 hi,by simp [hu]⟩
      rw [h0] at this; cases this
   exact⟨hr,hdone listed e w hsz hle hr hI⟩
 | succ fuel ih =>
   intro listed e w hsz hle hm hI
   refine⟨fun hr=>hdone listed e w hsz hle hr hI,fun i hi=>?_⟩
   obtain⟨hu,o,ho,hall⟩:=mem_ready.1 hi
   have hin:i<ops.size:=(Array.getElem?_eq_some_iff.1 ho).1
   have hei:e i=none:=by
    have:=hle i hin
    rw [hu] at this
    cases hc:e i with
    | none=>rfl
    | some v=>rw [hc] at this; cases this
   have hw:∀ j∈waits ops i,(e j).isSome=true:=by
    intro j hj
    unfold waits at hj
    rw [ho] at hj
    obtain⟨x,hx,rfl⟩:=List.mem_map.1 hj
    obtain⟨hx1,hx2⟩:=List.mem_filter.1 hx
    have h1:=hall x (by simpa using hx1) hx2
    have hlt:x.on<ops.size:=by
     have h2:=List.all_eq_true.1 hb i (List.mem_range.2 hin)
     have h3:=List.all_eq_true.1 h2 x.on (waits_mem ho (by simpa using hx1) hx2)
     have:x.on<i:=by simpa using h3
     omega
    rw [← hle x.on hlt]
    have hls:x.on<listed.size:=by omega
    simp [hls] at h1 ⊢
    exact h1
   refine wpOp_mono (fun a' w' h=>?_) (hstep i o ho e w hI hei hw)
   obtain⟨v,rfl,hI'⟩:=h
   refine ih _ _ w' (by simpa using hsz) (fun j hj=>?_) ?_ hI'
   ·by_cases hji:j=i
    ·subst hji
     have hls:j<listed.size:=by omega
     simp [Vals.set_same,hls]
    ·rw [getD_set_ne true (Ne.symm hji),Vals.set_other e v hji]
     exact hle j hj
   ·have:=missing_set (n:=ops.size) (i:=i) (listed:=listed) (by omega) hin hu
    omega
theorem missing_le (n:Nat) (listed:Array Bool):(missing n listed).length≤n:=by
 have:=List.length_filter_le (fun i=>!listed.getD i true) (List.range n)
 rw [List.length_range] at this
 exact this
def regOps (id:Nat):Code→Option (Array Oper)
 | .region i ops _=>if i=id then some ops else none
 | .seq a b=>match regOps id a with
   | some x=>some x
   | none=>regOps id b
 | .cond _ a b=>match regOps id a with
   | some x=>some x
   | none=>regOps id b
 | .block _ a=>regOps id a
 | .loop a=>regOps id a
 | .rangeFunc _ _ a b=>match regOps id a with
   | some x=>some x
   | none=>regOps id b
 | .scope a=>regOps id a
 | _=>none
noncomputable def regOf (f:Func) (id:Nat):Array Oper:=(f.body.bind (regOps id)).getD #[]
def noQ:Exit→Act→World→Prop:=fun _ _ _=>False
theorem wp_noQ {o:Oper}{a:Act}{w:World}{K:Act→World→Prop}(h:o.wp P a w K noQ):o.wp P a w K Q:=by
 unfold Oper.wp at *
 generalize (execOp a.eval o).run P w=r at *
 cases r with
 | ok n w' =>
   cases n <;> simp only [Oper.upon] at h ⊢ <;>
    first
     | exact h
     | exact Calls.mono h (fun e w'' he=>by cases e with
        | returned v=>exact he
        | panicked c=>exact he.elim
        | outgrown=>obtain⟨_,_,hh⟩:=he; exact hh.elim)
 | halt x w'=>cases x <;> simp only [Oper.upon] at h ⊢ <;> exact h.elim
def Next (ops:Array Oper) (C:World→Prop) (T:Nat→Value→World→Prop) (drops:Nat→List Nat) (i:Nat) (e:Vals) (A:Act) (w:World) (dst:Option Tmp) (K:Act→World→Prop):Prop :=
 ∀ v w',T i v w'→C w'→(∀ j u,e j=some u→j≠i→(waits ops j).contains i=false→(∀ k,k<ops.size→(drops k).contains j=true→k≠i∧e k=none)→T j u w→T j u w')→K (A.put dst v) w'
def held (ops:Array Oper) (drops:Nat→List Nat) (i j:Nat):Bool:=(List.range ops.size).all fun k=>!(drops k).contains j||k==i
def StepOk (P:Program) (ops:Array Oper) (a:Act) (C:World→Prop) (T:Nat→Value→World→Prop) (drops:Nat→List Nat) (i:Nat) (o:Oper):Prop :=
 ∀ (e:Vals) (A:Act) (w:World),A=filled ops e a→C w→(∀ j,(waits ops i).contains j=true→∃ v,e j=some v∧(held ops drops i j=true→T j v w)) →
  ∀ K:Act→World→Prop,Next ops C T drops i e A w o.dst K →
   if Region.wanted o (yielded ops A.tmps)=true then Oper.wp P o A w K noQ else K (A.put o.dst undef) w
def dropped (ops:Array Oper) (drops:Nat→List Nat) (j:Nat):Bool:=(List.range ops.size).any fun i=>(drops i).contains j
def puts:List (Option Nat)→List Value→Act→Act
 | d :: ds,v :: vs,a=>puts ds vs (a.put d v)
 | _,_,a=>a
theorem putFrom_puts:∀ (vs:List Value) (k:Nat) (ds:List (Option Nat)),(∀ j,j<vs.length→ds[j]? = some (dstOf ops (k+j)))→∀ (a:Act),putFrom ops k vs a=puts ds vs a
 | [],k,ds,_,a=>by cases ds <;> rfl
 | v :: vs,k,[],h,a=>by have:=h 0 (by simp); cases this
 | v :: vs,k,d :: ds,h,a=>by
   have h0:=h 0 (by simp)
   simp at h0
   rw [putFrom,puts,h0]
   refine putFrom_puts vs (k+1) ds (fun j hj=>?_) _
   have:=h (j+1) (by simp; omega)
   rw [show k+1+j=k+(j+1) from by omega]
   simpa using this
theorem wp_region_set {id:Nat}{opsG:Array Oper}{w:World}(ops:Array Oper) (ds:List (Option Nat)) (T:Nat→Value→World→Prop) (C:World→Prop) (drops:Nat→List Nat)
 (hops:opsG=ops) (hds:ops.toList.map (·.dst)=ds) (hm:P.follows .mixedOrders=true) (hl:loneB ops=true) (hb:backB ops=true)
 (h0:C w.drew) (hstep:∀ i o,ops[i]? = some o→StepOk P ops a C T drops i o)
 (hend:∀ (vs:List Value) w',vs.length=ops.size→C w'→(∀ j v,vs[j]? = some v→dropped ops drops j=false→T j v w')→Q .normal (puts ds vs a) w') :
 (Code.region id opsG true).wp P Q a w:=by
 subst hops
 refine wp_region_any hm ?_
 have key:=wpAny_vals (P:=P) (ops:=opsG) (Q:=Q) hl hb (fun e w=>C w∧(∀ j v,e j=some v→∀ k,(waits opsG j).contains k=true→(e k).isSome=true)∧∀ j v,e j=some v→(∃ i,i<opsG.size∧(e i).isSome=true∧(drops i).contains j=true)∨T j v w) a ?_ ?_
 ·have h:=key opsG.size (Array.replicate opsG.size false) (fun _=>none) w.drew (by simp) (fun i hi=>by simp [hi]) (missing_le _ _) ⟨h0,(fun j v h=>by cases h),fun j v h=>by cases h⟩
  rw [filled_none] at h
  exact h
 ·intro i o ho e w1 ⟨hC,hcl,hT⟩ hei hw
  have hin:i<opsG.size:=(Array.getElem?_eq_some_iff.1 ho).1
  refine wpOp_step ho fun K hK=>?_
  have hdi:dstOf opsG i=o.dst:=by unfold dstOf; rw [ho]; rfl
  have hgo:=hstep i o ho e _ w1 rfl hC (fun j hj=>?_) K (fun v w' hv hC' hk=>?_)
  ·split
   ·rename_i hwt; rw [if_pos hwt] at hgo; exact wp_noQ hgo
   ·rename_i hwt; rw [if_neg hwt] at hgo; exact hgo
  ·have h1:=hw j (by simpa using hj)
   cases hc:e j with
   | none=>rw [hc] at h1; cases h1
   | some v =>
     refine⟨v,rfl,fun hh=>?_⟩
     rcases hT j v hc with ⟨k,hk,hke,hkd⟩ | h
     ·exfalso
      have h2:=List.all_eq_true.1 hh k (List.mem_range.2 hk)
      have hne:k≠i:=fun he=>by subst he; rw [hei] at hke; cases hke
      rw [hkd] at h2
      simp [hne] at h2
     ·exact h
  ·refine hK _ _ ⟨v,by rw [← hdi,filled_put hl],hC',fun j u hj k hk2=>?_,fun j u hj=>?_⟩
   ·by_cases hki:k=i
    ·subst hki; rw [Vals.set_same]; rfl
    ·rw [Vals.set_other e v hki]
     by_cases hji:j=i
     ·subst hji; exact hw k (by simpa using hk2)
     ·rw [Vals.set_other e v hji] at hj; exact hcl j u hj k hk2
   ·by_cases hji:j=i
    ·subst hji
     rw [Vals.set_same] at hj
     cases hj
     exact .inr hv
    ·rw [Vals.set_other e v hji] at hj
     rcases hT j u hj with ⟨k,hk,hke,hkd⟩ | h
     ·refine .inl ⟨k,hk,?_,hkd⟩
      by_cases hki:k=i
      ·subst hki; rw [Vals.set_same]; rfl
      ·rw [Vals.set_other e v hki]; exact hke
     ·by_cases hdr:∃ k,k<opsG.size∧((e.set i v) k).isSome=true∧(drops k).contains j=true
      ·exact .inl hdr
      ·refine .inr (hk j u hj hji ?_ (fun k hks hkd=>?_) h)
       rotate_left
       ·have hki:k≠i:=fun he=>hdr ⟨k,hks,by subst he; rw [Vals.set_same]; rfl,hkd⟩
        refine⟨hki,?_⟩
        cases hc:e k with
        | none=>rfl
        | some x=>exact absurd ⟨k,hks,by rw [Vals.set_other e v hki,hc]; rfl,hkd⟩ hdr
       cases hcw:(waits opsG j).contains i with
       | false=>rfl
       | true =>
         have:=hcl j u hj i hcw
         rw [hei] at this; cases this
 ·intro e w1 ⟨hC,_,hT⟩ hall
  have hval:∀ j,j<opsG.size→e j=some ((e j).getD undef):=fun j hj=>by
   have h1:=hall j hj
   cases hc:e j with
   | none=>rw [hc] at h1; cases h1
   | some v=>rfl
  have h1:=hend ((List.range opsG.size).map fun j=>(e j).getD undef) w1 (by simp) hC (fun j v hj hno=>?_)
  ·rw [← putFrom_puts (ops:=opsG) _ 0 ds (fun j hj=>?_),← filled_is hl _ (by simp) (fun j hj=>?_) a] at h1
   ·exact h1
   ·simp at hj ⊢; exact hval j hj
   ·simp at hj
    rw [← hds,Nat.zero_add]
    unfold dstOf
    simp [hj]
  ·obtain⟨hj1,hj2⟩:=List.getElem?_eq_some_iff.1 hj
   simp at hj1 hj2
   have:=hval j hj1
   rw [hj2] at this
   rcases hT j v this with ⟨k,hk,_,hkd⟩ | h
   ·have:dropped opsG drops j=true:=List.any_eq_true.2 ⟨k,List.mem_range.2 hk,hkd⟩
    rw [this] at hno; cases hno
   ·exact h
theorem of_index {p:Nat→Oper→Prop}{ops:Array Oper}(n:Nat) (hn:ops.size=n) (h:∀ i,i<n→∀ o,ops[i]? = some o→p i o) (i:Nat) (o:Oper) (ho:ops[i]? = some o):p i o :=
 h i (by rw [← hn]; exact (Array.getElem?_eq_some_iff.1 ho).1) o ho
section
variable {C:World→Prop}{T:Nat→Value→World→Prop}{drops:Nat→List Nat}{i:Nat}{w w':World}{o:Oper}{K:Act→World→Prop}
theorem op_tmp (hA:A=filled ops e a) (hp:∀ j,(waits ops i).contains j=true→∃ v,e j=some v∧(held ops drops i j=true→T j v w)) (t j:Nat) (hw:whose ops t=some j) (hwt:(waits ops i).contains j=true) (hh:held ops drops i j=true) (hs:Nat.blt t a.tmps.size=true):T j (A.eval (.tmp t)) w:=by
 obtain⟨v,he,ht⟩:=hp j hwt
 rw [filled_tmp hA hw he (by simpa [Nat.blt_eq] using hs)]
 exact ht hh
theorem wanted_tmp {g d:Nat}{b:Bool}(hg:o.guard=some (g,b)) (hd:dstOf ops g=some d) {c:Bool}(hv:A.eval (.tmp d) = .bool c) (hc:c=b):Region.wanted o (yielded ops A.tmps)=true:=by
 subst hc
 refine wanted_yes hg ?_
 unfold yielded
 show (match (dstOf ops g).bind (fun t=>A.tmps[t]?) with | some (.bool b)=>some b | _=>none)=some c
 rw [hd]
 simp only [Act.eval,Array.getD_eq_getD_getElem?] at hv
 cases hx:A.tmps[d]? with
 | none=>rw [hx] at hv; cases hv
 | some x=>rw [hx] at hv; simp at hv; simp [hv,hx]
theorem wanted_free {o:Oper}{y:Nat→Option Bool}(hg:o.guard=none):Region.wanted o y=true:=by simp [Region.wanted,hg]
theorem step_pure {v:Value}(hk:Next ops C T drops i e A w o.dst K) (hC:C w) (hw:Region.wanted o (yielded ops A.tmps)=true) (hr:(execOp A.eval o).run P w = .ok (.value v) w) (ht:T i v w) :
 if Region.wanted o (yielded ops A.tmps)=true then Oper.wp P o A w K noQ else K (A.put o.dst undef) w:=by
 rw [if_pos hw]
 unfold Oper.wp
 rw [hr]
 exact hk v w ht hC (fun _ _ _ _ _ _ h=>h)
theorem step_value {v:Value}(hk:Next ops C T drops i e A w o.dst K) (hw:Region.wanted o (yielded ops A.tmps)=true) (hr:(execOp A.eval o).run P w = .ok (.value v) w') (ht:T i v w') (hC:C w')
 (hkeep:∀ j u,e j=some u→j≠i→(waits ops j).contains i=false→(∀ k,k<ops.size→(drops k).contains j=true→k≠i∧e k=none)→T j u w→T j u w') :
 if Region.wanted o (yielded ops A.tmps)=true then Oper.wp P o A w K noQ else K (A.put o.dst undef) w:=by
 rw [if_pos hw]
 unfold Oper.wp
 rw [hr]
 exact hk v w' ht hC hkeep
theorem step_call {f:FuncId}{args:Array Value}(hk:Next ops C T drops i e A w o.dst K) (hw:Region.wanted o (yielded ops A.tmps)=true) (hr:(execOp A.eval o).run P w = .ok (.enter f args) w)
 (h:Calls P f args w fun en w'=>∃ v,en = .returned v∧T i v w'∧C w'∧(∀ j u,e j=some u→j≠i→(waits ops j).contains i=false→(∀ k,k<ops.size→(drops k).contains j=true→k≠i∧e k=none)→T j u w→T j u w')) :
 if Region.wanted o (yielded ops A.tmps)=true then Oper.wp P o A w K noQ else K (A.put o.dst undef) w:=by
 rw [if_pos hw]
 unfold Oper.wp
 rw [hr]
 refine Calls.mono h ?_
 rintro en w'' ⟨v,rfl,h1,h2,h3⟩
 exact hk v w'' h1 h2 h3
theorem run_move {ρ:Operand→Value}{x:Operand}{v:Value}(h:o.op = .move x) (hx:ρ x=v) (w:World):(execOp ρ o).run P w = .ok (.value v) w:=by
 subst hx; unfold execOp; rw [h]; rfl
theorem run_assign {ρ:Operand→Value}{x:Operand}{v:Value}(h:o.op = .assign x) (hx:ρ x=v) (w:World):(execOp ρ o).run P w = .ok (.value v) w:=by
 subst hx; unfold execOp; rw [h]; rfl
theorem run_pick {ρ:Operand→Value}{c x y:Operand}{b:Bool}{v:Value}(h:o.op = .pick c x y) (hc:ρ c = .bool b) (hv:(if b=true then ρ x else ρ y)=v) (w:World):(execOp ρ o).run P w = .ok (.value v) w:=by
 subst hv; unfold execOp; rw [h]; simp only [hc]; cases b <;> rfl
theorem run_extract {ρ:Operand→Value}{x:Operand}{n:Nat}{vs:Array Value}{v:Value}(h:o.op = .extract x n) (hx:ρ x = .tuple vs) (hv:vs[n]? = some v) (w:World):(execOp ρ o).run P w = .ok (.value v) w:=by
 unfold execOp; rw [h]; simp only [hx,Instr.extract]; simp [hv]
end
end
theorem opIs {ops:Array Oper}{i:Nat}{o:Oper}{p:Op}(ho:ops[i]? = some o) (h:(ops[i]?).map (·.op)=some p):o.op=p:=by
 rw [ho] at h; simpa using h
theorem guardIs {ops:Array Oper}{i:Nat}{o:Oper}{p:Option (Nat × Bool)}(ho:ops[i]? = some o) (h:(ops[i]?).map (·.guard)=some p):o.guard=p:=by
 rw [ho] at h; simpa using h
theorem len_cons {α:Type}{l:List α}{n:Nat}(h:l.length=n+1):∃ x r,l=x :: r∧r.length=n:=by
 cases l with
 | nil=>cases h
 | cons x r=>exact⟨x,r,rfl,by simpa using h⟩
end Go.Proofs.YtlpgbmaoenncjaaGreatDoor
namespace Go.Proofs.YtlpgbmaoenncjaaGreatDoor
open Go.RowKit
set_option linter.unusedVariables false
def upS (ops:Array Oper):Nat→List Nat→List Nat
 | 0,S=>S
 | k+1,S=>upS ops k (if S.contains k then S++waits ops k else S)
def lastB (ops:Array Oper) (n:Nat):Bool:=(List.range n).all fun j=>(upS ops (n+1) [n]).contains j
theorem upS_some {ops:Array Oper}{e:Vals}(hc:∀ j,(e j).isSome=true→∀ k,(waits ops j).contains k=true→(e k).isSome=true):∀ (k:Nat) (S:List Nat),(∀ j∈S,(e j).isSome=true)→∀ j∈upS ops k S,(e j).isSome=true
 | 0,S,h=>h
 | k+1,S,h=>by
   rw [upS]
   refine upS_some hc k _ ?_
   split
   ·rename_i hk
    intro j hj
    rcases List.mem_append.1 hj with hj | hj
    ·exact h j hj
    ·exact hc k (h k (by simpa using hk)) j (by simpa using hj)
   ·exact h
theorem lastB_some {ops:Array Oper}{e:Vals}{n:Nat}(hl:lastB ops n=true) (hc:∀ j,(e j).isSome=true→∀ k,(waits ops j).contains k=true→(e k).isSome=true) (hn:(e n).isSome=true) (j:Nat) (hj:j<n):(e j).isSome=true:=by
 have h:=List.all_eq_true.1 hl j (List.mem_range.2 hj)
 exact upS_some hc (n+1) [n] (fun i hi=>by simp at hi; subst hi; exact hn) j (by simpa using h)
theorem filled_is' {ops:Array Oper}{e:Vals}(hl:loneB ops=true) (l:List Value) (n:Nat) (hn:l.length=n) (hs:ops.size=n+1) (h:∀ j (hj:j<l.length),e j=some l[j]) (h0:e n=none) (a:Act):filled ops e a=putFrom ops 0 l a:=by
 have h1:=filled_putFrom hl l 0 (fun _=>none) a
 rw [filled_none] at h1
 rw [h1]
 refine Act.ext' ?_ rfl
 refine Array.ext_getElem? fun t=>?_
 simp only [filled,Array.getElem?_mapIdx]
 cases hw:whose ops t with
 | none=>simp
 | some j =>
   have hj:j<n+1:=by rw [← hs]; exact dstOf_lt (whose_some hw)
   simp only [Option.bind_some]
   by_cases hjn:j=n
   ·subst hjn
    rw [h0,if_neg (by omega)]
   ·rw [h j (by omega),if_pos ⟨Nat.zero_le _,by omega⟩,Nat.sub_zero,List.getElem?_eq_getElem (by omega)]
section
variable {P:Program}{Q:Exit→Act→World→Prop}{a:Act}
theorem wp_region_last {id:Nat}{opsG:Array Oper}{w:World}(ops:Array Oper) (ds:List (Option Nat)) (n:Nat) (T:Nat→Value→World→Prop) (C:World→Prop) (drops:Nat→List Nat)
 (hops:opsG=ops) (hds:(ops.toList.map (·.dst)).take n=ds) (hn:ops.size=n+1) (hm:P.follows .mixedOrders=true) (hl:loneB ops=true) (hb:backB ops=true) (hlast:lastB ops n=true)
 (h0:C w.drew) (hstep:∀ i o,i<n→ops[i]? = some o→StepOk P ops a C T drops i o)
 (hfin:∀ o,ops[n]? = some o→∀ (vs:List Value) w',vs.length=n→C w'→(∀ j v,vs[j]? = some v→dropped ops drops j=false→T j v w') →
   ∀ K:Act→World→Prop,(∀ v w,Q .normal ((puts ds vs a).put o.dst v) w→K ((puts ds vs a).put o.dst v) w)→if Region.wanted o (yielded ops (puts ds vs a).tmps)=true then Oper.wp P o (puts ds vs a) w' K Q else K ((puts ds vs a).put o.dst undef) w') :
 (Code.region id opsG true).wp P Q a w:=by
 subst hops
 subst hds
 refine wp_region_any hm ?_
 have key:=wpAny_vals (P:=P) (ops:=opsG) (Q:=Q) hl hb (fun e w=>(∀ j,(e j).isSome=true→∀ k,(waits opsG j).contains k=true→(e k).isSome=true)∧(∀ v,e n=some v→Q .normal (filled opsG e a) w) ∧
  (e n=none→C w∧∀ j v,e j=some v→(∃ i,i<opsG.size∧(e i).isSome=true∧(drops i).contains j=true)∨T j v w)) a ?_ ?_
 ·have h:=key opsG.size (Array.replicate opsG.size false) (fun _=>none) w.drew (by simp) (fun i hi=>by simp [hi]) (missing_le _ _) ⟨(fun j h=>by cases h),(fun v h=>by cases h),fun _=>⟨h0,fun j v h=>by cases h⟩⟩
  rw [filled_none] at h
  exact h
 ·intro i o ho e w1 ⟨hcl,hq,hI⟩ hei hw
  have hin:i<opsG.size:=(Array.getElem?_eq_some_iff.1 ho).1
  have hclose:∀ v,∀ j,((e.set i v) j).isSome=true→∀ k,(waits opsG j).contains k=true→((e.set i v) k).isSome=true:=by
   intro v j hj k hk2
   by_cases hki:k=i
   ·subst hki; rw [Vals.set_same]; rfl
   ·rw [Vals.set_other e v hki]
    by_cases hji:j=i
    ·subst hji; exact hw k (by simpa using hk2)
    ·rw [Vals.set_other e v hji] at hj; exact hcl j hj k hk2
  have hen:e n=none:=by
   cases hc:e n with
   | none=>rfl
   | some v =>
     by_cases hni:i=n
     ·subst hni; rw [hei] at hc; cases hc
     ·have:=lastB_some hlast hcl (by rw [hc]; rfl) i (by omega)
      rw [hei] at this; cases this
  obtain⟨hC,hT⟩:=hI hen
  refine wpOp_step ho fun K hK=>?_
  have hdi:dstOf opsG i=o.dst:=by unfold dstOf; rw [ho]; rfl
  by_cases hni:i=n
  ·subst hni
   have hall:∀ j,j<i→(e j).isSome=true:=by
    intro j hj
    have h1:=lastB_some (e:=e.set i undef) hlast (hclose undef) (by rw [Vals.set_same]; rfl) j hj
    rwa [Vals.set_other e undef (by omega)] at h1
   have hval:∀ j,j<i→e j=some ((e j).getD undef):=fun j hj=>by
    have h1:=hall j hj
    cases hc:e j with
    | none=>rw [hc] at h1; cases h1
    | some v=>rfl
   have hfill:filled opsG e a=puts ((opsG.toList.map (·.dst)).take i) ((List.range i).map fun j=>(e j).getD undef) a:=by
    rw [← putFrom_puts (ops:=opsG) _ 0 _ (fun j hj=>?_) a]
    ·exact filled_is' hl _ i (by simp) hn (fun j hj=>by rw [hval j (by simpa using hj)]; simp) hei a
    ·rw [List.length_map,List.length_range] at hj
     rw [Nat.zero_add,List.getElem?_take_of_lt hj]
     unfold dstOf
     rw [List.getElem?_map,Array.getElem?_toList,Array.getElem?_eq_getElem (by omega)]
     rfl
   rw [hfill]
   refine hfin o ho ((List.range i).map fun j=>(e j).getD undef) w1 (by simp) hC (fun j v hj hd=>?_) K (fun v w hA=>?_)
   ·have hji:j<i:=by have:=(List.getElem?_eq_some_iff.1 hj).1; simpa using this
    have hjv:e j=some v:=by
     rw [List.getElem?_map,List.getElem?_range hji] at hj
     rw [hval j hji]
     simpa using hj
    rcases hT j v hjv with ⟨k,hk,hke,hkd⟩ | h
    ·exfalso
     have:dropped opsG drops j=true:=List.any_eq_true.2 ⟨k,List.mem_range.2 hk,hkd⟩
     rw [hd] at this; cases this
    ·exact h
   ·rw [← hfill] at hA ⊢
    refine hK _ _ ⟨v,by rw [← hdi,filled_put hl],hclose v,(fun u hu=>by rw [← filled_put hl,hdi]; exact hA),fun h=>by rw [Vals.set_same] at h; cases h⟩
  ·have hil:i<n:=by omega
   have hgo:=hstep i o hil ho e _ w1 rfl hC (fun j hj=>?_) K (fun v w' hv hC' hk=>?_)
   ·split
    ·rename_i hwt; rw [if_pos hwt] at hgo; exact wp_noQ hgo
    ·rename_i hwt; rw [if_neg hwt] at hgo; exact hgo
   ·have h1:=hw j (by simpa using hj)
    cases hc:e j with
    | none=>rw [hc] at h1; cases h1
    | some v =>
      refine⟨v,rfl,fun hh=>?_⟩
      rcases hT j v hc with ⟨k,hk,hke,hkd⟩ | h
      ·exfalso
       have h2:=List.all_eq_true.1 hh k (List.mem_range.2 hk)
       have hne:k≠i:=fun he=>by subst he; rw [hei] at hke; cases hke
       rw [hkd] at h2
       simp [hne] at h2
      ·exact h
   ·refine hK _ _ ⟨v,by rw [← hdi,filled_put hl],hclose v,(fun u hu=>by rw [Vals.set_other e v (Ne.symm hni),hen] at hu; cases hu),fun _=>⟨hC',fun j u hj=>?_⟩⟩
    by_cases hji:j=i
    ·subst hji
     rw [Vals.set_same] at hj
     cases hj
     exact .inr hv
    ·rw [Vals.set_other e v hji] at hj
     rcases hT j u hj with ⟨k,hk,hke,hkd⟩ | h
     ·refine .inl ⟨k,hk,?_,hkd⟩
      by_cases hki:k=i
      ·subst hki; rw [Vals.set_same]; rfl
      ·rw [Vals.set_other e v hki]; exact hke
     ·by_cases hdr:∃ k,k<opsG.size∧((e.set i v) k).isSome=true∧(drops k).contains j=true
      ·exact .inl hdr
      ·refine .inr (hk j u hj hji ?_ (fun k hks hkd=>?_) h)
       rotate_left
       ·have hki:k≠i:=fun he=>hdr ⟨k,hks,by subst he; rw [Vals.set_same]; rfl,hkd⟩
        refine⟨hki,?_⟩
        cases hc:e k with
        | none=>rfl
        | some x=>exact absurd ⟨k,hks,by rw [Vals.set_other e v hki,hc]; rfl,hkd⟩ hdr
       cases hcw:(waits opsG j).contains i with
       | false=>rfl
       | true =>
         have:=hcl j (by rw [hj]; rfl) i hcw
         rw [hei] at this; cases this
 ·intro e w1 ⟨hcl,hq,hI⟩ hall
  have h1:=hall n (by omega)
  cases hc:e n with
  | none=>rw [hc] at h1; cases h1
  | some v=>exact hq v hc
end
end Go.Proofs.YtlpgbmaoenncjaaGreatDoor
namespace Go.Proofs.YtlpgbmaoenncjaaGreatDoor
open Go.RowKit
set_option linter.unusedVariables false
section
variable {P:Program}{Q:Exit→Act→World→Prop}{a:Act}
def Qn (Q:Exit→Act→World→Prop) (K:Act→World→Prop):Exit→Act→World→Prop
 | .normal,a,w=>K a w
 | x,a,w=>Q x a w
theorem Qn.out {Q:Exit→Act→World→Prop}{K:Act→World→Prop}(h:LetsOut (Qn Q K)):LetsOut Q:=h
theorem wp_qn {o:Oper}{a:Act}{w:World}{K:Act→World→Prop}(h:o.wp P a w K (Qn Q K)):o.wp P a w K Q:=by
 unfold Oper.wp at *
 generalize (execOp a.eval o).run P w=r at *
 cases r with
 | ok n w' =>
   cases n <;> simp only [Oper.upon] at h ⊢ <;>
    first
     | exact h
     | exact Calls.mono h (fun e w'' he=>by cases e with
        | returned v=>exact he
        | panicked c=>exact he
        | outgrown=>exact he)
 | halt x w'=>cases x <;> simp only [Oper.upon] at h ⊢ <;> exact h
def tailWp (P:Program) (ops:Array Oper) (Q:Exit→Act→World→Prop):List Oper→Act→World→Prop
 | [],a,w=>Q .normal a w
 | o :: r,a,w=>∀ K:Act→World→Prop,(∀ v w',tailWp P ops Q r (a.put o.dst v) w'→K (a.put o.dst v) w')→wpList P ops (Qn Q K) [o] a w
def StepOkT (P:Program) (ops:Array Oper) (n:Nat) (a:Act) (C:World→Prop) (T:Nat→Value→World→Prop) (drops:Nat→List Nat) (i:Nat) (o:Oper):Prop :=
 ∀ (e:Vals) (A:Act) (w:World),A=filled ops e a→C w→(∀ j,(waits ops i).contains j=true→∃ v,e j=some v∧(held ops drops i j=true→T j v w))→(∀ j,n≤j→e j=none) →
  ∀ K:Act→World→Prop,Next ops C T drops i e A w o.dst K →
   if Region.wanted o (yielded ops A.tmps)=true then Oper.wp P o A w K noQ else K (A.put o.dst undef) w
theorem filled_base2 {ops:Array Oper}{e:Vals}{a A:Act}{t j:Nat}{v:Value}(hA:A=filled ops e a) (h:whose ops t=some j) (he:e j=none) (hv:a.eval (.tmp t)=v):A.eval (.tmp t)=v:=by
 subst hA
 subst hv
 simp only [Act.eval,filled,Array.getD_eq_getD_getElem?,Array.getElem?_mapIdx,h,Option.bind_some,he,Option.getD_none]
 cases a.tmps[t]? <;> simp
theorem wp_region_tail {id:Nat}{opsG:Array Oper}{w:World}(ops:Array Oper) (ds:List (Option Nat)) (n:Nat) (T:Nat→Value→World→Prop) (C:World→Prop) (drops:Nat→List Nat)
 (hops:opsG=ops) (hds:(ops.toList.map (·.dst)).take n=ds) (hn:Nat.blt n ops.size=true) (hm:P.follows .mixedOrders=true) (hl:loneB ops=true) (hb:backB ops=true) (hlast:((List.range ops.size).all fun k=>Nat.blt k n||lastB ops k)=true)
 (h0:C w.drew) (hstep:∀ i o,i<n→ops[i]? = some o→StepOkT P ops n a C T drops i o)
 (hfin:∀ (vs:List Value) w',vs.length=n→C w'→(∀ j v,vs[j]? = some v→dropped ops drops j=false→T j v w')→tailWp P ops Q (ops.toList.drop n) (puts ds vs a) w') :
 (Code.region id opsG true).wp P Q a w:=by
 subst hops
 subst hds
 have hns:n<opsG.size:=Nat.blt_eq ▸ hn
 have hla:∀ k,n≤k→k<opsG.size→lastB opsG k=true:=by
  intro k hk hk2
  have h:=List.all_eq_true.1 hlast k (List.mem_range.2 hk2)
  rw [Bool.or_eq_true] at h
  rcases h with h | h
  ·have:k<n:=Nat.blt_eq ▸ h
   omega
  ·exact h
 refine wp_region_any hm ?_
 have key:=wpAny_vals (P:=P) (ops:=opsG) (Q:=Q) hl hb (fun e w=>(∀ j,(e j).isSome=true→∀ k,(waits opsG j).contains k=true→(e k).isSome=true)∧(∀ j,(e j).isSome=true→j<opsG.size) ∧
  (e n=none→C w∧∀ j v,e j=some v→(∃ i,i<opsG.size∧(e i).isSome=true∧(drops i).contains j=true)∨T j v w) ∧
  ((e n).isSome=true→∃ m,n<m∧m≤opsG.size∧(∀ j,(e j).isSome=true↔j<m)∧tailWp P opsG Q (opsG.toList.drop m) (filled opsG e a) w)) a ?_ ?_
 ·have h:=key opsG.size (Array.replicate opsG.size false) (fun _=>none) w.drew (by simp) (fun i hi=>by simp [hi]) (missing_le _ _) ⟨(fun j h=>by cases h),(fun j h=>by cases h),(fun _=>⟨h0,fun j v h=>by cases h⟩),fun h=>by cases h⟩
  rw [filled_none] at h
  exact h
 ·intro i o ho e w1 ⟨hcl,hbd,hI,hW⟩ hei hw
  have hin:i<opsG.size:=(Array.getElem?_eq_some_iff.1 ho).1
  have hclose:∀ v,∀ j,((e.set i v) j).isSome=true→∀ k,(waits opsG j).contains k=true→((e.set i v) k).isSome=true:=by
   intro v j hj k hk2
   by_cases hki:k=i
   ·subst hki; rw [Vals.set_same]; rfl
   ·rw [Vals.set_other e v hki]
    by_cases hji:j=i
    ·subst hji; exact hw k (by simpa using hk2)
    ·rw [Vals.set_other e v hji] at hj; exact hcl j hj k hk2
  have hbound:∀ v,∀ j,((e.set i v) j).isSome=true→j<opsG.size:=by
   intro v j hj
   by_cases hji:j=i
   ·omega
   ·rw [Vals.set_other e v hji] at hj; exact hbd j hj
  have hbefore:n≤i→∀ j,j<i→(e j).isSome=true:=by
   intro hni j hj
   have h1:=lastB_some (e:=e.set i undef) (hla i hni hin) (hclose undef) (by rw [Vals.set_same]; rfl) j hj
   rwa [Vals.set_other e undef (by omega)] at h1
  have hdi:dstOf opsG i=o.dst:=by unfold dstOf; rw [ho]; rfl
  by_cases hil:i<n
  ·
   have hen:e n=none:=by
    cases hc:e n with
    | none=>rfl
    | some v =>
      have:=lastB_some (hla n (Nat.le_refl _) hns) hcl (by rw [hc]; rfl) i hil
      rw [hei] at this; cases this
   have hni:i≠n:=by omega
   have hnone:∀ j,n≤j→e j=none:=by
    intro j hj
    cases hc:e j with
    | none=>rfl
    | some v =>
      by_cases hjn:j=n
      ·subst hjn; rw [hen] at hc; cases hc
      ·have:=lastB_some (hla j hj (hbd j (by rw [hc]; rfl))) hcl (by rw [hc]; rfl) n (by omega)
       rw [hen] at this; cases this
   obtain⟨hC,hT⟩:=hI hen
   refine wpOp_step ho fun K hK=>?_
   have hgo:=hstep i o hil ho e _ w1 rfl hC (fun j hj=>?_) hnone K (fun v w' hv hC' hk=>?_)
   ·split
    ·rename_i hwt; rw [if_pos hwt] at hgo; exact wp_noQ hgo
    ·rename_i hwt; rw [if_neg hwt] at hgo; exact hgo
   ·have h1:=hw j (by simpa using hj)
    cases hc:e j with
    | none=>rw [hc] at h1; cases h1
    | some v =>
      refine⟨v,rfl,fun hh=>?_⟩
      rcases hT j v hc with ⟨k,hk,hke,hkd⟩ | h
      ·exfalso
       have h2:=List.all_eq_true.1 hh k (List.mem_range.2 hk)
       have hne:k≠i:=fun he=>by subst he; rw [hei] at hke; cases hke
       rw [hkd] at h2
       simp [hne] at h2
      ·exact h
   ·refine hK _ _ ⟨v,by rw [← hdi,filled_put hl],hclose v,hbound v,(fun _=>⟨hC',fun j u hj=>?_⟩),fun hu=>by rw [Vals.set_other e v (Ne.symm hni),hen] at hu; cases hu⟩
    by_cases hji:j=i
    ·subst hji
     rw [Vals.set_same] at hj
     cases hj
     exact .inr hv
    ·rw [Vals.set_other e v hji] at hj
     rcases hT j u hj with ⟨k,hk,hke,hkd⟩ | h
     ·refine .inl ⟨k,hk,?_,hkd⟩
      by_cases hki:k=i
      ·subst hki; rw [Vals.set_same]; rfl
      ·rw [Vals.set_other e v hki]; exact hke
     ·by_cases hdr:∃ k,k<opsG.size∧((e.set i v) k).isSome=true∧(drops k).contains j=true
      ·exact .inl hdr
      ·refine .inr (hk j u hj hji ?_ (fun k hks hkd=>?_) h)
       rotate_left
       ·have hki:k≠i:=fun he=>hdr ⟨k,hks,by subst he; rw [Vals.set_same]; rfl,hkd⟩
        refine⟨hki,?_⟩
        cases hc:e k with
        | none=>rfl
        | some x=>exact absurd ⟨k,hks,by rw [Vals.set_other e v hki,hc]; rfl,hkd⟩ hdr
       cases hcw:(waits opsG j).contains i with
       | false=>rfl
       | true =>
         have:=hcl j (by rw [hj]; rfl) i hcw
         rw [hei] at this; cases this
  ·
   have hall:=hbefore (by omega)
   have hiff:∀ j,(e j).isSome=true↔j<i:=by
    intro j
    refine⟨fun hj=>?_,hall j⟩
    rcases Nat.lt_trichotomy j i with h | h | h
    ·exact h
    ·subst h; rw [hei] at hj; cases hj
    ·have:=lastB_some (hla j (by omega) (hbd j hj)) hcl hj i h
     rw [hei] at this; cases this
   have hL:tailWp P opsG Q (opsG.toList.drop i) (filled opsG e a) w1:=by
    by_cases hni:i=n
    ·subst hni
     obtain⟨hC,hT⟩:=hI hei
     have hval:∀ j,j<i→e j=some ((e j).getD undef):=fun j hj=>by
      have h1:=hall j hj
      cases hc:e j with
      | none=>rw [hc] at h1; cases h1
      | some v=>rfl
     have hfill:filled opsG e a=puts ((opsG.toList.map (·.dst)).take i) ((List.range i).map fun j=>(e j).getD undef) a:=by
      rw [← putFrom_puts (ops:=opsG) _ 0 _ (fun j hj=>?_) a]
      ·have h1:=filled_putFrom hl ((List.range i).map fun j=>(e j).getD undef) 0 (fun _=>none) a
       rw [filled_none] at h1
       rw [h1]
       congr 1
       funext j
       by_cases hj:j<i
       ·rw [if_pos ⟨Nat.zero_le _,by simpa using hj⟩,hval j hj]; simp [hj]
       ·rw [if_neg (by simp; omega)]
        cases hc:e j with
        | none=>rfl
        | some v=>exact absurd ((hiff j).1 (by rw [hc]; rfl)) hj
      ·rw [List.length_map,List.length_range] at hj
       rw [Nat.zero_add,List.getElem?_take_of_lt hj]
       unfold dstOf
       rw [List.getElem?_map,Array.getElem?_toList,Array.getElem?_eq_getElem (by omega)]
       rfl
     rw [hfill]
     refine hfin ((List.range i).map fun j=>(e j).getD undef) w1 (by simp) hC fun j v hj hd=>?_
     have hji:j<i:=by have:=(List.getElem?_eq_some_iff.1 hj).1; simpa using this
     have hjv:e j=some v:=by
      rw [List.getElem?_map,List.getElem?_range hji] at hj
      rw [hval j hji]
      simpa using hj
     rcases hT j v hjv with ⟨k,hk,hke,hkd⟩ | h
     ·exfalso
      have:dropped opsG drops j=true:=List.any_eq_true.2 ⟨k,List.mem_range.2 hk,hkd⟩
      rw [hd] at this; cases this
     ·exact h
    ·obtain⟨m,h1,h2,h3,h4⟩:=hW (hall n (by omega))
     have:m=i:=by
      have ha:¬ (e m).isSome=true:=fun h=>Nat.lt_irrefl m ((h3 m).1 h)
      have hb2:¬ i<m:=fun h=>by have:=(h3 i).2 h; rw [hei] at this; cases this
      rcases Nat.lt_trichotomy m i with h | h | h
      ·exact absurd (hall m h) ha
      ·exact h
      ·exact absurd h hb2
     subst this
     exact h4
   have hdrop:opsG.toList.drop i=o :: opsG.toList.drop (i+1):=by
    rw [List.drop_eq_getElem_cons (by simpa using hin)]
    congr 1
    have:=(Array.getElem?_eq_some_iff.1 ho).2
    simpa using this
   rw [hdrop] at hL
   have hnew:∀ v w',tailWp P opsG Q (opsG.toList.drop (i+1)) ((filled opsG e a).put o.dst v) w'→∃ v',(filled opsG e a).put o.dst v=filled opsG (e.set i v') a∧((∀ j,((e.set i v') j).isSome=true→∀ k,(waits opsG j).contains k=true→((e.set i v') k).isSome=true)∧(∀ j,((e.set i v') j).isSome=true→j<opsG.size) ∧
    ((e.set i v') n=none→C w'∧∀ j u,(e.set i v') j=some u→(∃ k,k<opsG.size∧((e.set i v') k).isSome=true∧(drops k).contains j=true)∨T j u w') ∧
    (((e.set i v') n).isSome=true→∃ m,n<m∧m≤opsG.size∧(∀ j,((e.set i v') j).isSome=true↔j<m)∧tailWp P opsG Q (opsG.toList.drop m) (filled opsG (e.set i v') a) w')):=by
    intro v w' h
    refine⟨v,by rw [← hdi,filled_put hl],hclose v,hbound v,fun h2=>?_,fun _=>⟨i+1,by omega,hin,fun j=>?_,by rw [← filled_put hl,hdi]; exact h⟩⟩
    ·exfalso
     by_cases hni:n=i
     ·subst hni; rw [Vals.set_same] at h2; cases h2
     ·rw [Vals.set_other e v hni] at h2
      have:=hall n (by omega)
      rw [h2] at this; cases this
    ·by_cases hji:j=i
     ·subst hji; rw [Vals.set_same]; simp
     ·rw [Vals.set_other e v hji,hiff j]; omega
   have key2:∀ K:Act→World→Prop,(∀ v w',tailWp P opsG Q (opsG.toList.drop (i+1)) ((filled opsG e a).put o.dst v) w'→K ((filled opsG e a).put o.dst v) w') →
    (if Region.wanted o (yielded opsG (filled opsG e a).tmps)=true then o.wp P (filled opsG e a) w1 K Q∨(o.asks P (filled opsG e a) w1∧LetsOut Q) else K ((filled opsG e a).put o.dst undef) w1):=by
    intro K hK
    have h1:=hL K hK
    unfold wpList at h1
    split
    ·rename_i hwt
     rw [if_pos hwt] at h1
     rcases h1 with h1 | h1
     ·exact .inl (wp_qn h1)
     ·exact .inr ⟨h1.1,Qn.out h1.2⟩
    ·rename_i hwt
     rw [if_neg hwt] at h1
     exact h1
   unfold wpOp
   rw [ho]
   refine key2 _ ?_
   exact hnew
 ·intro e w1 ⟨hcl,hbd,hI,hW⟩ hall
  obtain⟨m,h1,h2,h3,h4⟩:=hW (hall n hns)
  have:m=opsG.size:=by
   have ha:¬ (e m).isSome=true:=fun h=>Nat.lt_irrefl m ((h3 m).1 h)
   rcases Nat.lt_or_ge m opsG.size with h | h
   ·exact absurd (hall m h) ha
   ·omega
  subst this
  rw [List.drop_eq_nil_of_le (by simp)] at h4
  exact h4
end
theorem drop_tail {ops:Array Oper}{n:Nat}{x y:Oper}(hs:ops.size=n+2) (hx:ops[n]? = some x) (hy:ops[n+1]? = some y):ops.toList.drop n=[x,y]:=by
 obtain⟨h1,h2⟩:=Array.getElem?_eq_some_iff.1 hx
 obtain⟨h3,h4⟩:=Array.getElem?_eq_some_iff.1 hy
 rw [List.drop_eq_getElem_cons (by simpa using h1),List.drop_eq_getElem_cons (by simpa using h3),List.drop_eq_nil_of_le (by simp; omega)]
 simp [h2,h4]
end Go.Proofs.YtlpgbmaoenncjaaGreatDoor
namespace Go.Proofs.YtlpgbmaoenncjaaGreatDoor
open Go.RowKit
set_option linter.unusedVariables false
def NextE (ops:Array Oper) (C:Vals→World→Prop) (T:Nat→Value→World→Prop) (drops:Nat→List Nat) (i:Nat) (e:Vals) (A:Act) (w:World) (dst:Option Tmp) (K:Act→World→Prop):Prop :=
 ∀ v w',T i v w'→C (e.set i v) w'→(∀ j u,e j=some u→j≠i→(waits ops j).contains i=false→(∀ k,k<ops.size→(drops k).contains j=true→k≠i∧e k=none)→T j u w→T j u w')→K (A.put dst v) w'
theorem NextE.next {ops:Array Oper}{C:Vals→World→Prop}{C1:World→Prop}{T:Nat→Value→World→Prop}{drops:Nat→List Nat}{i:Nat}{e:Vals}{A:Act}{w:World}{dst:Option Tmp}{K:Act→World→Prop}
 (h:NextE ops C T drops i e A w dst K) (hc:∀ v w,C1 w→C (e.set i v) w):Next ops C1 T drops i e A w dst K:=fun v w' h1 h2 h3=>h v w' h1 (hc v w' h2) h3
def StepOkE (P:Program) (ops:Array Oper) (a:Act) (C:Vals→World→Prop) (T:Nat→Value→World→Prop) (drops:Nat→List Nat) (i:Nat) (o:Oper):Prop :=
 ∀ (e:Vals) (A:Act) (w:World),A=filled ops e a→C e w→(∀ j,(waits ops i).contains j=true→∃ v,e j=some v∧(held ops drops i j=true→T j v w))→(∀ j,(upS ops ops.size [j]).contains i=true→e j=none) →
  ∀ K:Act→World→Prop,NextE ops C T drops i e A w o.dst K →
   if Region.wanted o (yielded ops A.tmps)=true then Oper.wp P o A w K noQ else K (A.put o.dst undef) w
section
variable {P:Program}{Q:Exit→Act→World→Prop}{a:Act}
theorem wp_region_lastE {id:Nat}{opsG:Array Oper}{w:World}(ops:Array Oper) (ds:List (Option Nat)) (n:Nat) (T:Nat→Value→World→Prop) (C:Vals→World→Prop) (drops:Nat→List Nat)
 (hops:opsG=ops) (hds:(ops.toList.map (·.dst)).take n=ds) (hn:ops.size=n+1) (hm:P.follows .mixedOrders=true) (hl:loneB ops=true) (hb:backB ops=true) (hlast:lastB ops n=true)
 (h0:C (fun _=>none) w.drew) (hstep:∀ i o,i<n→ops[i]? = some o→StepOkE P ops a C T drops i o)
 (hfin:∀ o,ops[n]? = some o→∀ (e:Vals) (vs:List Value) w',vs.length=n→(∀ j,j<n→(e j).isSome=true)→C e w'→(∀ j v,vs[j]? = some v→dropped ops drops j=false→T j v w') →
   ∀ K:Act→World→Prop,(∀ v w,Q .normal ((puts ds vs a).put o.dst v) w→K ((puts ds vs a).put o.dst v) w)→if Region.wanted o (yielded ops (puts ds vs a).tmps)=true then Oper.wp P o (puts ds vs a) w' K Q else K ((puts ds vs a).put o.dst undef) w') :
 (Code.region id opsG true).wp P Q a w:=by
 subst hops
 subst hds
 refine wp_region_any hm ?_
 have key:=wpAny_vals (P:=P) (ops:=opsG) (Q:=Q) hl hb (fun e w=>(∀ j,(e j).isSome=true→∀ k,(waits opsG j).contains k=true→(e k).isSome=true)∧(∀ v,e n=some v→Q .normal (filled opsG e a) w) ∧
  (e n=none→C e w∧∀ j v,e j=some v→(∃ i,i<opsG.size∧(e i).isSome=true∧(drops i).contains j=true)∨T j v w)) a ?_ ?_
 ·have h:=key opsG.size (Array.replicate opsG.size false) (fun _=>none) w.drew (by simp) (fun i hi=>by simp [hi]) (missing_le _ _) ⟨(fun j h=>by cases h),(fun v h=>by cases h),fun _=>⟨h0,fun j v h=>by cases h⟩⟩
  rw [filled_none] at h
  exact h
 ·intro i o ho e w1 ⟨hcl,hq,hI⟩ hei hw
  have hin:i<opsG.size:=(Array.getElem?_eq_some_iff.1 ho).1
  have hclose:∀ v,∀ j,((e.set i v) j).isSome=true→∀ k,(waits opsG j).contains k=true→((e.set i v) k).isSome=true:=by
   intro v j hj k hk2
   by_cases hki:k=i
   ·subst hki; rw [Vals.set_same]; rfl
   ·rw [Vals.set_other e v hki]
    by_cases hji:j=i
    ·subst hji; exact hw k (by simpa using hk2)
    ·rw [Vals.set_other e v hji] at hj; exact hcl j hj k hk2
  have hen:e n=none:=by
   cases hc:e n with
   | none=>rfl
   | some v =>
     by_cases hni:i=n
     ·subst hni; rw [hei] at hc; cases hc
     ·have:=lastB_some hlast hcl (by rw [hc]; rfl) i (by omega)
      rw [hei] at this; cases this
  obtain⟨hC,hT⟩:=hI hen
  refine wpOp_step ho fun K hK=>?_
  have hdi:dstOf opsG i=o.dst:=by unfold dstOf; rw [ho]; rfl
  by_cases hni:i=n
  ·subst hni
   have hall:∀ j,j<i→(e j).isSome=true:=by
    intro j hj
    have h1:=lastB_some (e:=e.set i undef) hlast (hclose undef) (by rw [Vals.set_same]; rfl) j hj
    rwa [Vals.set_other e undef (by omega)] at h1
   have hval:∀ j,j<i→e j=some ((e j).getD undef):=fun j hj=>by
    have h1:=hall j hj
    cases hc:e j with
    | none=>rw [hc] at h1; cases h1
    | some v=>rfl
   have hfill:filled opsG e a=puts ((opsG.toList.map (·.dst)).take i) ((List.range i).map fun j=>(e j).getD undef) a:=by
    rw [← putFrom_puts (ops:=opsG) _ 0 _ (fun j hj=>?_) a]
    ·exact filled_is' hl _ i (by simp) hn (fun j hj=>by rw [hval j (by simpa using hj)]; simp) hei a
    ·rw [List.length_map,List.length_range] at hj
     rw [Nat.zero_add,List.getElem?_take_of_lt hj]
     unfold dstOf
     rw [List.getElem?_map,Array.getElem?_toList,Array.getElem?_eq_getElem (by omega)]
     rfl
   rw [hfill]
   refine hfin o ho e ((List.range i).map fun j=>(e j).getD undef) w1 (by simp) hall hC (fun j v hj hd=>?_) K (fun v w hA=>?_)
   ·have hji:j<i:=by have:=(List.getElem?_eq_some_iff.1 hj).1; simpa using this
    have hjv:e j=some v:=by
     rw [List.getElem?_map,List.getElem?_range hji] at hj
     rw [hval j hji]
     simpa using hj
    rcases hT j v hjv with ⟨k,hk,hke,hkd⟩ | h
    ·exfalso
     have:dropped opsG drops j=true:=List.any_eq_true.2 ⟨k,List.mem_range.2 hk,hkd⟩
     rw [hd] at this; cases this
    ·exact h
   ·rw [← hfill] at hA ⊢
    refine hK _ _ ⟨v,by rw [← hdi,filled_put hl],hclose v,(fun u hu=>by rw [← filled_put hl,hdi]; exact hA),fun h=>by rw [Vals.set_same] at h; cases h⟩
  ·have hil:i<n:=by omega
   have hgo:=hstep i o hil ho e _ w1 rfl hC (fun j hj=>?_) (fun j hj=>?_) K (fun v w' hv hC' hk=>?_)
   ·split
    ·rename_i hwt; rw [if_pos hwt] at hgo; exact wp_noQ hgo
    ·rename_i hwt; rw [if_neg hwt] at hgo; exact hgo
   ·have h1:=hw j (by simpa using hj)
    cases hc:e j with
    | none=>rw [hc] at h1; cases h1
    | some v =>
      refine⟨v,rfl,fun hh=>?_⟩
      rcases hT j v hc with ⟨k,hk,hke,hkd⟩ | h
      ·exfalso
       have h2:=List.all_eq_true.1 hh k (List.mem_range.2 hk)
       have hne:k≠i:=fun he=>by subst he; rw [hei] at hke; cases hke
       rw [hkd] at h2
       simp [hne] at h2
      ·exact h
   ·cases hc:e j with
    | none=>rfl
    | some v =>
      have:=upS_some hcl opsG.size [j] (fun k hk=>by simp at hk; subst hk; rw [hc]; rfl) i (by simpa using hj)
      rw [hei] at this; cases this
   ·refine hK _ _ ⟨v,by rw [← hdi,filled_put hl],hclose v,(fun u hu=>by rw [Vals.set_other e v (Ne.symm hni),hen] at hu; cases hu),fun _=>⟨hC',fun j u hj=>?_⟩⟩
    by_cases hji:j=i
    ·subst hji
     rw [Vals.set_same] at hj
     cases hj
     exact .inr hv
    ·rw [Vals.set_other e v hji] at hj
     rcases hT j u hj with ⟨k,hk,hke,hkd⟩ | h
     ·refine .inl ⟨k,hk,?_,hkd⟩
      by_cases hki:k=i
      ·subst hki; rw [Vals.set_same]; rfl
      ·rw [Vals.set_other e v hki]; exact hke
     ·by_cases hdr:∃ k,k<opsG.size∧((e.set i v) k).isSome=true∧(drops k).contains j=true
      ·exact .inl hdr
      ·refine .inr (hk j u hj hji ?_ (fun k hks hkd=>?_) h)
       rotate_left
       ·have hki:k≠i:=fun he=>hdr ⟨k,hks,by subst he; rw [Vals.set_same]; rfl,hkd⟩
        refine⟨hki,?_⟩
        cases hc:e k with
        | none=>rfl
        | some x=>exact absurd ⟨k,hks,by rw [Vals.set_other e v hki,hc]; rfl,hkd⟩ hdr
       cases hcw:(waits opsG j).contains i with
       | false=>rfl
       | true =>
         have:=hcl j (by rw [hj]; rfl) i hcw
         rw [hei] at this; cases this
 ·intro e w1 ⟨hcl,hq,hI⟩ hall
  have h1:=hall n (by omega)
  cases hc:e n with
  | none=>rw [hc] at h1; cases h1
  | some v=>exact hq v hc
end
end Go.Proofs.YtlpgbmaoenncjaaGreatDoor
namespace Go.Proofs.YtlpgbmaoenncjaaGreatDoor
open Go.RowKit
set_option linter.unusedVariables false
theorem size0 {t:ByteArray}(h:t.size=0):t=⟨#[]⟩:=by
 obtain⟨⟨l⟩⟩:=t
 have:l=[]:=List.eq_nil_of_length_eq_zero (by simpa [ByteArray.size] using h)
 subst this; rfl
theorem isEmpty_no {t:ByteArray}(h:t.size≠0):t.toList.isEmpty=false:=by
 rw [ByteArray.toList_eq]
 obtain⟨⟨l⟩⟩:=t
 cases l with
 | nil=>exact absurd rfl h
 | cons x r=>rfl
theorem eqNil_no {t:ByteArray}(h:t.size≠0):(t.toList==[])=false:=by
 rw [ByteArray.toList_eq]
 obtain⟨⟨l⟩⟩:=t
 cases l with
 | nil=>exact absurd rfl h
 | cons x r=>rfl
theorem cellsOf_at (l:List ByteArray) (N i:Nat) (h:i<l.length):(Lib.cellsOf l N)[i]? = some (.string l[i]):=by
 unfold Lib.cellsOf
 rw [List.getElem?_toArray,List.getElem?_append_left (by simpa using h)]
 simp [List.getElem?_eq_getElem h]
theorem cell_in_new (w:World) (C:Array Value) (e:TypeId) (i:Nat):(w.alloc (.cells C e)).cell? ⟨w.heap.size,i,none⟩=C[i]?:=by
 have:=World.cell?_alloc_mark w C e (0,0) i
 exact this
theorem SlAt.ofCells (w:World) (l:List ByteArray) (N:Nat) (e:TypeId):SlAt (w.alloc (.cells (Lib.cellsOf l N) e)) (some ⟨w.heap.size,0,none⟩) l.length (strs l):=by
 refine⟨by rw [strs_length],.inr ⟨w.heap.size,0,rfl,fun i hi=>?_⟩⟩
 rw [strs_length] at hi
 rw [Nat.zero_add,cell_in_new,cellsOf_at l N i hi]
 simp [strs]
end Go.Proofs.YtlpgbmaoenncjaaGreatDoor
namespace Go.Proofs.YtlpgbmaoenncjaaGreatDoor
theorem infoInt:(Tryz.prog.info? 3).map (fun i=>(i.zero,i.size,i.bytes))=some (some (.int .i64 0),1,8):=by kernel_rfl
theorem infoStr:(Tryz.prog.info? 9).map (fun i=>(i.zero,i.size,i.bytes))=some (some (.string ⟨#[]⟩),1,16):=by kernel_rfl
theorem infoByte:(Tryz.prog.info? 5).map (fun i=>(i.zero,i.size,i.bytes))=some (some (.int .u8 0),1,1):=by kernel_rfl
end Go.Proofs.YtlpgbmaoenncjaaGreatDoor
namespace Go.Proofs.YtlpgbmaoenncjaaGreatDoor
open Go.RowKit Go.ChangeShapes Go.WideShapes Go.Deep Go.Joins
set_option linter.unusedVariables false
structure Bel (w:World) where
 val:World
 bel:Below w.heap.size w val
instance (w:World):Inhabited (Bel w):=⟨⟨w,Below.refl _ w⟩⟩
theorem Bel.cell {w:World}{a:Addr}{v:Value}(h:w.cell? a=some v) (p:Bel w):p.val.cell? a=some v:=cell_keep p.bel h
theorem Bel.size {w:World}(p:Bel w):w.heap.size≤p.val.heap.size:=p.bel.size
theorem wp_region_bel {P:Program}{id:Nat}{Q:Exit→Act→World→Prop}{a:Act}{w:World}{l:List Oper}(hm:P.follows .mixedOrders=true) (hB:Region.lexB .any l.toArray=true)
 (h:wpQuiet P l.toArray (fun w'=>∃ p:Bel w,w'=p.val) (fun a'=>∀ w',(∃ p:Bel w,w'=p.val)→Q .normal a' w') l a):(Code.region id l.toArray true).wp P Q a w :=
 wp_region_quiet (C:=fun w'=>∃ p:Bel w,w'=p.val) hm hB ⟨⟨w.drew,(Below.refl _ w).drew⟩,rfl⟩ (by simpa using h)
theorem bel_of {P:Program}{f:FuncId}{args:Array Value}{w:World}{p:Bel w}{v:Value}(h:Calls P f args p.val fun e w'=>e = .returned v∧Below p.val.heap.size p.val w') :
 Calls P f args p.val fun e w''=>e = .returned v∧∃ q:Bel w,w''=q.val :=
 h.mono fun _ w'' ⟨he,hb⟩=>⟨he,⟨w'',below_then p.bel hb p.bel.size⟩,rfl⟩
end Go.Proofs.YtlpgbmaoenncjaaGreatDoor
namespace Go.Proofs.YtlpgbmaoenncjaaGreatDoor
open Go.RowKit
set_option linter.unusedVariables false
def Src (w:World) (v:Value) (xs:List Value):Prop :=
 (v = .slice none 0 0∧xs=[])∨∃ ad n c,v = .slice (some ad) n c∧n=xs.length∧n≤c∧∀ j u,xs[j]? = some u→w.cell? (ad.add j)=some u
theorem Src.keep {w w':World}{v:Value}{xs:List Value}(h:Src w v xs) (hb:Below w.heap.size w w'):Src w' v xs:=by
 rcases h with h | ⟨ad,n,c,e,hn,hc,hx⟩
 ·exact .inl h
 ·exact .inr ⟨ad,n,c,e,hn,hc,fun j u hj=>cell_keep hb (hx j u hj)⟩
theorem Src.kept {w w':World}{v:Value}{xs:List Value}(h:Src w v xs) {row:Option Nat}(hg:w.grownBy w' row) (hr:∀ k,row=some k→∀ ad n c,v = .slice (some ad) n c→ad.block≠k):Src w' v xs:=by
 rcases h with h | ⟨ad,n,c,e,hn,hc,hx⟩
 ·exact .inl h
 ·refine .inr ⟨ad,n,c,e,hn,hc,fun j u hj=>hg.cell (hx j u hj) (fun he=>?_)⟩
  refine hr _ he.symm ad n c e ?_
  unfold Addr.add; split <;> rfl
theorem Src.shape {w:World}{v:Value}{xs:List Value}(h:Src w v xs):∃ a c,v = .slice a xs.length c:=by
 rcases h with ⟨rfl,rfl⟩ | ⟨ad,n,c,e,rfl,hc,hx⟩
 ·exact⟨_,_,rfl⟩
 ·exact⟨_,_,e⟩
end Go.Proofs.YtlpgbmaoenncjaaGreatDoor
namespace Go.Proofs.YtlpgbmaoenncjaaGreatDoor
open Go.RowKit Go.ChangeShapes Go.WideShapes Go.Deep Go.Joins
set_option linter.unusedVariables false
section
variable {H:Type}{enc:TypeId × Value→H}{P:Program}{w:World}{base:Nat}{spare:Nat→Bool}{held:Bool}
def Small (P:Program) (t:TypeId) (x:DataW H):Prop:=∀ n∈x.weights P t,n≤reachBytes
theorem weights_each:∀ {ts:List TypeId}{ds:List (DataW H)},(∀ n∈DataW.weightsEach P ts ds,n≤reachBytes)→∀ (j:Nat) (t:TypeId) (d:DataW H),ts[j]? = some t→ds[j]? = some d→Small P t d :=
 fun h _ _ _ ht hd n hn=>h n (DataW.weights_mem_each ht hd n hn)
theorem small_each {ts:List TypeId}{ds:List (DataW H)}(hs:(DataW.weightsEach P ts ds).all (· ≤ reachBytes)=true) (j:Nat) {t:TypeId}{d:DataW H}(ht:ts[j]? = some t) (hd:ds[j]? = some d):Small P t d :=
 weights_each (fun n hn=>by simpa using List.all_eq_true.1 hs n hn) j t d ht hd
theorem weightsAll_mem {e:TypeId}:∀ {l:List (DataW H)}{d:DataW H},d∈l→∀ n∈d.weights P e,n∈DataW.weightsAll P e l
 | x :: r,d,hd,n,hn=>by
   rw [DataW.weightsAll,List.mem_append]
   rcases List.mem_cons.1 hd with rfl | hd
   ·exact .inl hn
   ·exact .inr (weightsAll_mem hd n hn)
theorem small_elem {t e:TypeId}{el sp:List (DataW H)}(ht:P.underlying t=some (.slice e)) (h:Small P t (.slice el sp)):((el.length+sp.length)*P.bytesOf e≤reachBytes)∧∀ d∈el,Small P e d:=by
 unfold Small at h
 rw [DataW.weights,ht] at h
 dsimp only at h
 refine⟨h _ (List.mem_cons_self ..),fun d hd n hn=>h n (List.mem_cons_of_mem _ (List.mem_append_left _ (weightsAll_mem hd n hn)))⟩
theorem small_agg {t:TypeId}{fs:Array Field}{parts:List (DataW H)}(ht:P.underlying t=some (.struct fs)) (h:Small P t (.agg parts)) (i:Nat) {ti:TypeId}{d:DataW H}(hti:(fs.toList.map (·.type))[i]? = some ti) (hd:parts[i]? = some d):Small P ti d:=by
 unfold Small at h
 rw [DataW.weights,ht] at h
 exact weights_each h i ti d hti hd
theorem small_str {t:TypeId}{s:ByteArray}(h:Small P t (.lit (.string s.data.toList):DataW H)):s.size≤140737488355328:=by
 have h1:=h s.data.toList.length (by simp [DataW.weights])
 have h2:=reachBytes_lt
 have h3:s.size=s.data.toList.length:=by rw [Array.length_toList]; rfl
 omega
theorem open_rows_small {α:Type}(E:Enc α) (wf:α→Prop) {ts te:TypeId}(ht:P.underlying ts=some (.slice te)) (hce:P.cellsOf te=E.k)
 (hread:∀ n cs y,DataW.trod enc P w base spare held n te cs=some y→cs.length=E.k→Small P te y.1→∃ x,cs=E.enc x∧wf x)
 {a:Option Addr}{len cap:Nat}{x:DataW H}{p:List MemPlace}{fuel:Nat}
 (hf:DataW.trod enc P w base spare held fuel ts [.slice a len cap]=some (x,p)) (hsm:Small P ts x):len*P.bytesOf te≤reachBytes∧∃ d:List α,E.Sl w a len d∧len≤cap∧cap≤maxLen∧(a=none→cap=0)∧∀ o∈d,wf o:=by
 rcases open_slice ht hf with ⟨hcs,_⟩ | ⟨ad,l,c,m,n,D,Pl,hcs,_,hl,hm,hmm,hx,hi⟩
 ·simp at hcs
  obtain⟨rfl,rfl,rfl⟩:=hcs
  exact⟨by simp,[],Enc.Sl.nil _ _,Nat.le_refl _,Nat.zero_le _,fun _=>rfl,fun o ho=>by cases ho⟩
 ·simp at hcs
  obtain⟨rfl,rfl,rfl⟩:=hcs
  obtain⟨rfl,-⟩:=Prod.mk.inj hx
  obtain⟨hb,hel⟩:=small_elem ht hsm
  have hlm:len≤m:=by rw [hmm]; split <;> omega
  have each:∀ i,i<len→∃ o:α,(∀ j u,(E.enc o)[j]? = some u→w.cell? ((ad.add (i*E.k)).add j)=some u)∧wf o:=by
   intro i hil
   obtain⟨cs',h1,h2⟩:=hi i (by omega)
   rw [hce] at h1
   obtain⟨_,hln,hat⟩:=World.cells?_some h1
   obtain⟨o,rfl,hwf⟩:=hread _ _ _ h2 hln (hel _ (List.mem_map.2 ⟨i,List.mem_range.2 hil,rfl⟩))
   refine⟨o,fun j u hu=>?_,hwf⟩
   have hj:j<E.k:=by have:=(List.getElem?_eq_some_iff.1 hu).1; rwa [E.len] at this
   have:=hat j hj
   rw [hu] at this
   by_cases hj0:j=0
   ·subst hj0; simpa [Addr.add] using this
   ·exact this
  clear hi
  refine⟨Nat.le_trans (Nat.mul_le_mul_right _ (by simp)) hb,?_⟩
  by_cases h0:len=0
  ·subst h0
   exact⟨[],Enc.Sl.nil _ _,hl,hm,(fun e=>by cases e),fun o ho=>by cases ho⟩
  ·obtain⟨b,off,rfl⟩:∃ b off,ad=⟨b,off,none⟩:=by
    obtain⟨o,h1,_⟩:=each 0 (by omega)
    have hlt:0<(E.enc o).length:=by rw [E.len]; exact E.pos
    have hsp:=spot_none (h1 0 _ (List.getElem?_eq_getElem hlt))
    rw [Nat.zero_mul] at hsp
    exact⟨ad.block,ad.off,by simpa [Addr.add] using hsp⟩
   obtain⟨pick,hpick⟩:∃ pick:(i:Nat)→i<len→α,∀ i (hi:i<len),(∀ j u,(E.enc (pick i hi))[j]? = some u→w.cell? (((⟨b,off,none⟩:Addr).add (i*E.k)).add j)=some u)∧wf (pick i hi) :=
    ⟨fun i hi=>Classical.choose (each i hi),fun i hi=>Classical.choose_spec (each i hi)⟩
   refine⟨List.ofFn fun i:Fin len=>pick i.1 i.2,⟨by simp,.inr ⟨b,off,rfl,fun i hi j u hu=>?_⟩⟩,hl,hm,(fun e=>by cases e),fun o ho=>?_⟩
   ·have hil:i<len:=by simpa using hi
    simp only [List.getElem_ofFn] at hu
    have h3:=(hpick i hil).1 j u hu
    simp only [Enc.add_is] at h3
    exact h3
   ·obtain⟨i,hi,rfl⟩:=List.getElem_of_mem ho
    simp only [List.getElem_ofFn]
    exact (hpick i (by simpa using hi)).2
end
section
variable {H:Type}{enc:TypeId × Value→H}{P:Program}{w:World}{base:Nat}{spare:Nat→Bool}{held:Bool}
theorem trod_fieldS {t:TypeId}{l:List (TypeId × Nat)}{fuel:Nat}{cs:List Value}{x:DataW H × List MemPlace}(hs:structOf P t=some l) (h:DataW.trod enc P w base spare held fuel t cs=some x) (hsm:Small P t x.1) :
 cs.length=P.cellsOf t∧∀ (i:Nat) (ti:TypeId) (oi:Nat),l[i]? = some (ti,oi)→∃ n y,DataW.trod enc P w base spare held n ti ((cs.drop oi).take (P.cellsOf ti))=some y∧Small P ti y.1:=by
 unfold structOf at hs
 split at hs
 ·rename_i fs hu
  obtain⟨xs,n,_,hx,hl,hlen,hf⟩:=DataW.trod_struct hu h
  cases hs
  refine⟨hl,fun i ti oi hi=>?_⟩
  rw [List.getElem?_map] at hi
  cases hfi:fs.toList[i]? with
  | none=>rw [hfi] at hi; cases hi
  | some f =>
    rw [hfi] at hi
    simp at hi
    obtain⟨rfl,rfl⟩:=hi
    have hfa:fs[i]? = some f:=by simpa using hfi
    have h1:=hf i f hfa
    have hlt:i<xs.length:=by rw [hlen]; exact (Array.getElem?_eq_some_iff.1 hfa).1
    rw [List.getElem?_eq_getElem hlt] at h1
    refine⟨n,_,h1,?_⟩
    rw [hx] at hsm
    exact small_agg hu hsm i (by rw [List.getElem?_map,hfi]; rfl) (by rw [List.getElem?_map,List.getElem?_eq_getElem hlt]; rfl)
 ·cases hs
end
theorem cellsStr:Tryz.prog.cellsOf 9 = 1:=by kernel_rfl
theorem cellsInt:Tryz.prog.cellsOf 3 = 1:=by kernel_rfl
theorem cellsInts:Tryz.prog.cellsOf 23 = 1:=by kernel_rfl
def intE:Enc Int where
 k:=1
 enc n:=[.int .i64 n]
 len _:=rfl
 one n u hu:=by simp at hu; subst hu; rfl
 pos:=by decide
theorem intE_sl {w:World}{a:Option Addr}{n:Nat}{z:List Int}(h:intE.Sl w a n z):SlAt w a n (i64s z):=by
 refine⟨by rw [i64s_length]; exact h.1,?_⟩
 rcases h.2 with rfl | ⟨b,off,ha,hc⟩
 ·exact .inl rfl
 ·refine .inr ⟨b,off,ha,fun i hi=>?_⟩
  have hi':i<z.length:=by rwa [i64s_length] at hi
  have h1:=hc i hi' 0 (.int .i64 z[i]) rfl
  have e:off+i*intE.k+0=off+i:=by show off+i*1+0=off+i; omega
  rw [e] at h1
  rw [h1]
  simp [i64s]
theorem read_int {H:Type}{enc:TypeId × Value→H}{w:World}{base:Nat}{spare:Nat→Bool}{held:Bool}(n:Nat) (cs:List Value) (y:DataW H × List MemPlace)
 (h:DataW.trod enc Tryz.prog w base spare held n 3 cs=some y) (hl:cs.length=intE.k) (hs:Small Tryz.prog 3 y.1):∃ x,cs=intE.enc x∧(-9223372036854775808≤x∧x≤9223372036854775807):=by
 obtain⟨m,e,_,w0⟩:=DataW.trod_int Tryz.underlying3 h
 subst e
 exact⟨m,rfl,bounds_i64 w0⟩
theorem open_intsF {H:Type}{enc:TypeId × Value→H}{w:World}{base:Nat}{spare:Nat→Bool}{held:Bool}{fuel:Nat}{v:Value}{y:DataW H × List MemPlace}
 (h:DataW.trod enc Tryz.prog w base spare held fuel 23 [v]=some y) (hs:Small Tryz.prog 23 y.1):∃ a n c z,v = .slice a n c∧SlAt w a n (i64s z)∧n≤c∧c≤maxLen∧n≤100000000000000∧∀ x∈z,-9223372036854775808≤x∧x≤9223372036854775807:=by
 obtain⟨a,n,c,e⟩:=slice_form Tryz.underlying23 h
 simp only [List.cons.injEq,and_true] at e
 subst e
 obtain⟨hb,l,h1,h2,h3,h4,h5⟩:=open_rows_small intE (fun x=>-9223372036854775808≤x∧x≤9223372036854775807) Tryz.underlying23 (by kernel_rfl) read_int h hs
 rw [show Tryz.prog.bytesOf 3 = 8 from by kernel_rfl] at hb
 have:=reachBytes_lt
 exact⟨a,n,c,l,rfl,intE_sl h1,h2,h3,by omega,h5⟩
end Go.Proofs.YtlpgbmaoenncjaaGreatDoor
namespace Go.Proofs.YtlpgbmaoenncjaaGreatDoor
open Go.RowKit
set_option linter.unusedVariables false
end Go.Proofs.YtlpgbmaoenncjaaGreatDoor
namespace Go.Proofs.YtlpgbmaoenncjaaGreatDoor
open Go.RowKit
set_option linter.unusedVariables false
theorem Src.le {w:World}{a:Option Addr}{n c:Nat}{xs:List Value}(h:Src w (.slice a n c) xs):n=xs.length∧n≤c:=by
 rcases h with ⟨e,rfl⟩ | ⟨ad,n',c',e,hn,hc,hx⟩
 ·cases e; exact⟨rfl,Nat.le_refl _⟩
 ·cases e; exact⟨hn,hc⟩
theorem Src.take {w:World}{a:Option Addr}{n c m:Nat}{xs:List Value}(h:Src w (.slice a n c) xs) (hm:m≤n):Src w (.slice a m c) (xs.take m):=by
 rcases h with ⟨e,rfl⟩ | ⟨ad',n',c',e,hn,hc,hx⟩
 ·cases e
  obtain rfl:m=0:=by omega
  exact .inl ⟨rfl,by simp⟩
 ·cases e
  refine .inr ⟨ad',m,c,rfl,by rw [List.length_take]; omega,by omega,fun j u hj=>hx j u ?_⟩
  rw [List.getElem?_take] at hj
  split at hj
  ·exact hj
  ·cases hj
end Go.Proofs.YtlpgbmaoenncjaaGreatDoor
