/-
  The walks of net.whole and of the function value that net.Get reads numbers with; the numbers such as an int64 holds.
  The regions of net.Get that append (their order is drawn; they call the function value that reads a number); without a condition. (Written by wip/mkng.py.)
  What the walks of Get share: results, elements of a list value, lengths.
-/
import Derived.Test.YtlpgbmaoenncjaaGreatDoorPvs
import Derived.Test.YtlpgbmaoenncjaaGreatDoorGen
import Derived.BigRegion
import Derived.Test.YtlpgbmaoenncjaaGreatDoorNmAll
import Derived.Test.YtlpgbmaoenncjaaGreatDoorCvAll
import Derived.Laws.ResultCell
namespace Go.Proofs.YtlpgbmaoenncjaaGreatDoor
open Go.RowKit
set_option linter.unusedVariables false
end Go.Proofs.YtlpgbmaoenncjaaGreatDoor

namespace Go.Proofs.YtlpgbmaoenncjaaGreatDoor
open Go.RowKit
set_option linter.unusedVariables false
theorem infoI:∃ i,Tryz.prog.info? 3 = some i∧i.zero=some (.int .i64 0)∧i.size=1∧i.bytes=8:=by
 have h:=infoInt
 cases hi:Tryz.prog.info? 3 with
 | none=>rw [hi] at h; cases h
 | some i =>
   rw [hi] at h
   simp only [Option.map_some,Option.some.injEq,Prod.mk.injEq] at h
   exact⟨i,rfl,h.1,h.2.1,h.2.2⟩
theorem infoRc:(Tryz.prog.info? 67).map (fun i=>(i.zero,i.size,i.bytes))=some (some (.agg #[.int .i64 0,.int .i64 0,.string ⟨#[]⟩]),3,32):=by kernel_rfl
theorem infoR:∃ i,Tryz.prog.info? 67 = some i∧i.zero=some (.agg #[.int .i64 0,.int .i64 0,.string ⟨#[]⟩])∧i.size=3∧i.bytes=32:=by
 have h:=infoRc
 cases hi:Tryz.prog.info? 67 with
 | none=>rw [hi] at h; cases h
 | some i =>
   rw [hi] at h
   simp only [Option.map_some,Option.some.injEq,Prod.mk.injEq] at h
   exact⟨i,rfl,h.1,h.2.1,h.2.2⟩
theorem own_sliceN {w:World}{base n size:Nat}{e:TypeId}{v:Value}{xs:List Value}(h:w.ownsRow base e size v n xs):∃ a c,v = .slice a n c:=by
 rcases h.2 with ⟨hv,h0⟩ | ⟨g,cap,cur,hv,_⟩
 ·exact⟨none,0,by rw [hv,h0]⟩
 ·exact⟨_,_,hv⟩
theorem own_kept {w w':World}{base r n size:Nat}{e:TypeId}{v:Value}{xs:List Value}(h:w.ownsRow base e size v n xs) (hg:w.grownBy w' (some r)) (hr:r<base):w'.ownsRow base e size v n xs:=by
 refine h.kept hg ?_
 by_cases hv:v.ownBlock=some r
 ·have:=(h.lt r hv).1; omega
 ·exact .inr hv
theorem own_under {w w':World}{base n size:Nat}{e:TypeId}{v:Value}{xs:List Value}(h:w.ownsRow base e size v n xs) (hb:Below w.heap.size w w'):w'.ownsRow base e size v n xs:=h.kept (grown_of_below hb none) (by cases hv:v.ownBlock <;> simp)
theorem rowApp {w:World}{base size bytes:Nat}{e:TypeId}{z:Value}(i:TypeInfo) (hi:Tryz.prog.info? e=some i) (hz:i.zero=some z) (hsize:i.size=size) (hby:i.bytes=bytes) (hzs:z.cells.size=size) (hsz:0<size)
 {v:Value}{n:Nat}{xs:List Value}(hown:w.ownsRow base e size v n xs) (g:Nat) (news:List Value) (T t ty:TypeId) (ht:Tryz.prog.underlying t=some (.slice e)) (hg:w.heap[g]? = some (.cells news.toArray T (0,0))) (hl:news.length=size)
 (h1:∀ u∈news,u.oneCell'=true) (hn:n≤1000000) (hb:bytes≤1000) (hbase:base≤w.heap.size) :
 ∃ a3 c3 w',(Builtin.append_ #[t,t] ty #[v,.slice (some ⟨g,0,none⟩) 1 1]).run Tryz.prog w = .ok (.slice a3 (n+1) c3) w'∧w'.ownsRow base e size (.slice a3 (n+1) c3) (n+1) (xs++news)∧w.grownBy w' v.ownBlock:=by
 have hnews:∀ j y,news[j]? = some y→w.cell? ((⟨g,0,none⟩:Addr).add j)=some y:=by
  intro j y hj
  have:=(Lib.cell_of_heap hg j)
  rw [show (⟨g,0,none⟩:Addr).add j=⟨g,j,none⟩ by unfold Addr.add; split <;> simp_all]
  rw [this]
  simpa using hj
 have hm:(n+1)*bytes≤140737488355328:=Nat.le_trans (Nat.mul_le_mul (show n+1≤1000001 by omega) hb) (by decide)
 obtain⟨v',w',hr,h2,h3,h4⟩:=run_append_own (P:=Tryz.prog) w base t ty e i z size bytes ht hi hz hsize hby hzs hsz v n xs hown ⟨g,0,none⟩ 1 1 news (by rw [hl,Nat.one_mul]) hnews h1 (by unfold maxLen; omega) hm hbase
 obtain⟨a,c,rfl⟩:=own_sliceN h2
 exact⟨a,c,w',hr,h2,h3⟩
end Go.Proofs.YtlpgbmaoenncjaaGreatDoor

namespace Go.Proofs.YtlpgbmaoenncjaaGreatDoor
open Go.RowKit
set_option linter.unusedVariables false
theorem results_row_tmp {P:Program}{fn:Func}{p u:Tmp}{ty:TypeId}(h:fn.results=#[.cell p ty,.tmp u]) (tmps:Array Value) (w:World) (g:Nat) (t:TypeId) (cs:Array Value) (fr:Nat × Nat) (d:TypeDesc)
 (hp:tmps.getD p undef = .pointer (some ⟨g,0,none⟩)) (hg:w.heap[g]? = some (.cells cs t fr))
 (hu:P.underlying ty=some d) (hd:(match d with | .struct _ | .array _ _=>true | _=>false)=true) (hi:(P.info? ty).map (·.size)=some cs.size) :
 (results fn tmps).run P w = .ok (.tuple #[.agg cs,tmps.getD u undef]) w:=by
 rw [results_cell_tmp h]
 simp only [hp,asAddr,Sem.run_pure,Result.andThen_ok,run_loadVar_row w g t ty cs fr d hg hu hd hi]
theorem elemsV {w:World}{S:Nat→Prop}{va:Option Addr}{vl:List V}(hall:VAll w S va 0 vl) (h:0<vl.length):∃ b o,va=some ⟨b,o,none⟩∧S b∧∀ k,k<vl.length→∃ a c,VAll w S a 0 (vl.getD k zeroV).l ∧
 w.cell? ⟨b,o+k*4,none⟩=some (.int .i64 (vl.getD k zeroV).k)∧w.cell? ⟨b,o+k*4+1,none⟩=some (.int .i64 (vl.getD k zeroV).n)∧w.cell? ⟨b,o+k*4+2,none⟩=some (.string (vl.getD k zeroV).s)∧w.cell? ⟨b,o+k*4+3,none⟩=some (.slice a (vl.getD k zeroV).l.length c):=by
 obtain⟨b,o,cs,ha,hS,-,-⟩:=hall.at 0 vl 0 h
 refine⟨b,o,ha,hS,fun k hk=>?_⟩
 obtain⟨b',o',cs',ha',-,hat,hc⟩:=hall.at 0 vl k hk
 rw [ha] at ha'
 obtain⟨rfl,rfl⟩:b=b'∧o=o':=by have:=Option.some.inj ha'; exact⟨congrArg Addr.block this,congrArg Addr.off this⟩
 have hg:vl.getD k zeroV=vl[k]:=by rw [List.getD_eq_getElem?_getD,List.getElem?_eq_getElem hk]; rfl
 rw [hg]
 generalize vl[k]=x at *
 obtain⟨xk,xn,xs,xl⟩:=x
 simp only [V.At] at hat
 obtain⟨a,c,rfl,-,-,h5⟩:=hat
 rw [Nat.zero_add] at hc
 exact⟨a,c,h5,hc 0 _ rfl,hc 1 _ rfl,hc 2 _ rfl,hc 3 _ rfl⟩
theorem fld_few {vk vn:Int}{vt:ByteArray}{vl:List V}(h:(V.mk vk vn vt vl).cnt≤4000) (j:Nat) (hj:j<vl.length) {E:V}(hE:E=vl.getD j zeroV):E.l.length≤4000:=by
 have hm:E∈vl:=by rw [hE,List.getD_eq_getElem?_getD,List.getElem?_eq_getElem hj]; exact List.getElem_mem hj
 have h1:=cntAll_mem hm
 rw [V.cnt] at h
 obtain⟨ek,en,es,el⟩:=E
 rw [V.cnt] at h1
 have h2:=cntAll_ge el
 show el.length≤4000
 omega
theorem txt_len (x:V) (h:x.k=2):x.s.size≤(putL x).length:=by
 obtain⟨k,n,s,l⟩:=x
 simp only [V.k] at h
 subst h
 rw [putL_two]
 show s.size≤_
 have:s.data.toList.length=s.size:=by simp
 simp only [List.length_append,List.length_cons]
 omega
theorem mem_len {l:List V}{x:V}(h:x∈l):(putL x).length≤(putAll l).length:=by
 induction l with
 | nil=>cases h
 | cons y r ih =>
   rw [putAll,List.length_append]
   rcases List.mem_cons.1 h with rfl | h
   ·omega
   ·have:=ih h; omega
theorem all_len (x:V) (h:x.k=3):(putAll x.l).length≤(putL x).length:=by
 obtain⟨k,n,s,l⟩:=x
 simp only [V.k] at h
 subst h
 rw [putL_three]
 show (putAll l).length≤_
 simp only [List.length_append,List.length_cons]
 omega
end Go.Proofs.YtlpgbmaoenncjaaGreatDoor
