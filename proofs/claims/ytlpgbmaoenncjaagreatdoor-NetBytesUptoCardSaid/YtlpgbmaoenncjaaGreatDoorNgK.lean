/-
  What the walks of Get share: results, elements of a list value, lengths.
-/
import Derived.Test.YtlpgbmaoenncjaaGreatDoorNgB
import Derived.Test.YtlpgbmaoenncjaaGreatDoorCvGet
import Derived.Laws.ResultCell
namespace Go.Proofs.YtlpgbmaoenncjaaGreatDoor
open Go.RowKit
set_option linter.unusedVariables false
theorem results_row_tmp {P:Program}{fn:Func}{p u:Tmp}{ty:TypeId}(h:fn.results=#[.cell p ty,.tmp u]) (tmps:Array Value) (w:World) (g:Nat) (t:TypeId) (cs:Array Value) (fr:Nat × Nat) (d:TypeDesc)
 (hp:tmps.getD p undef = .pointer (some ⟨g,0,none⟩)) (hg:w.heap[g]? = some (.cells cs t fr))
 (hu:P.underlying ty=some d) (hd:(match d with | .struct _ | .array _ _=>true | _=>false)=true) (hi:(P.info? ty).map (·.size)=some cs.size) :
 (results fn tmps).run P w = .ok (.tuple #[.agg cs,tmps.getD u undef]) w:=by
 rw [results_cell_tmp h]
 simp only [hp,asAddr,Sem.run_pure,Result.andThen_ok,run_loadVar_row w g t ty cs fr d hg hu hd hi]
theorem elemsV {w:World}{S:Nat→Prop}{va:Option Addr}{vl:List V}(hall:VAll w S va 0 vl) (h:0<vl.length):∃ b o,va=some ⟨b,o,none⟩∧S b∧∀ k,k<vl.length→∃ a c,VAll w S a 0 (vl.getD k zeroV).l ∧
 w.cell? ⟨b,o+k*4,none⟩=some (.int .i64 (vl.getD k zeroV).k)∧w.cell? ⟨b,o+k*4+1,none⟩=some (.int .i64 (vl.getD k zeroV).n)∧w.cell? ⟨b,o+k*4+2,none⟩=some (.string (vl.getD k zeroV).s)∧w.cell? ⟨b,o+k*4+3,none⟩=some (.slice a (vl.getD k zeroV).l.length c):=by
 obtain⟨b,o,cs,ha,hS,-,-⟩:=hall.at 0 vl 0 h
 refine⟨b,o,ha,hS,fun k hk=>?_⟩
 obtain⟨b',o',cs',ha',-,hat,hc⟩:=hall.at 0 vl k hk
 rw [ha] at ha'
 obtain⟨rfl,rfl⟩:b=b'∧o=o':=by have:=Option.some.inj ha'; exact⟨congrArg Addr.block this,congrArg Addr.off this⟩
 have hg:vl.getD k zeroV=vl[k]:=by rw [List.getD_eq_getElem?_getD,List.getElem?_eq_getElem hk]; rfl
 rw [hg]
 generalize vl[k]=x at *
 obtain⟨xk,xn,xs,xl⟩:=x
 simp only [V.At] at hat
 obtain⟨a,c,rfl,-,-,h5⟩:=hat
 rw [Nat.zero_add] at hc
 exact⟨a,c,h5,hc 0 _ rfl,hc 1 _ rfl,hc 2 _ rfl,hc 3 _ rfl⟩
theorem fld_few {vk vn:Int}{vt:ByteArray}{vl:List V}(h:(V.mk vk vn vt vl).cnt≤4000) (j:Nat) (hj:j<vl.length) {E:V}(hE:E=vl.getD j zeroV):E.l.length≤4000:=by
 have hm:E∈vl:=by rw [hE,List.getD_eq_getElem?_getD,List.getElem?_eq_getElem hj]; exact List.getElem_mem hj
 have h1:=cntAll_mem hm
 rw [V.cnt] at h
 obtain⟨ek,en,es,el⟩:=E
 rw [V.cnt] at h1
 have h2:=cntAll_ge el
 show el.length≤4000
 omega
theorem txt_len (x:V) (h:x.k=2):x.s.size≤(putL x).length:=by
 obtain⟨k,n,s,l⟩:=x
 simp only [V.k] at h
 subst h
 rw [putL_two]
 show s.size≤_
 have:s.data.toList.length=s.size:=by simp
 simp only [List.length_append,List.length_cons]
 omega
theorem mem_len {l:List V}{x:V}(h:x∈l):(putL x).length≤(putAll l).length:=by
 induction l with
 | nil=>cases h
 | cons y r ih =>
   rw [putAll,List.length_append]
   rcases List.mem_cons.1 h with rfl | h
   ·omega
   ·have:=ih h; omega
theorem all_len (x:V) (h:x.k=3):(putAll x.l).length≤(putL x).length:=by
 obtain⟨k,n,s,l⟩:=x
 simp only [V.k] at h
 subst h
 rw [putL_three]
 show (putAll l).length≤_
 simp only [List.length_append,List.length_cons]
 omega
end Go.Proofs.YtlpgbmaoenncjaaGreatDoor
