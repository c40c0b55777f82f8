/-
  The walk of elect.May at messages of the kind 3: new blocks alone are made; the slices within reach. (Written by wip/mkemay.py.)
-/
import Derived.Test.YtlpgbmaoenncjaaGreatDoorNmEa
import Derived.Deep.CutBlock
import Derived.BigRegion
import Derived.Test.YtlpgbmaoenncjaaGreatDoorGen
namespace Go.Proofs.YtlpgbmaoenncjaaGreatDoor
open Go.RowKit
set_option linter.unusedVariables false
set_option linter.unusedSimpArgs false
theorem emptyP3 (s:ByteArray) (Z:Int) (h:Z=(s.size:Int)):(s.toList=[])=(Z=0):=by
 have h1:=emptyD s
 apply propext
 constructor
 ·intro he
  rw [he] at h1
  have:=of_decide_eq_true h1.symm
  omega
 ·intro he
  rw [decide_eq_true (by omega)] at h1
  exact List.isEmpty_iff.1 h1
theorem ew3_any (n lo hi:Int) (w:World):Calls Tryz.prog 73 #[.int .i64 n,.int .i64 lo,.int .i64 hi] w fun e w'=>e = .returned (.bool (decide (lo≤n)&&decide (n≤hi)))∧w=w':=eWithin_any n lo hi w _ (Lib.hid rfl)
theorem upto_step {bt ix:Int}{l:List Rc}(h:rightG ix bt l=true) {i:Nat}(hi:i+1<l.length):l[i].term≤l[i+1].term:=by
 unfold rightG rightR at h
 rw [Bool.and_eq_true] at h
 have h2:=List.all_eq_true.1 h.2 (i+1) (List.mem_range.2 hi)
 rw [goodR_is bt l (i+1) hi] at h2
 have h3:=(of_decide_eq_true h2).1
 rw [termAt_next bt l i (by omega)] at h3
 omega
theorem upto_all {bt ix:Int}{l:List Rc}(h:rightG ix bt l=true) (j:Nat) (hj:j<l.length):∀ (d i:Nat) (hi:i<l.length),i+d=j→l[i].term≤l[j].term:=by
 intro d
 induction d with
 | zero=>intro i hi e; have:i=j:=by omega
         subst this; exact Int.le_refl _
 | succ d ih =>
   intro i hi e
   have h1:=upto_step h (i:=i) (by omega)
   have h2:=ih (i+1) (by omega) (by omega)
   omega
theorem lastUpto {bt ix:Int}{l:List Rc}{j:Nat}(tm:Int) (hn:l.length=j+1) (h:rightG ix bt l=true) (hj:j<l.length):termsUpto tm l=decide (l[j].term≤tm):=by
 unfold termsUpto
 by_cases hle:l[j].term≤tm
 ·rw [decide_eq_true hle,List.all_eq_true]
  intro r hr
  obtain⟨i,hi,rfl⟩:=List.getElem_of_mem hr
  have:=upto_all h j hj (j - i) i hi (by omega)
  exact decide_eq_true (by omega)
 ·rw [decide_eq_false hle,List.all_eq_false]
  exact⟨_,List.getElem_mem hj,by rw [decide_eq_true_eq]; exact hle⟩
set_option maxRecDepth 100000 in
set_option maxHeartbeats 1000000 in
theorem eMay3t (fr ds tm ix lt cm:Int) (rs:List Rc) (sn:ByteArray) (vs:List Int) (ar:Option Addr) (nr cr:Nat) (av:Option Addr) (nv cv:Nat) (w:World) (h:MsAt w ⟨3,fr,ds,tm,true,ix,lt,rs,cm,sn,vs⟩ ar nr cr av nv cv) (v:Bool) (hv:Hid (v=mayM ⟨3,fr,ds,tm,true,ix,lt,rs,cm,sn,vs⟩)) :
 Calls Tryz.prog 32 #[.agg #[.int .i64 3,.int .i64 fr,.int .i64 ds,.int .i64 tm,.bool true,.int .i64 ix,.int .i64 lt,.slice ar nr cr,.int .i64 cm,.string sn,.slice av nv cv]] w fun e w'=>e = .returned (.bool v)∧Below w.heap.size w w':=by
 have HB0:=Lib.hid (((Below.refl w.heap.size w).alloc (Nat.le_refl _) (.cells #[.int .i64 3,.int .i64 fr,.int .i64 ds,.int .i64 tm,.bool true,.int .i64 ix,.int .i64 lt,.slice ar nr cr,.int .i64 cm,.string sn,.slice av nv cv] 25)).alloc (by simp) (.cells #[.int .i64 3,.int .i64 fr,.int .i64 ds,.int .i64 tm,.bool false,.int .i64 0,.int .i64 0,.slice none 0 0,.int .i64 0,.string ⟨#[]⟩,.slice none 0 0] 25))
 have HB1:=Lib.hid ((Below.refl w.heap.size w).alloc (Nat.le_refl _) (.cells #[.int .i64 3,.int .i64 fr,.int .i64 ds,.int .i64 tm,.bool true,.int .i64 ix,.int .i64 lt,.slice ar nr cr,.int .i64 cm,.string sn,.slice av nv cv] 25))
 have HK0:Hid (Blk (w.alloc (.cells #[.int .i64 3,.int .i64 fr,.int .i64 ds,.int .i64 tm,.bool true,.int .i64 ix,.int .i64 lt,.slice ar nr cr,.int .i64 cm,.string sn,.slice av nv cv] 25)) w.heap.size 25 [.int .i64 3,.int .i64 fr,.int .i64 ds,.int .i64 tm,.bool true,.int .i64 ix,.int .i64 lt,.slice ar nr cr,.int .i64 cm,.string sn,.slice av nv cv]):=Lib.hid (heap_alloc_new w _)
 have HK1:Hid (Blk ((w.alloc (.cells #[.int .i64 3,.int .i64 fr,.int .i64 ds,.int .i64 tm,.bool true,.int .i64 ix,.int .i64 lt,.slice ar nr cr,.int .i64 cm,.string sn,.slice av nv cv] 25)).alloc (.cells #[.int .i64 3,.int .i64 fr,.int .i64 ds,.int .i64 tm,.bool false,.int .i64 0,.int .i64 0,.slice none 0 0,.int .i64 0,.string ⟨#[]⟩,.slice none 0 0] 25)) w.heap.size 25 [.int .i64 3,.int .i64 fr,.int .i64 ds,.int .i64 tm,.bool true,.int .i64 ix,.int .i64 lt,.slice ar nr cr,.int .i64 cm,.string sn,.slice av nv cv]):=Lib.hid (HK0.out.alloc _)
 have HK2:Hid (Blk ((w.alloc (.cells #[.int .i64 3,.int .i64 fr,.int .i64 ds,.int .i64 tm,.bool true,.int .i64 ix,.int .i64 lt,.slice ar nr cr,.int .i64 cm,.string sn,.slice av nv cv] 25)).alloc (.cells #[.int .i64 3,.int .i64 fr,.int .i64 ds,.int .i64 tm,.bool false,.int .i64 0,.int .i64 0,.slice none 0 0,.int .i64 0,.string ⟨#[]⟩,.slice none 0 0] 25)) (w.heap.size+1) 25 [.int .i64 3,.int .i64 fr,.int .i64 ds,.int .i64 tm,.bool false,.int .i64 0,.int .i64 0,.slice none 0 0,.int .i64 0,.string ⟨#[]⟩,.slice none 0 0]):=Lib.hid (by
  have hz:=heap_alloc_new (w.alloc (.cells #[.int .i64 3,.int .i64 fr,.int .i64 ds,.int .i64 tm,.bool true,.int .i64 ix,.int .i64 lt,.slice ar nr cr,.int .i64 cm,.string sn,.slice av nv cv] 25)) (.cells #[.int .i64 3,.int .i64 fr,.int .i64 ds,.int .i64 tm,.bool false,.int .i64 0,.int .i64 0,.slice none 0 0,.int .i64 0,.string ⟨#[]⟩,.slice none 0 0] 25)
  rw [World.size_alloc] at hz
  exact hz)
 have HS2:Hid (((w.alloc (.cells #[.int .i64 3,.int .i64 fr,.int .i64 ds,.int .i64 tm,.bool true,.int .i64 ix,.int .i64 lt,.slice ar nr cr,.int .i64 cm,.string sn,.slice av nv cv] 25)).alloc (.cells #[.int .i64 3,.int .i64 fr,.int .i64 ds,.int .i64 tm,.bool false,.int .i64 0,.int .i64 0,.slice none 0 0,.int .i64 0,.string ⟨#[]⟩,.slice none 0 0] 25)).heap.size=w.heap.size+2):=Lib.hid (by simp)
 have HN:=Lib.hid h.rlen
 have HM:=Lib.hid h.vlen
 have H:=Lib.hid h
 obtain⟨Z,hZ⟩:∃ Z:Int,Z=(((sn:ByteArray).size:Nat):Int):=⟨_,rfl⟩
 obtain⟨rv,hrv'⟩:∃ x,x=b2i (rightV vs):=⟨_,rfl⟩
 obtain⟨al,hal'⟩:∃ x,x=b2i (termsUpto tm rs):=⟨_,rfl⟩
 obtain⟨rg,hrg'⟩:∃ x,x=b2i (rightG ix lt rs):=⟨_,rfl⟩
 have HV:Hid (v=decide (mayZ 3 fr ds tm 1 ix lt cm (nr:Int) Z (nv:Int) rv al rg)):=Lib.hid (by rw [hv.out,mayM_Z,hrv',hal',hrg',hZ,h.rlen,h.vlen]; try rfl)
 have HZ:=Lib.hid hZ
 have HRV0:=Lib.hid hrv'
 have HAL0:=Lib.hid hal'
 have HRG0:=Lib.hid hrg'
 clear hrv' hal' hrg' hZ
 have hb1:=h.nr
 have hb2:=h.nv
 clear h hv
 dsimp only at HN HM
 have x0:=HK0.out.cell (j:=0) rfl
 have x1:=HK0.out.cell (j:=1) rfl
 have x2:=HK0.out.cell (j:=2) rfl
 have x3:=HK0.out.cell (j:=3) rfl
 have z0:=HK1.out.cell (j:=0) rfl
 go_enter Tryz.func32,Tryz.ntmps32
 go_upto_block 0 with fail
 clear x0 x1 x2 x3 z0
 go_cut [] (fun w'=>Hid (Blk w' w.heap.size 25 [.int .i64 3,.int .i64 fr,.int .i64 ds,.int .i64 tm,.bool true,.int .i64 ix,.int .i64 lt,.slice ar nr cr,.int .i64 cm,.string sn,.slice av nv cv])∧Hid (Blk w' (w.heap.size+1) 25 [.int .i64 3,.int .i64 fr,.int .i64 ds,.int .i64 tm,.bool false,.int .i64 ix,.int .i64 lt,.slice none 0 0,.int .i64 cm,.string ⟨#[]⟩,.slice none 0 0])∧Hid (Below w.heap.size w w'))
 case first =>
  have x5:=HK1.out.cell (j:=5) rfl
  have y5:=HK2.out.cell (j:=5) rfl
  have x6:=HK1.out.cell (j:=6) rfl
  have y6:=HK2.out.cell (j:=6) rfl
  have x8:=HK1.out.cell (j:=8) rfl
  have y8:=HK2.out.cell (j:=8) rfl
  go_wp2_with fail
  go_region
  go_wp2_with fail
  go_meet
  exact⟨Lib.hid (HK0.out.alloc (.cells #[.int .i64 3,.int .i64 fr,.int .i64 ds,.int .i64 tm,.bool false,.int .i64 ix,.int .i64 lt,.slice none 0 0,.int .i64 cm,.string ⟨#[]⟩,.slice none 0 0] 25)),Lib.hid (by
   have hz:=heap_alloc_new (w.alloc (.cells #[.int .i64 3,.int .i64 fr,.int .i64 ds,.int .i64 tm,.bool true,.int .i64 ix,.int .i64 lt,.slice ar nr cr,.int .i64 cm,.string sn,.slice av nv cv] 25)) (.cells #[.int .i64 3,.int .i64 fr,.int .i64 ds,.int .i64 tm,.bool false,.int .i64 ix,.int .i64 lt,.slice none 0 0,.int .i64 cm,.string ⟨#[]⟩,.slice none 0 0] 25)
   rw [World.size_alloc] at hz
   exact hz),Lib.hid ((HB1.out.alloc (by simp) (.cells #[.int .i64 3,.int .i64 fr,.int .i64 ds,.int .i64 tm,.bool false,.int .i64 ix,.int .i64 lt,.slice none 0 0,.int .i64 cm,.string ⟨#[]⟩,.slice none 0 0] 25)).drew)⟩
 case rest =>
  obtain⟨hk1,hk2,hB⟩:=hcut
  have x0:=hk1.out.cell (j:=0) rfl
  have x1:=hk1.out.cell (j:=1) rfl
  have x2:=hk1.out.cell (j:=2) rfl
  have x3:=hk1.out.cell (j:=3) rfl
  have x4:=hk1.out.cell (j:=4) rfl
  have x5:=hk1.out.cell (j:=5) rfl
  have x6:=hk1.out.cell (j:=6) rfl
  have x7:=hk1.out.cell (j:=7) rfl
  have x8:=hk1.out.cell (j:=8) rfl
  have x9:=hk1.out.cell (j:=9) rfl
  have x10:=hk1.out.cell (j:=10) rfl
  have y4:=hk2.out.cell (j:=4) rfl
  have y5:=hk2.out.cell (j:=5) rfl
  have y6:=hk2.out.cell (j:=6) rfl
  have y8:=hk2.out.cell (j:=8) rfl
  have y9:=hk2.out.cell (j:=9) rfl
  clear HB0 HB1 HK0 HK1 HK2 HS2 hk2
  have HX1:=hk1
  clear hk1
  go_wp2_with (go_at_call 73; refine (ew3_any _ _ _ _).mono ?_; rintro e w' ⟨rfl,rfl⟩)
  all_goals clear x0 x1 x2 x3 x4 x5 x6 x7 x8 x9 x10 y4 y5 y6 y8 y9
  all_goals (
   go_ret
   refine⟨ret_bool ?_,hB.out⟩
   rw [HV.out]
   symm
   have hz:=HZ.out
   have hsn:=emptyP3 sn Z hz
   first
    | (refine decide_eq_true ?_; (try simp only [beq_iff_eq,bne_iff_ne,ne_eq,Bool.not_eq_true',Bool.not_eq_false',decide_eq_false_iff_not,decide_eq_true_eq,beq_eq_false_iff_ne,bne_eq_false_iff_eq,hsn] at *); unfold mayZ; omega)
    | (refine decide_eq_false ?_; (try simp only [beq_iff_eq,bne_iff_ne,ne_eq,Bool.not_eq_true',Bool.not_eq_false',decide_eq_false_iff_not,decide_eq_true_eq,beq_eq_false_iff_ne,bne_eq_false_iff_eq,hsn] at *); unfold mayZ; omega))
set_option maxRecDepth 100000 in
set_option maxHeartbeats 1000000 in
theorem eMay3f (fr ds tm ix lt cm:Int) (rs:List Rc) (sn:ByteArray) (vs:List Int) (ar:Option Addr) (nr cr:Nat) (av:Option Addr) (nv cv:Nat) (w:World) (h:MsAt w ⟨3,fr,ds,tm,false,ix,lt,rs,cm,sn,vs⟩ ar nr cr av nv cv) (v:Bool) (hv:Hid (v=mayM ⟨3,fr,ds,tm,false,ix,lt,rs,cm,sn,vs⟩)) :
 Calls Tryz.prog 32 #[.agg #[.int .i64 3,.int .i64 fr,.int .i64 ds,.int .i64 tm,.bool false,.int .i64 ix,.int .i64 lt,.slice ar nr cr,.int .i64 cm,.string sn,.slice av nv cv]] w fun e w'=>e = .returned (.bool v)∧Below w.heap.size w w':=by
 have HB0:=Lib.hid (((Below.refl w.heap.size w).alloc (Nat.le_refl _) (.cells #[.int .i64 3,.int .i64 fr,.int .i64 ds,.int .i64 tm,.bool false,.int .i64 ix,.int .i64 lt,.slice ar nr cr,.int .i64 cm,.string sn,.slice av nv cv] 25)).alloc (by simp) (.cells #[.int .i64 3,.int .i64 fr,.int .i64 ds,.int .i64 tm,.bool false,.int .i64 0,.int .i64 0,.slice none 0 0,.int .i64 0,.string ⟨#[]⟩,.slice none 0 0] 25))
 have HB1:=Lib.hid ((Below.refl w.heap.size w).alloc (Nat.le_refl _) (.cells #[.int .i64 3,.int .i64 fr,.int .i64 ds,.int .i64 tm,.bool false,.int .i64 ix,.int .i64 lt,.slice ar nr cr,.int .i64 cm,.string sn,.slice av nv cv] 25))
 have HK0:Hid (Blk (w.alloc (.cells #[.int .i64 3,.int .i64 fr,.int .i64 ds,.int .i64 tm,.bool false,.int .i64 ix,.int .i64 lt,.slice ar nr cr,.int .i64 cm,.string sn,.slice av nv cv] 25)) w.heap.size 25 [.int .i64 3,.int .i64 fr,.int .i64 ds,.int .i64 tm,.bool false,.int .i64 ix,.int .i64 lt,.slice ar nr cr,.int .i64 cm,.string sn,.slice av nv cv]):=Lib.hid (heap_alloc_new w _)
 have HK1:Hid (Blk ((w.alloc (.cells #[.int .i64 3,.int .i64 fr,.int .i64 ds,.int .i64 tm,.bool false,.int .i64 ix,.int .i64 lt,.slice ar nr cr,.int .i64 cm,.string sn,.slice av nv cv] 25)).alloc (.cells #[.int .i64 3,.int .i64 fr,.int .i64 ds,.int .i64 tm,.bool false,.int .i64 0,.int .i64 0,.slice none 0 0,.int .i64 0,.string ⟨#[]⟩,.slice none 0 0] 25)) w.heap.size 25 [.int .i64 3,.int .i64 fr,.int .i64 ds,.int .i64 tm,.bool false,.int .i64 ix,.int .i64 lt,.slice ar nr cr,.int .i64 cm,.string sn,.slice av nv cv]):=Lib.hid (HK0.out.alloc _)
 have HK2:Hid (Blk ((w.alloc (.cells #[.int .i64 3,.int .i64 fr,.int .i64 ds,.int .i64 tm,.bool false,.int .i64 ix,.int .i64 lt,.slice ar nr cr,.int .i64 cm,.string sn,.slice av nv cv] 25)).alloc (.cells #[.int .i64 3,.int .i64 fr,.int .i64 ds,.int .i64 tm,.bool false,.int .i64 0,.int .i64 0,.slice none 0 0,.int .i64 0,.string ⟨#[]⟩,.slice none 0 0] 25)) (w.heap.size+1) 25 [.int .i64 3,.int .i64 fr,.int .i64 ds,.int .i64 tm,.bool false,.int .i64 0,.int .i64 0,.slice none 0 0,.int .i64 0,.string ⟨#[]⟩,.slice none 0 0]):=Lib.hid (by
  have hz:=heap_alloc_new (w.alloc (.cells #[.int .i64 3,.int .i64 fr,.int .i64 ds,.int .i64 tm,.bool false,.int .i64 ix,.int .i64 lt,.slice ar nr cr,.int .i64 cm,.string sn,.slice av nv cv] 25)) (.cells #[.int .i64 3,.int .i64 fr,.int .i64 ds,.int .i64 tm,.bool false,.int .i64 0,.int .i64 0,.slice none 0 0,.int .i64 0,.string ⟨#[]⟩,.slice none 0 0] 25)
  rw [World.size_alloc] at hz
  exact hz)
 have HS2:Hid (((w.alloc (.cells #[.int .i64 3,.int .i64 fr,.int .i64 ds,.int .i64 tm,.bool false,.int .i64 ix,.int .i64 lt,.slice ar nr cr,.int .i64 cm,.string sn,.slice av nv cv] 25)).alloc (.cells #[.int .i64 3,.int .i64 fr,.int .i64 ds,.int .i64 tm,.bool false,.int .i64 0,.int .i64 0,.slice none 0 0,.int .i64 0,.string ⟨#[]⟩,.slice none 0 0] 25)).heap.size=w.heap.size+2):=Lib.hid (by simp)
 have HN:=Lib.hid h.rlen
 have HM:=Lib.hid h.vlen
 have H:=Lib.hid h
 obtain⟨Z,hZ⟩:∃ Z:Int,Z=(((sn:ByteArray).size:Nat):Int):=⟨_,rfl⟩
 obtain⟨rv,hrv'⟩:∃ x,x=b2i (rightV vs):=⟨_,rfl⟩
 obtain⟨al,hal'⟩:∃ x,x=b2i (termsUpto tm rs):=⟨_,rfl⟩
 obtain⟨rg,hrg'⟩:∃ x,x=b2i (rightG ix lt rs):=⟨_,rfl⟩
 have HV:Hid (v=decide (mayZ 3 fr ds tm 0 ix lt cm (nr:Int) Z (nv:Int) rv al rg)):=Lib.hid (by rw [hv.out,mayM_Z,hrv',hal',hrg',hZ,h.rlen,h.vlen]; try rfl)
 have HZ:=Lib.hid hZ
 have HRV0:=Lib.hid hrv'
 have HAL0:=Lib.hid hal'
 have HRG0:=Lib.hid hrg'
 clear hrv' hal' hrg' hZ
 have hb1:=h.nr
 have hb2:=h.nv
 clear h hv
 dsimp only at HN HM
 have x0:=HK0.out.cell (j:=0) rfl
 have x1:=HK0.out.cell (j:=1) rfl
 have x2:=HK0.out.cell (j:=2) rfl
 have x3:=HK0.out.cell (j:=3) rfl
 have z0:=HK1.out.cell (j:=0) rfl
 go_enter Tryz.func32,Tryz.ntmps32
 go_upto_block 0 with fail
 clear x0 x1 x2 x3 z0
 go_cut [] (fun w'=>Hid (Blk w' w.heap.size 25 [.int .i64 3,.int .i64 fr,.int .i64 ds,.int .i64 tm,.bool false,.int .i64 ix,.int .i64 lt,.slice ar nr cr,.int .i64 cm,.string sn,.slice av nv cv])∧Hid (Blk w' (w.heap.size+1) 25 [.int .i64 3,.int .i64 fr,.int .i64 ds,.int .i64 tm,.bool false,.int .i64 ix,.int .i64 lt,.slice none 0 0,.int .i64 cm,.string ⟨#[]⟩,.slice none 0 0])∧Hid (Below w.heap.size w w'))
 case first =>
  have x5:=HK1.out.cell (j:=5) rfl
  have y5:=HK2.out.cell (j:=5) rfl
  have x6:=HK1.out.cell (j:=6) rfl
  have y6:=HK2.out.cell (j:=6) rfl
  have x8:=HK1.out.cell (j:=8) rfl
  have y8:=HK2.out.cell (j:=8) rfl
  go_wp2_with fail
  go_region
  go_wp2_with fail
  go_meet
  exact⟨Lib.hid (HK0.out.alloc (.cells #[.int .i64 3,.int .i64 fr,.int .i64 ds,.int .i64 tm,.bool false,.int .i64 ix,.int .i64 lt,.slice none 0 0,.int .i64 cm,.string ⟨#[]⟩,.slice none 0 0] 25)),Lib.hid (by
   have hz:=heap_alloc_new (w.alloc (.cells #[.int .i64 3,.int .i64 fr,.int .i64 ds,.int .i64 tm,.bool false,.int .i64 ix,.int .i64 lt,.slice ar nr cr,.int .i64 cm,.string sn,.slice av nv cv] 25)) (.cells #[.int .i64 3,.int .i64 fr,.int .i64 ds,.int .i64 tm,.bool false,.int .i64 ix,.int .i64 lt,.slice none 0 0,.int .i64 cm,.string ⟨#[]⟩,.slice none 0 0] 25)
   rw [World.size_alloc] at hz
   exact hz),Lib.hid ((HB1.out.alloc (by simp) (.cells #[.int .i64 3,.int .i64 fr,.int .i64 ds,.int .i64 tm,.bool false,.int .i64 ix,.int .i64 lt,.slice none 0 0,.int .i64 cm,.string ⟨#[]⟩,.slice none 0 0] 25)).drew)⟩
 case rest =>
  obtain⟨hk1,hk2,hB⟩:=hcut
  have x0:=hk1.out.cell (j:=0) rfl
  have x1:=hk1.out.cell (j:=1) rfl
  have x2:=hk1.out.cell (j:=2) rfl
  have x3:=hk1.out.cell (j:=3) rfl
  have x4:=hk1.out.cell (j:=4) rfl
  have x5:=hk1.out.cell (j:=5) rfl
  have x6:=hk1.out.cell (j:=6) rfl
  have x7:=hk1.out.cell (j:=7) rfl
  have x8:=hk1.out.cell (j:=8) rfl
  have x9:=hk1.out.cell (j:=9) rfl
  have x10:=hk1.out.cell (j:=10) rfl
  have y4:=hk2.out.cell (j:=4) rfl
  have y5:=hk2.out.cell (j:=5) rfl
  have y6:=hk2.out.cell (j:=6) rfl
  have y8:=hk2.out.cell (j:=8) rfl
  have y9:=hk2.out.cell (j:=9) rfl
  clear HB0 HB1 HK0 HK1 HK2 HS2 hk2
  have HX1:=hk1
  clear hk1
  go_wp2_with (go_at_call 73; refine (ew3_any _ _ _ _).mono ?_; rintro e w' ⟨rfl,rfl⟩)
  all_goals clear x0 x1 x2 x3 x4 x5 x6 x7 x8 x9 x10 y4 y5 y6 y8 y9
  all_goals try (
   go_ret
   refine⟨ret_bool ?_,hB.out⟩
   rw [HV.out]
   symm
   have hz:=HZ.out
   have hsn:=emptyP3 sn Z hz
   first
    | (refine decide_eq_true ?_; (try simp only [beq_iff_eq,bne_iff_ne,ne_eq,Bool.not_eq_true',Bool.not_eq_false',decide_eq_false_iff_not,decide_eq_true_eq,beq_eq_false_iff_ne,bne_eq_false_iff_eq,hsn] at *); unfold mayZ; omega)
    | (refine decide_eq_false ?_; (try simp only [beq_iff_eq,bne_iff_ne,ne_eq,Bool.not_eq_true',Bool.not_eq_false',decide_eq_false_iff_not,decide_eq_true_eq,beq_eq_false_iff_ne,bne_eq_false_iff_eq,hsn] at *); unfold mayZ; omega))
  have HRC:=Lib.hid (H.out.recs.keep hB.out)
  have hrd:=Lib.hid (fun r hr=>(H.out.data r hr).1)
  have hrr:Hid (∀ (g:Bool),rightG ix lt rs=g→∀ p:Bel wc,Calls Tryz.prog 74 #[.agg #[.int .i64 ix,.int .i64 lt,.slice ar nr cr]] p.val fun e w'=>e = .returned (.bool g)∧Below p.val.heap.size p.val w') :=
   Lib.hid (fun g hg p=>jRight_any ar nr cr ix lt rs p.val (HRC.out.keep p.bel) hb1 (fun r hr=>(H.out.data r hr).1) g (Lib.hid hg.symm))
  have p3:=Bel.cell (HX1.out.cell (j:=3) rfl)
  have p5:=Bel.cell (HX1.out.cell (j:=5) rfl)
  have p6:=Bel.cell (HX1.out.cell (j:=6) rfl)
  have p7:=Bel.cell (HX1.out.cell (j:=7) rfl)
  clear HX1
  cases hg:rightG ix lt rs with
  | false =>
    have hr3:=Lib.hid (hrr.out false hg)
    clear hrr
    have HG0:=Lib.hid hg
    clear hg
    refine wp_region_bel (by kernel_rfl) (by kernel_rfl) ?_
    repeat (go_big_quiet_step (exact bel_of (hr3.out _)))
    refine wpQuiet_nil ?_
    intro _ hw'
    obtain⟨⟨W2,hW2⟩,rfl⟩:=hw'
    go_wp2_with fail
    go_ret
    refine⟨ret_bool ?_,below_then hB.out hW2 hB.out.size⟩
    have hr9:=HRG0.out
    rw [HG0.out,show b2i false=0 from rfl] at hr9
    rw [HV.out]
    symm
    have hz:=HZ.out
    have hsn:=emptyP3 sn Z hz
    first
     | (refine decide_eq_true ?_; (try simp only [beq_iff_eq,bne_iff_ne,ne_eq,Bool.not_eq_true',Bool.not_eq_false',decide_eq_false_iff_not,decide_eq_true_eq,beq_eq_false_iff_ne,bne_eq_false_iff_eq,hsn] at *); unfold mayZ; omega)
     | (refine decide_eq_false ?_; (try simp only [beq_iff_eq,bne_iff_ne,ne_eq,Bool.not_eq_true',Bool.not_eq_false',decide_eq_false_iff_not,decide_eq_true_eq,beq_eq_false_iff_ne,bne_eq_false_iff_eq,hsn] at *); unfold mayZ; omega)
  | true =>
    have hr3:=Lib.hid (hrr.out true hg)
    clear hrr
    have HG0:=Lib.hid hg
    clear hg
    rcases nr with _ | j
    ·refine wp_region_bel (by kernel_rfl) (by kernel_rfl) ?_
     repeat (go_big_quiet_step (exact bel_of (hr3.out _)))
     refine wpQuiet_nil ?_
     intro _ hw'
     obtain⟨⟨W2,hW2⟩,rfl⟩:=hw'
     go_wp2_with fail
     go_ret
     refine⟨ret_bool ?_,below_then hB.out hW2 hB.out.size⟩
     have hr9:=HRG0.out
     rw [HG0.out,show b2i true=1 from rfl] at hr9
     have ha9:=HAL0.out
     rw [show termsUpto tm rs=true by rw [List.eq_nil_of_length_eq_zero HN.out.symm]; rfl,show b2i true=1 from rfl] at ha9
     rw [HV.out]
     symm
     have hz:=HZ.out
     have hsn:=emptyP3 sn Z hz
     first
      | (refine decide_eq_true ?_; (try simp only [beq_iff_eq,bne_iff_ne,ne_eq,Bool.not_eq_true',Bool.not_eq_false',decide_eq_false_iff_not,decide_eq_true_eq,beq_eq_false_iff_ne,bne_eq_false_iff_eq,hsn] at *); unfold mayZ; omega)
      | (refine decide_eq_false ?_; (try simp only [beq_iff_eq,bne_iff_ne,ne_eq,Bool.not_eq_true',Bool.not_eq_false',decide_eq_false_iff_not,decide_eq_true_eq,beq_eq_false_iff_ne,bne_eq_false_iff_eq,hsn] at *); unfold mayZ; omega)
    ·have hjl:j<rs.length:=by have:=HN.out; omega
     obtain⟨b,off,rfl,hc⟩:=rc_at HRC.out (by omega)
     obtain⟨c0,c1,c2⟩:=hc j hjl
     have p0:=Bel.cell c0
     have bj:(((j+1:Nat):Int)==0)=false:=by simp; omega
     have bj2:((j:Int)+1==0)=false:=by simp; omega
     have HUP:=Lib.hid (lastUpto tm (by have:=HN.out; exact this.symm) HG0.out hjl)
     clear c0 c1 c2 hc
     dsimp only at p0
     generalize rs[j].term=rt at p0 HUP
     by_cases hle:rt≤tm
     ·have bl:decide (rt≤tm)=true:=decide_eq_true hle
      have HU2:Hid (termsUpto tm rs=true):=Lib.hid (by rw [HUP.out,bl])
      clear HUP hle
      refine wp_region_bel (by kernel_rfl) (by kernel_rfl) ?_
      repeat (go_big_quiet_step (exact bel_of (hr3.out _)))
      refine wpQuiet_nil ?_
      intro _ hw'
      obtain⟨⟨W2,hW2⟩,rfl⟩:=hw'
      go_wp2_with fail
      go_ret
      refine⟨ret_bool ?_,below_then hB.out hW2 hB.out.size⟩
      have hr9:=HRG0.out
      rw [HG0.out,show b2i true=1 from rfl] at hr9
      have ha9:=HAL0.out
      rw [HU2.out,show b2i true=1 from rfl] at ha9
      rw [HV.out]
      symm
      have hz:=HZ.out
      have hsn:=emptyP3 sn Z hz
      first
       | (refine decide_eq_true ?_; (try simp only [beq_iff_eq,bne_iff_ne,ne_eq,Bool.not_eq_true',Bool.not_eq_false',decide_eq_false_iff_not,decide_eq_true_eq,beq_eq_false_iff_ne,bne_eq_false_iff_eq,hsn] at *); unfold mayZ; omega)
       | (refine decide_eq_false ?_; (try simp only [beq_iff_eq,bne_iff_ne,ne_eq,Bool.not_eq_true',Bool.not_eq_false',decide_eq_false_iff_not,decide_eq_true_eq,beq_eq_false_iff_ne,bne_eq_false_iff_eq,hsn] at *); unfold mayZ; omega)
     ·have bl:decide (rt≤tm)=false:=decide_eq_false hle
      have HU2:Hid (termsUpto tm rs=false):=Lib.hid (by rw [HUP.out,bl])
      clear HUP hle
      refine wp_region_bel (by kernel_rfl) (by kernel_rfl) ?_
      repeat (go_big_quiet_step (exact bel_of (hr3.out _)))
      refine wpQuiet_nil ?_
      intro _ hw'
      obtain⟨⟨W2,hW2⟩,rfl⟩:=hw'
      go_wp2_with fail
      go_ret
      refine⟨ret_bool ?_,below_then hB.out hW2 hB.out.size⟩
      have hr9:=HRG0.out
      rw [HG0.out,show b2i true=1 from rfl] at hr9
      have ha9:=HAL0.out
      rw [HU2.out,show b2i false=0 from rfl] at ha9
      rw [HV.out]
      symm
      have hz:=HZ.out
      have hsn:=emptyP3 sn Z hz
      first
       | (refine decide_eq_true ?_; (try simp only [beq_iff_eq,bne_iff_ne,ne_eq,Bool.not_eq_true',Bool.not_eq_false',decide_eq_false_iff_not,decide_eq_true_eq,beq_eq_false_iff_ne,bne_eq_false_iff_eq,hsn] at *); unfold mayZ; omega)
       | (refine decide_eq_false ?_; (try simp only [beq_iff_eq,bne_iff_ne,ne_eq,Bool.not_eq_true',Bool.not_eq_false',decide_eq_false_iff_not,decide_eq_true_eq,beq_eq_false_iff_ne,bne_eq_false_iff_eq,hsn] at *); unfold mayZ; omega)
end Go.Proofs.YtlpgbmaoenncjaaGreatDoor
