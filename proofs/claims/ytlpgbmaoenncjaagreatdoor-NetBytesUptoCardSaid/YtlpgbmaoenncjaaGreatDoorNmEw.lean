/-
  The walk of the reference's May: new blocks alone are made; the slices within reach. (Written by wip/mkmay.py.)
  The walk of the reference's May: new blocks alone are made; the slices within reach. (Written by wip/mkmay.py.)
  The walk of the reference's May: new blocks alone are made; the slices within reach. (Written by wip/mkmay.py.)
  The walk of the reference's May: new blocks alone are made; the slices within reach. (Written by wip/mkmay.py.)
-/
import Derived.Test.YtlpgbmaoenncjaaGreatDoorNmD
import Derived.Test.YtlpgbmaoenncjaaGreatDoorNmEa
namespace Go.Proofs.YtlpgbmaoenncjaaGreatDoor
open Go.RowKit
set_option linter.unusedVariables false
set_option linter.unusedSimpArgs false
set_option maxRecDepth 100000 in
set_option maxHeartbeats 1000000 in
theorem rMay1t (fr ds tm ix lt cm:Int) (rs:List Rc) (sn:ByteArray) (vs:List Int) (ar:Option Addr) (nr cr:Nat) (av:Option Addr) (nv cv:Nat) (w:World) (h:MsAt w ⟨1,fr,ds,tm,true,ix,lt,rs,cm,sn,vs⟩ ar nr cr av nv cv) (v:Bool) (hv:Hid (v=mayM ⟨1,fr,ds,tm,true,ix,lt,rs,cm,sn,vs⟩)) :
 Calls Tryz.prog 37 #[.agg #[.int .i64 1,.int .i64 fr,.int .i64 ds,.int .i64 tm,.bool true,.int .i64 ix,.int .i64 lt,.slice ar nr cr,.int .i64 cm,.string sn,.slice av nv cv]] w fun e w'=>e = .returned (.bool v)∧Below w.heap.size w w':=by
 have HB0:=Lib.hid ((Below.refl _ w).alloc (Nat.le_refl _) (.cells #[.int .i64 1,.int .i64 fr,.int .i64 ds,.int .i64 tm,.bool true,.int .i64 ix,.int .i64 lt,.slice ar nr cr,.int .i64 cm,.string sn,.slice av nv cv] 25))
 have HK0:Hid (Blk (w.alloc (.cells #[.int .i64 1,.int .i64 fr,.int .i64 ds,.int .i64 tm,.bool true,.int .i64 ix,.int .i64 lt,.slice ar nr cr,.int .i64 cm,.string sn,.slice av nv cv] 25)) w.heap.size 25 [.int .i64 1,.int .i64 fr,.int .i64 ds,.int .i64 tm,.bool true,.int .i64 ix,.int .i64 lt,.slice ar nr cr,.int .i64 cm,.string sn,.slice av nv cv]):=Lib.hid (heap_alloc_new w _)
 have HN:=Lib.hid h.rlen
 have HM:=Lib.hid h.vlen
 have H:=Lib.hid h
 obtain⟨Z,hZ⟩:∃ Z:Int,Z=(((sn:ByteArray).size:Nat):Int):=⟨_,rfl⟩
 obtain⟨rv,hrv'⟩:∃ x,x=b2i (rightV vs):=⟨_,rfl⟩
 obtain⟨al,hal'⟩:∃ x,x=b2i (termsUpto tm rs):=⟨_,rfl⟩
 obtain⟨rg,hrg'⟩:∃ x,x=b2i (rightG ix lt rs):=⟨_,rfl⟩
 have HV:Hid (v=decide (mayZ 1 fr ds tm 1 ix lt cm (nr:Int) Z (nv:Int) rv al rg)):=Lib.hid (by rw [hv.out,mayM_Z,hrv',hal',hrg',hZ,h.rlen,h.vlen]; try rfl)
 have HZ:=Lib.hid hZ
 have HRV0:=Lib.hid hrv'
 have HAL0:=Lib.hid hal'
 have HRG0:=Lib.hid hrg'
 clear hrv' hal' hrg' hZ
 have hb1:=h.nr
 have hb2:=h.nv
 clear h hv
 dsimp only at HN HM
 have be:sn.toList.isEmpty=decide (Z=0):=by rw [HZ.out]; exact emptyD sn
 have x:=HK0.out
 have x0:=x.cell (j:=0) rfl
 have x1:=x.cell (j:=1) rfl
 have x2:=x.cell (j:=2) rfl
 have x3:=x.cell (j:=3) rfl
 have x4:=x.cell (j:=4) rfl
 have x5:=x.cell (j:=5) rfl
 have x6:=x.cell (j:=6) rfl
 have x7:=x.cell (j:=7) rfl
 have x8:=x.cell (j:=8) rfl
 have x9:=x.cell (j:=9) rfl
 have x10:=x.cell (j:=10) rfl
 clear x
 go_enter Tryz.func37,Tryz.ntmps37
 go_wp2_with (go_at_call 83; refine (i17_any _ _ _ _).mono ?_; rintro e w' ⟨rfl,rfl⟩)
 all_goals clear x0 x1 x2 x3 x4 x5 x6 x7 x8 x9 x10
 all_goals first
  | (go_ret
     refine⟨ret_bool ?_,(by first | exact (Below.refl _ w).alloc (Nat.le_refl _) _ | exact HBX.out)⟩
     rw [HV.out]
     symm
     have hz:=HZ.out
     first
      | (refine decide_eq_true ?_; (try simp only [beq_iff_eq,bne_iff_ne,ne_eq,Bool.not_eq_true',Bool.not_eq_false',decide_eq_false_iff_not,decide_eq_true_eq,beq_eq_false_iff_ne,bne_eq_false_iff_eq] at *); unfold mayZ; omega)
      | (refine decide_eq_false ?_; (try simp only [beq_iff_eq,bne_iff_ne,ne_eq,Bool.not_eq_true',Bool.not_eq_false',decide_eq_false_iff_not,decide_eq_true_eq,beq_eq_false_iff_ne,bne_eq_false_iff_eq] at *); unfold mayZ; omega))
set_option maxRecDepth 100000 in
set_option maxHeartbeats 1000000 in
theorem rMay1f (fr ds tm ix lt cm:Int) (rs:List Rc) (sn:ByteArray) (vs:List Int) (ar:Option Addr) (nr cr:Nat) (av:Option Addr) (nv cv:Nat) (w:World) (h:MsAt w ⟨1,fr,ds,tm,false,ix,lt,rs,cm,sn,vs⟩ ar nr cr av nv cv) (v:Bool) (hv:Hid (v=mayM ⟨1,fr,ds,tm,false,ix,lt,rs,cm,sn,vs⟩)) :
 Calls Tryz.prog 37 #[.agg #[.int .i64 1,.int .i64 fr,.int .i64 ds,.int .i64 tm,.bool false,.int .i64 ix,.int .i64 lt,.slice ar nr cr,.int .i64 cm,.string sn,.slice av nv cv]] w fun e w'=>e = .returned (.bool v)∧Below w.heap.size w w':=by
 have HB0:=Lib.hid ((Below.refl _ w).alloc (Nat.le_refl _) (.cells #[.int .i64 1,.int .i64 fr,.int .i64 ds,.int .i64 tm,.bool false,.int .i64 ix,.int .i64 lt,.slice ar nr cr,.int .i64 cm,.string sn,.slice av nv cv] 25))
 have HK0:Hid (Blk (w.alloc (.cells #[.int .i64 1,.int .i64 fr,.int .i64 ds,.int .i64 tm,.bool false,.int .i64 ix,.int .i64 lt,.slice ar nr cr,.int .i64 cm,.string sn,.slice av nv cv] 25)) w.heap.size 25 [.int .i64 1,.int .i64 fr,.int .i64 ds,.int .i64 tm,.bool false,.int .i64 ix,.int .i64 lt,.slice ar nr cr,.int .i64 cm,.string sn,.slice av nv cv]):=Lib.hid (heap_alloc_new w _)
 have HN:=Lib.hid h.rlen
 have HM:=Lib.hid h.vlen
 have H:=Lib.hid h
 obtain⟨Z,hZ⟩:∃ Z:Int,Z=(((sn:ByteArray).size:Nat):Int):=⟨_,rfl⟩
 obtain⟨rv,hrv'⟩:∃ x,x=b2i (rightV vs):=⟨_,rfl⟩
 obtain⟨al,hal'⟩:∃ x,x=b2i (termsUpto tm rs):=⟨_,rfl⟩
 obtain⟨rg,hrg'⟩:∃ x,x=b2i (rightG ix lt rs):=⟨_,rfl⟩
 have HV:Hid (v=decide (mayZ 1 fr ds tm 0 ix lt cm (nr:Int) Z (nv:Int) rv al rg)):=Lib.hid (by rw [hv.out,mayM_Z,hrv',hal',hrg',hZ,h.rlen,h.vlen]; try rfl)
 have HZ:=Lib.hid hZ
 have HRV0:=Lib.hid hrv'
 have HAL0:=Lib.hid hal'
 have HRG0:=Lib.hid hrg'
 clear hrv' hal' hrg' hZ
 have hb1:=h.nr
 have hb2:=h.nv
 clear h hv
 dsimp only at HN HM
 have be:sn.toList.isEmpty=decide (Z=0):=by rw [HZ.out]; exact emptyD sn
 have x:=HK0.out
 have x0:=x.cell (j:=0) rfl
 have x1:=x.cell (j:=1) rfl
 have x2:=x.cell (j:=2) rfl
 have x3:=x.cell (j:=3) rfl
 have x4:=x.cell (j:=4) rfl
 have x5:=x.cell (j:=5) rfl
 have x6:=x.cell (j:=6) rfl
 have x7:=x.cell (j:=7) rfl
 have x8:=x.cell (j:=8) rfl
 have x9:=x.cell (j:=9) rfl
 have x10:=x.cell (j:=10) rfl
 clear x
 go_enter Tryz.func37,Tryz.ntmps37
 go_wp2_with (go_at_call 83; refine (i17_any _ _ _ _).mono ?_; rintro e w' ⟨rfl,rfl⟩)
 all_goals clear x0 x1 x2 x3 x4 x5 x6 x7 x8 x9 x10
 all_goals first
  | (go_ret
     refine⟨ret_bool ?_,(by first | exact (Below.refl _ w).alloc (Nat.le_refl _) _ | exact HBX.out)⟩
     rw [HV.out]
     symm
     have hz:=HZ.out
     first
      | (refine decide_eq_true ?_; (try simp only [beq_iff_eq,bne_iff_ne,ne_eq,Bool.not_eq_true',Bool.not_eq_false',decide_eq_false_iff_not,decide_eq_true_eq,beq_eq_false_iff_ne,bne_eq_false_iff_eq] at *); unfold mayZ; omega)
      | (refine decide_eq_false ?_; (try simp only [beq_iff_eq,bne_iff_ne,ne_eq,Bool.not_eq_true',Bool.not_eq_false',decide_eq_false_iff_not,decide_eq_true_eq,beq_eq_false_iff_ne,bne_eq_false_iff_eq] at *); unfold mayZ; omega))
end Go.Proofs.YtlpgbmaoenncjaaGreatDoor

namespace Go.Proofs.YtlpgbmaoenncjaaGreatDoor
open Go.RowKit
set_option linter.unusedVariables false
set_option linter.unusedSimpArgs false
set_option maxRecDepth 100000 in
set_option maxHeartbeats 1000000 in
theorem rMay2t (fr ds tm ix lt cm:Int) (rs:List Rc) (sn:ByteArray) (vs:List Int) (ar:Option Addr) (nr cr:Nat) (av:Option Addr) (nv cv:Nat) (w:World) (h:MsAt w ⟨2,fr,ds,tm,true,ix,lt,rs,cm,sn,vs⟩ ar nr cr av nv cv) (v:Bool) (hv:Hid (v=mayM ⟨2,fr,ds,tm,true,ix,lt,rs,cm,sn,vs⟩)) :
 Calls Tryz.prog 37 #[.agg #[.int .i64 2,.int .i64 fr,.int .i64 ds,.int .i64 tm,.bool true,.int .i64 ix,.int .i64 lt,.slice ar nr cr,.int .i64 cm,.string sn,.slice av nv cv]] w fun e w'=>e = .returned (.bool v)∧Below w.heap.size w w':=by
 have HB0:=Lib.hid ((Below.refl _ w).alloc (Nat.le_refl _) (.cells #[.int .i64 2,.int .i64 fr,.int .i64 ds,.int .i64 tm,.bool true,.int .i64 ix,.int .i64 lt,.slice ar nr cr,.int .i64 cm,.string sn,.slice av nv cv] 25))
 have HK0:Hid (Blk (w.alloc (.cells #[.int .i64 2,.int .i64 fr,.int .i64 ds,.int .i64 tm,.bool true,.int .i64 ix,.int .i64 lt,.slice ar nr cr,.int .i64 cm,.string sn,.slice av nv cv] 25)) w.heap.size 25 [.int .i64 2,.int .i64 fr,.int .i64 ds,.int .i64 tm,.bool true,.int .i64 ix,.int .i64 lt,.slice ar nr cr,.int .i64 cm,.string sn,.slice av nv cv]):=Lib.hid (heap_alloc_new w _)
 have HN:=Lib.hid h.rlen
 have HM:=Lib.hid h.vlen
 have H:=Lib.hid h
 obtain⟨Z,hZ⟩:∃ Z:Int,Z=(((sn:ByteArray).size:Nat):Int):=⟨_,rfl⟩
 obtain⟨rv,hrv'⟩:∃ x,x=b2i (rightV vs):=⟨_,rfl⟩
 obtain⟨al,hal'⟩:∃ x,x=b2i (termsUpto tm rs):=⟨_,rfl⟩
 obtain⟨rg,hrg'⟩:∃ x,x=b2i (rightG ix lt rs):=⟨_,rfl⟩
 have HV:Hid (v=decide (mayZ 2 fr ds tm 1 ix lt cm (nr:Int) Z (nv:Int) rv al rg)):=Lib.hid (by rw [hv.out,mayM_Z,hrv',hal',hrg',hZ,h.rlen,h.vlen]; try rfl)
 have HZ:=Lib.hid hZ
 have HRV0:=Lib.hid hrv'
 have HAL0:=Lib.hid hal'
 have HRG0:=Lib.hid hrg'
 clear hrv' hal' hrg' hZ
 have hb1:=h.nr
 have hb2:=h.nv
 clear h hv
 dsimp only at HN HM
 have be:sn.toList.isEmpty=decide (Z=0):=by rw [HZ.out]; exact emptyD sn
 have x:=HK0.out
 have x0:=x.cell (j:=0) rfl
 have x1:=x.cell (j:=1) rfl
 have x2:=x.cell (j:=2) rfl
 have x3:=x.cell (j:=3) rfl
 have x4:=x.cell (j:=4) rfl
 have x5:=x.cell (j:=5) rfl
 have x6:=x.cell (j:=6) rfl
 have x7:=x.cell (j:=7) rfl
 have x8:=x.cell (j:=8) rfl
 have x9:=x.cell (j:=9) rfl
 have x10:=x.cell (j:=10) rfl
 clear x
 go_enter Tryz.func37,Tryz.ntmps37
 go_wp2_with (go_at_call 83; refine (i17_any _ _ _ _).mono ?_; rintro e w' ⟨rfl,rfl⟩)
 all_goals clear x0 x1 x2 x3 x4 x5 x6 x7 x8 x9 x10
 all_goals first
  | (go_ret
     refine⟨ret_bool ?_,(by first | exact (Below.refl _ w).alloc (Nat.le_refl _) _ | exact HBX.out)⟩
     rw [HV.out]
     symm
     have hz:=HZ.out
     first
      | (refine decide_eq_true ?_; (try simp only [beq_iff_eq,bne_iff_ne,ne_eq,Bool.not_eq_true',Bool.not_eq_false',decide_eq_false_iff_not,decide_eq_true_eq,beq_eq_false_iff_ne,bne_eq_false_iff_eq] at *); unfold mayZ; omega)
      | (refine decide_eq_false ?_; (try simp only [beq_iff_eq,bne_iff_ne,ne_eq,Bool.not_eq_true',Bool.not_eq_false',decide_eq_false_iff_not,decide_eq_true_eq,beq_eq_false_iff_ne,bne_eq_false_iff_eq] at *); unfold mayZ; omega))
set_option maxRecDepth 100000 in
set_option maxHeartbeats 1000000 in
theorem rMay2f (fr ds tm ix lt cm:Int) (rs:List Rc) (sn:ByteArray) (vs:List Int) (ar:Option Addr) (nr cr:Nat) (av:Option Addr) (nv cv:Nat) (w:World) (h:MsAt w ⟨2,fr,ds,tm,false,ix,lt,rs,cm,sn,vs⟩ ar nr cr av nv cv) (v:Bool) (hv:Hid (v=mayM ⟨2,fr,ds,tm,false,ix,lt,rs,cm,sn,vs⟩)) :
 Calls Tryz.prog 37 #[.agg #[.int .i64 2,.int .i64 fr,.int .i64 ds,.int .i64 tm,.bool false,.int .i64 ix,.int .i64 lt,.slice ar nr cr,.int .i64 cm,.string sn,.slice av nv cv]] w fun e w'=>e = .returned (.bool v)∧Below w.heap.size w w':=by
 have HB0:=Lib.hid ((Below.refl _ w).alloc (Nat.le_refl _) (.cells #[.int .i64 2,.int .i64 fr,.int .i64 ds,.int .i64 tm,.bool false,.int .i64 ix,.int .i64 lt,.slice ar nr cr,.int .i64 cm,.string sn,.slice av nv cv] 25))
 have HK0:Hid (Blk (w.alloc (.cells #[.int .i64 2,.int .i64 fr,.int .i64 ds,.int .i64 tm,.bool false,.int .i64 ix,.int .i64 lt,.slice ar nr cr,.int .i64 cm,.string sn,.slice av nv cv] 25)) w.heap.size 25 [.int .i64 2,.int .i64 fr,.int .i64 ds,.int .i64 tm,.bool false,.int .i64 ix,.int .i64 lt,.slice ar nr cr,.int .i64 cm,.string sn,.slice av nv cv]):=Lib.hid (heap_alloc_new w _)
 have HN:=Lib.hid h.rlen
 have HM:=Lib.hid h.vlen
 have H:=Lib.hid h
 obtain⟨Z,hZ⟩:∃ Z:Int,Z=(((sn:ByteArray).size:Nat):Int):=⟨_,rfl⟩
 obtain⟨rv,hrv'⟩:∃ x,x=b2i (rightV vs):=⟨_,rfl⟩
 obtain⟨al,hal'⟩:∃ x,x=b2i (termsUpto tm rs):=⟨_,rfl⟩
 obtain⟨rg,hrg'⟩:∃ x,x=b2i (rightG ix lt rs):=⟨_,rfl⟩
 have HV:Hid (v=decide (mayZ 2 fr ds tm 0 ix lt cm (nr:Int) Z (nv:Int) rv al rg)):=Lib.hid (by rw [hv.out,mayM_Z,hrv',hal',hrg',hZ,h.rlen,h.vlen]; try rfl)
 have HZ:=Lib.hid hZ
 have HRV0:=Lib.hid hrv'
 have HAL0:=Lib.hid hal'
 have HRG0:=Lib.hid hrg'
 clear hrv' hal' hrg' hZ
 have hb1:=h.nr
 have hb2:=h.nv
 clear h hv
 dsimp only at HN HM
 have be:sn.toList.isEmpty=decide (Z=0):=by rw [HZ.out]; exact emptyD sn
 have x:=HK0.out
 have x0:=x.cell (j:=0) rfl
 have x1:=x.cell (j:=1) rfl
 have x2:=x.cell (j:=2) rfl
 have x3:=x.cell (j:=3) rfl
 have x4:=x.cell (j:=4) rfl
 have x5:=x.cell (j:=5) rfl
 have x6:=x.cell (j:=6) rfl
 have x7:=x.cell (j:=7) rfl
 have x8:=x.cell (j:=8) rfl
 have x9:=x.cell (j:=9) rfl
 have x10:=x.cell (j:=10) rfl
 clear x
 go_enter Tryz.func37,Tryz.ntmps37
 go_wp2_with (go_at_call 83; refine (i17_any _ _ _ _).mono ?_; rintro e w' ⟨rfl,rfl⟩)
 all_goals clear x0 x1 x2 x3 x4 x5 x6 x7 x8 x9 x10
 all_goals first
  | (go_ret
     refine⟨ret_bool ?_,(by first | exact (Below.refl _ w).alloc (Nat.le_refl _) _ | exact HBX.out)⟩
     rw [HV.out]
     symm
     have hz:=HZ.out
     first
      | (refine decide_eq_true ?_; (try simp only [beq_iff_eq,bne_iff_ne,ne_eq,Bool.not_eq_true',Bool.not_eq_false',decide_eq_false_iff_not,decide_eq_true_eq,beq_eq_false_iff_ne,bne_eq_false_iff_eq] at *); unfold mayZ; omega)
      | (refine decide_eq_false ?_; (try simp only [beq_iff_eq,bne_iff_ne,ne_eq,Bool.not_eq_true',Bool.not_eq_false',decide_eq_false_iff_not,decide_eq_true_eq,beq_eq_false_iff_ne,bne_eq_false_iff_eq] at *); unfold mayZ; omega))
end Go.Proofs.YtlpgbmaoenncjaaGreatDoor

namespace Go.Proofs.YtlpgbmaoenncjaaGreatDoor
open Go.RowKit
set_option linter.unusedVariables false
set_option linter.unusedSimpArgs false
set_option maxRecDepth 100000 in
set_option maxHeartbeats 1000000 in
theorem rMay3t (fr ds tm ix lt cm:Int) (rs:List Rc) (sn:ByteArray) (vs:List Int) (ar:Option Addr) (nr cr:Nat) (av:Option Addr) (nv cv:Nat) (w:World) (h:MsAt w ⟨3,fr,ds,tm,true,ix,lt,rs,cm,sn,vs⟩ ar nr cr av nv cv) (v:Bool) (hv:Hid (v=mayM ⟨3,fr,ds,tm,true,ix,lt,rs,cm,sn,vs⟩)) :
 Calls Tryz.prog 37 #[.agg #[.int .i64 3,.int .i64 fr,.int .i64 ds,.int .i64 tm,.bool true,.int .i64 ix,.int .i64 lt,.slice ar nr cr,.int .i64 cm,.string sn,.slice av nv cv]] w fun e w'=>e = .returned (.bool v)∧Below w.heap.size w w':=by
 have HB0:=Lib.hid ((Below.refl _ w).alloc (Nat.le_refl _) (.cells #[.int .i64 3,.int .i64 fr,.int .i64 ds,.int .i64 tm,.bool true,.int .i64 ix,.int .i64 lt,.slice ar nr cr,.int .i64 cm,.string sn,.slice av nv cv] 25))
 have HK0:Hid (Blk (w.alloc (.cells #[.int .i64 3,.int .i64 fr,.int .i64 ds,.int .i64 tm,.bool true,.int .i64 ix,.int .i64 lt,.slice ar nr cr,.int .i64 cm,.string sn,.slice av nv cv] 25)) w.heap.size 25 [.int .i64 3,.int .i64 fr,.int .i64 ds,.int .i64 tm,.bool true,.int .i64 ix,.int .i64 lt,.slice ar nr cr,.int .i64 cm,.string sn,.slice av nv cv]):=Lib.hid (heap_alloc_new w _)
 have HN:=Lib.hid h.rlen
 have HM:=Lib.hid h.vlen
 have H:=Lib.hid h
 obtain⟨Z,hZ⟩:∃ Z:Int,Z=(((sn:ByteArray).size:Nat):Int):=⟨_,rfl⟩
 obtain⟨rv,hrv'⟩:∃ x,x=b2i (rightV vs):=⟨_,rfl⟩
 obtain⟨al,hal'⟩:∃ x,x=b2i (termsUpto tm rs):=⟨_,rfl⟩
 obtain⟨rg,hrg'⟩:∃ x,x=b2i (rightG ix lt rs):=⟨_,rfl⟩
 have HV:Hid (v=decide (mayZ 3 fr ds tm 1 ix lt cm (nr:Int) Z (nv:Int) rv al rg)):=Lib.hid (by rw [hv.out,mayM_Z,hrv',hal',hrg',hZ,h.rlen,h.vlen]; try rfl)
 have HZ:=Lib.hid hZ
 have HRV0:=Lib.hid hrv'
 have HAL0:=Lib.hid hal'
 have HRG0:=Lib.hid hrg'
 clear hrv' hal' hrg' hZ
 have hb1:=h.nr
 have hb2:=h.nv
 clear h hv
 dsimp only at HN HM
 have be:sn.toList.isEmpty=decide (Z=0):=by rw [HZ.out]; exact emptyD sn
 have x:=HK0.out
 have x0:=x.cell (j:=0) rfl
 have x1:=x.cell (j:=1) rfl
 have x2:=x.cell (j:=2) rfl
 have x3:=x.cell (j:=3) rfl
 have x4:=x.cell (j:=4) rfl
 have x5:=x.cell (j:=5) rfl
 have x6:=x.cell (j:=6) rfl
 have x7:=x.cell (j:=7) rfl
 have x8:=x.cell (j:=8) rfl
 have x9:=x.cell (j:=9) rfl
 have x10:=x.cell (j:=10) rfl
 clear x
 go_enter Tryz.func37,Tryz.ntmps37
 go_wp2_with (go_at_call 83; refine (i17_any _ _ _ _).mono ?_; rintro e w' ⟨rfl,rfl⟩)
 all_goals clear x0 x1 x2 x3 x4 x5 x6 x7 x8 x9 x10
 all_goals first
  | (go_ret
     refine⟨ret_bool ?_,(by first | exact (Below.refl _ w).alloc (Nat.le_refl _) _ | exact HBX.out)⟩
     rw [HV.out]
     symm
     have hz:=HZ.out
     first
      | (refine decide_eq_true ?_; (try simp only [beq_iff_eq,bne_iff_ne,ne_eq,Bool.not_eq_true',Bool.not_eq_false',decide_eq_false_iff_not,decide_eq_true_eq,beq_eq_false_iff_ne,bne_eq_false_iff_eq] at *); unfold mayZ; omega)
      | (refine decide_eq_false ?_; (try simp only [beq_iff_eq,bne_iff_ne,ne_eq,Bool.not_eq_true',Bool.not_eq_false',decide_eq_false_iff_not,decide_eq_true_eq,beq_eq_false_iff_ne,bne_eq_false_iff_eq] at *); unfold mayZ; omega))
set_option maxRecDepth 100000 in
set_option maxHeartbeats 1000000 in
theorem rMay3fs (fr ds tm ix lt cm:Int) (rs:List Rc) (sn:ByteArray) (vs:List Int) (ar:Option Addr) (nr cr:Nat) (av:Option Addr) (nv cv:Nat) (w:World)  (hsn:sn.size≠0)(h:MsAt w ⟨3,fr,ds,tm,false,ix,lt,rs,cm,sn,vs⟩ ar nr cr av nv cv) (v:Bool) (hv:Hid (v=mayM ⟨3,fr,ds,tm,false,ix,lt,rs,cm,sn,vs⟩)) :
 Calls Tryz.prog 37 #[.agg #[.int .i64 3,.int .i64 fr,.int .i64 ds,.int .i64 tm,.bool false,.int .i64 ix,.int .i64 lt,.slice ar nr cr,.int .i64 cm,.string sn,.slice av nv cv]] w fun e w'=>e = .returned (.bool v)∧Below w.heap.size w w':=by
 have HB0:=Lib.hid ((Below.refl _ w).alloc (Nat.le_refl _) (.cells #[.int .i64 3,.int .i64 fr,.int .i64 ds,.int .i64 tm,.bool false,.int .i64 ix,.int .i64 lt,.slice ar nr cr,.int .i64 cm,.string sn,.slice av nv cv] 25))
 have HK0:Hid (Blk (w.alloc (.cells #[.int .i64 3,.int .i64 fr,.int .i64 ds,.int .i64 tm,.bool false,.int .i64 ix,.int .i64 lt,.slice ar nr cr,.int .i64 cm,.string sn,.slice av nv cv] 25)) w.heap.size 25 [.int .i64 3,.int .i64 fr,.int .i64 ds,.int .i64 tm,.bool false,.int .i64 ix,.int .i64 lt,.slice ar nr cr,.int .i64 cm,.string sn,.slice av nv cv]):=Lib.hid (heap_alloc_new w _)
 have HN:=Lib.hid h.rlen
 have HM:=Lib.hid h.vlen
 have H:=Lib.hid h
 obtain⟨Z,hZ⟩:∃ Z:Int,Z=(((sn:ByteArray).size:Nat):Int):=⟨_,rfl⟩
 obtain⟨rv,hrv'⟩:∃ x,x=b2i (rightV vs):=⟨_,rfl⟩
 obtain⟨al,hal'⟩:∃ x,x=b2i (termsUpto tm rs):=⟨_,rfl⟩
 obtain⟨rg,hrg'⟩:∃ x,x=b2i (rightG ix lt rs):=⟨_,rfl⟩
 have HV:Hid (v=decide (mayZ 3 fr ds tm 0 ix lt cm (nr:Int) Z (nv:Int) rv al rg)):=Lib.hid (by rw [hv.out,mayM_Z,hrv',hal',hrg',hZ,h.rlen,h.vlen]; try rfl)
 have HZ:=Lib.hid hZ
 have HRV0:=Lib.hid hrv'
 have HAL0:=Lib.hid hal'
 have HRG0:=Lib.hid hrg'
 clear hrv' hal' hrg' hZ
 have hb1:=h.nr
 have hb2:=h.nv
 clear h hv
 dsimp only at HN HM
 have be:sn.toList.isEmpty=false:=isEmpty_no hsn
 have HSN:=Lib.hid hsn
 have x:=HK0.out
 have x0:=x.cell (j:=0) rfl
 have x1:=x.cell (j:=1) rfl
 have x2:=x.cell (j:=2) rfl
 have x3:=x.cell (j:=3) rfl
 have x4:=x.cell (j:=4) rfl
 have x5:=x.cell (j:=5) rfl
 have x6:=x.cell (j:=6) rfl
 have x7:=x.cell (j:=7) rfl
 have x8:=x.cell (j:=8) rfl
 have x9:=x.cell (j:=9) rfl
 have x10:=x.cell (j:=10) rfl
 clear x
 go_enter Tryz.func37,Tryz.ntmps37
 go_wp2_with (go_at_call 83; refine (i17_any _ _ _ _).mono ?_; rintro e w' ⟨rfl,rfl⟩)
 all_goals clear x0 x1 x2 x3 x4 x5 x6 x7 x8 x9 x10
 all_goals first
  | (go_ret
     refine⟨ret_bool ?_,(by first | exact (Below.refl _ w).alloc (Nat.le_refl _) _ | exact HBX.out)⟩
     rw [HV.out]
     symm
     have hz:=HZ.out
     have hs:=HSN.out
     first
      | (refine decide_eq_true ?_; (try simp only [beq_iff_eq,bne_iff_ne,ne_eq,Bool.not_eq_true',Bool.not_eq_false',decide_eq_false_iff_not,decide_eq_true_eq,beq_eq_false_iff_ne,bne_eq_false_iff_eq] at *); unfold mayZ; omega)
      | (refine decide_eq_false ?_; (try simp only [beq_iff_eq,bne_iff_ne,ne_eq,Bool.not_eq_true',Bool.not_eq_false',decide_eq_false_iff_not,decide_eq_true_eq,beq_eq_false_iff_ne,bne_eq_false_iff_eq] at *); unfold mayZ; omega))
end Go.Proofs.YtlpgbmaoenncjaaGreatDoor

namespace Go.Proofs.YtlpgbmaoenncjaaGreatDoor
open Go.RowKit
set_option linter.unusedVariables false
set_option linter.unusedSimpArgs false
set_option maxRecDepth 100000 in
set_option maxHeartbeats 1000000 in
theorem rMay4t (fr ds tm ix lt cm:Int) (rs:List Rc) (sn:ByteArray) (vs:List Int) (ar:Option Addr) (nr cr:Nat) (av:Option Addr) (nv cv:Nat) (w:World) (h:MsAt w ⟨4,fr,ds,tm,true,ix,lt,rs,cm,sn,vs⟩ ar nr cr av nv cv) (v:Bool) (hv:Hid (v=mayM ⟨4,fr,ds,tm,true,ix,lt,rs,cm,sn,vs⟩)) :
 Calls Tryz.prog 37 #[.agg #[.int .i64 4,.int .i64 fr,.int .i64 ds,.int .i64 tm,.bool true,.int .i64 ix,.int .i64 lt,.slice ar nr cr,.int .i64 cm,.string sn,.slice av nv cv]] w fun e w'=>e = .returned (.bool v)∧Below w.heap.size w w':=by
 have HB0:=Lib.hid ((Below.refl _ w).alloc (Nat.le_refl _) (.cells #[.int .i64 4,.int .i64 fr,.int .i64 ds,.int .i64 tm,.bool true,.int .i64 ix,.int .i64 lt,.slice ar nr cr,.int .i64 cm,.string sn,.slice av nv cv] 25))
 have HK0:Hid (Blk (w.alloc (.cells #[.int .i64 4,.int .i64 fr,.int .i64 ds,.int .i64 tm,.bool true,.int .i64 ix,.int .i64 lt,.slice ar nr cr,.int .i64 cm,.string sn,.slice av nv cv] 25)) w.heap.size 25 [.int .i64 4,.int .i64 fr,.int .i64 ds,.int .i64 tm,.bool true,.int .i64 ix,.int .i64 lt,.slice ar nr cr,.int .i64 cm,.string sn,.slice av nv cv]):=Lib.hid (heap_alloc_new w _)
 have HN:=Lib.hid h.rlen
 have HM:=Lib.hid h.vlen
 have H:=Lib.hid h
 obtain⟨Z,hZ⟩:∃ Z:Int,Z=(((sn:ByteArray).size:Nat):Int):=⟨_,rfl⟩
 obtain⟨rv,hrv'⟩:∃ x,x=b2i (rightV vs):=⟨_,rfl⟩
 obtain⟨al,hal'⟩:∃ x,x=b2i (termsUpto tm rs):=⟨_,rfl⟩
 obtain⟨rg,hrg'⟩:∃ x,x=b2i (rightG ix lt rs):=⟨_,rfl⟩
 have HV:Hid (v=decide (mayZ 4 fr ds tm 1 ix lt cm (nr:Int) Z (nv:Int) rv al rg)):=Lib.hid (by rw [hv.out,mayM_Z,hrv',hal',hrg',hZ,h.rlen,h.vlen]; try rfl)
 have HZ:=Lib.hid hZ
 have HRV0:=Lib.hid hrv'
 have HAL0:=Lib.hid hal'
 have HRG0:=Lib.hid hrg'
 clear hrv' hal' hrg' hZ
 have hb1:=h.nr
 have hb2:=h.nv
 clear h hv
 dsimp only at HN HM
 have be:sn.toList.isEmpty=decide (Z=0):=by rw [HZ.out]; exact emptyD sn
 have x:=HK0.out
 have x0:=x.cell (j:=0) rfl
 have x1:=x.cell (j:=1) rfl
 have x2:=x.cell (j:=2) rfl
 have x3:=x.cell (j:=3) rfl
 have x4:=x.cell (j:=4) rfl
 have x5:=x.cell (j:=5) rfl
 have x6:=x.cell (j:=6) rfl
 have x7:=x.cell (j:=7) rfl
 have x8:=x.cell (j:=8) rfl
 have x9:=x.cell (j:=9) rfl
 have x10:=x.cell (j:=10) rfl
 clear x
 go_enter Tryz.func37,Tryz.ntmps37
 go_wp2_with (go_at_call 83; refine (i17_any _ _ _ _).mono ?_; rintro e w' ⟨rfl,rfl⟩)
 all_goals clear x0 x1 x2 x3 x4 x5 x6 x7 x8 x9 x10
 all_goals first
  | (go_ret
     refine⟨ret_bool ?_,(by first | exact (Below.refl _ w).alloc (Nat.le_refl _) _ | exact HBX.out)⟩
     rw [HV.out]
     symm
     have hz:=HZ.out
     first
      | (refine decide_eq_true ?_; (try simp only [beq_iff_eq,bne_iff_ne,ne_eq,Bool.not_eq_true',Bool.not_eq_false',decide_eq_false_iff_not,decide_eq_true_eq,beq_eq_false_iff_ne,bne_eq_false_iff_eq] at *); unfold mayZ; omega)
      | (refine decide_eq_false ?_; (try simp only [beq_iff_eq,bne_iff_ne,ne_eq,Bool.not_eq_true',Bool.not_eq_false',decide_eq_false_iff_not,decide_eq_true_eq,beq_eq_false_iff_ne,bne_eq_false_iff_eq] at *); unfold mayZ; omega))
set_option maxRecDepth 100000 in
set_option maxHeartbeats 1000000 in
theorem rMay4f (fr ds tm ix lt cm:Int) (rs:List Rc) (sn:ByteArray) (vs:List Int) (ar:Option Addr) (nr cr:Nat) (av:Option Addr) (nv cv:Nat) (w:World) (h:MsAt w ⟨4,fr,ds,tm,false,ix,lt,rs,cm,sn,vs⟩ ar nr cr av nv cv) (v:Bool) (hv:Hid (v=mayM ⟨4,fr,ds,tm,false,ix,lt,rs,cm,sn,vs⟩)) :
 Calls Tryz.prog 37 #[.agg #[.int .i64 4,.int .i64 fr,.int .i64 ds,.int .i64 tm,.bool false,.int .i64 ix,.int .i64 lt,.slice ar nr cr,.int .i64 cm,.string sn,.slice av nv cv]] w fun e w'=>e = .returned (.bool v)∧Below w.heap.size w w':=by
 have HB0:=Lib.hid ((Below.refl _ w).alloc (Nat.le_refl _) (.cells #[.int .i64 4,.int .i64 fr,.int .i64 ds,.int .i64 tm,.bool false,.int .i64 ix,.int .i64 lt,.slice ar nr cr,.int .i64 cm,.string sn,.slice av nv cv] 25))
 have HK0:Hid (Blk (w.alloc (.cells #[.int .i64 4,.int .i64 fr,.int .i64 ds,.int .i64 tm,.bool false,.int .i64 ix,.int .i64 lt,.slice ar nr cr,.int .i64 cm,.string sn,.slice av nv cv] 25)) w.heap.size 25 [.int .i64 4,.int .i64 fr,.int .i64 ds,.int .i64 tm,.bool false,.int .i64 ix,.int .i64 lt,.slice ar nr cr,.int .i64 cm,.string sn,.slice av nv cv]):=Lib.hid (heap_alloc_new w _)
 have HN:=Lib.hid h.rlen
 have HM:=Lib.hid h.vlen
 have H:=Lib.hid h
 obtain⟨Z,hZ⟩:∃ Z:Int,Z=(((sn:ByteArray).size:Nat):Int):=⟨_,rfl⟩
 obtain⟨rv,hrv'⟩:∃ x,x=b2i (rightV vs):=⟨_,rfl⟩
 obtain⟨al,hal'⟩:∃ x,x=b2i (termsUpto tm rs):=⟨_,rfl⟩
 obtain⟨rg,hrg'⟩:∃ x,x=b2i (rightG ix lt rs):=⟨_,rfl⟩
 have HV:Hid (v=decide (mayZ 4 fr ds tm 0 ix lt cm (nr:Int) Z (nv:Int) rv al rg)):=Lib.hid (by rw [hv.out,mayM_Z,hrv',hal',hrg',hZ,h.rlen,h.vlen]; try rfl)
 have HZ:=Lib.hid hZ
 have HRV0:=Lib.hid hrv'
 have HAL0:=Lib.hid hal'
 have HRG0:=Lib.hid hrg'
 clear hrv' hal' hrg' hZ
 have hb1:=h.nr
 have hb2:=h.nv
 clear h hv
 dsimp only at HN HM
 have be:sn.toList.isEmpty=decide (Z=0):=by rw [HZ.out]; exact emptyD sn
 have x:=HK0.out
 have x0:=x.cell (j:=0) rfl
 have x1:=x.cell (j:=1) rfl
 have x2:=x.cell (j:=2) rfl
 have x3:=x.cell (j:=3) rfl
 have x4:=x.cell (j:=4) rfl
 have x5:=x.cell (j:=5) rfl
 have x6:=x.cell (j:=6) rfl
 have x7:=x.cell (j:=7) rfl
 have x8:=x.cell (j:=8) rfl
 have x9:=x.cell (j:=9) rfl
 have x10:=x.cell (j:=10) rfl
 clear x
 go_enter Tryz.func37,Tryz.ntmps37
 go_wp2_with (go_at_call 83; refine (i17_any _ _ _ _).mono ?_; rintro e w' ⟨rfl,rfl⟩)
 all_goals clear x0 x1 x2 x3 x4 x5 x6 x7 x8 x9 x10
 all_goals first
  | (go_ret
     refine⟨ret_bool ?_,(by first | exact (Below.refl _ w).alloc (Nat.le_refl _) _ | exact HBX.out)⟩
     rw [HV.out]
     symm
     have hz:=HZ.out
     first
      | (refine decide_eq_true ?_; (try simp only [beq_iff_eq,bne_iff_ne,ne_eq,Bool.not_eq_true',Bool.not_eq_false',decide_eq_false_iff_not,decide_eq_true_eq,beq_eq_false_iff_ne,bne_eq_false_iff_eq] at *); unfold mayZ; omega)
      | (refine decide_eq_false ?_; (try simp only [beq_iff_eq,bne_iff_ne,ne_eq,Bool.not_eq_true',Bool.not_eq_false',decide_eq_false_iff_not,decide_eq_true_eq,beq_eq_false_iff_ne,bne_eq_false_iff_eq] at *); unfold mayZ; omega))
end Go.Proofs.YtlpgbmaoenncjaaGreatDoor
