/-
  The walk of the reference's May: new blocks alone are made; the slices within reach. (Written by wip/mkmay.py.)
-/
import Derived.Test.YtlpgbmaoenncjaaGreatDoorNmD
import Derived.Test.YtlpgbmaoenncjaaGreatDoorNmEa
namespace Go.Proofs.YtlpgbmaoenncjaaGreatDoor
open Go.RowKit
set_option linter.unusedVariables false
set_option linter.unusedSimpArgs false
set_option maxRecDepth 100000 in
set_option maxHeartbeats 1000000 in
theorem rMayX (kd fr ds tm ix lt cm:Int) (rs:List Rc) (sn:ByteArray) (vs:List Int) (ar:Option Addr) (nr cr:Nat) (av:Option Addr) (nv cv:Nat) (ok:Bool) (w:World) (hkd:¬ (1≤kd∧kd≤5)) (h:MsAt w ⟨kd,fr,ds,tm,ok,ix,lt,rs,cm,sn,vs⟩ ar nr cr av nv cv) (v:Bool) (hv:Hid (v=mayM ⟨kd,fr,ds,tm,ok,ix,lt,rs,cm,sn,vs⟩)) :
 Calls Tryz.prog 37 #[.agg #[.int .i64 kd,.int .i64 fr,.int .i64 ds,.int .i64 tm,.bool ok,.int .i64 ix,.int .i64 lt,.slice ar nr cr,.int .i64 cm,.string sn,.slice av nv cv]] w fun e w'=>e = .returned (.bool v)∧Below w.heap.size w w':=by
 have HB0:=Lib.hid ((Below.refl _ w).alloc (Nat.le_refl _) (.cells #[.int .i64 kd,.int .i64 fr,.int .i64 ds,.int .i64 tm,.bool ok,.int .i64 ix,.int .i64 lt,.slice ar nr cr,.int .i64 cm,.string sn,.slice av nv cv] 25))
 have HK0:Hid (Blk (w.alloc (.cells #[.int .i64 kd,.int .i64 fr,.int .i64 ds,.int .i64 tm,.bool ok,.int .i64 ix,.int .i64 lt,.slice ar nr cr,.int .i64 cm,.string sn,.slice av nv cv] 25)) w.heap.size 25 [.int .i64 kd,.int .i64 fr,.int .i64 ds,.int .i64 tm,.bool ok,.int .i64 ix,.int .i64 lt,.slice ar nr cr,.int .i64 cm,.string sn,.slice av nv cv]):=Lib.hid (heap_alloc_new w _)
 have HN:=Lib.hid h.rlen
 have HM:=Lib.hid h.vlen
 have H:=Lib.hid h
 obtain⟨Z,hZ⟩:∃ Z:Int,Z=(((sn:ByteArray).size:Nat):Int):=⟨_,rfl⟩
 obtain⟨rv,hrv'⟩:∃ x,x=b2i (rightV vs):=⟨_,rfl⟩
 obtain⟨al,hal'⟩:∃ x,x=b2i (termsUpto tm rs):=⟨_,rfl⟩
 obtain⟨rg,hrg'⟩:∃ x,x=b2i (rightG ix lt rs):=⟨_,rfl⟩
 have HV:Hid (v=decide (mayZ kd fr ds tm (b2i ok) ix lt cm (nr:Int) Z (nv:Int) rv al rg)):=Lib.hid (by rw [hv.out,mayM_Z,hrv',hal',hrg',hZ,h.rlen,h.vlen]; try rfl)
 have HZ:=Lib.hid hZ
 have HRV0:=Lib.hid hrv'
 have HAL0:=Lib.hid hal'
 have HRG0:=Lib.hid hrg'
 clear hrv' hal' hrg' hZ
 have hb1:=h.nr
 have hb2:=h.nv
 clear h hv
 dsimp only at HN HM
 have x:=HK0.out
 have x0:=x.cell (j:=0) rfl
 have x1:=x.cell (j:=1) rfl
 have x2:=x.cell (j:=2) rfl
 have x3:=x.cell (j:=3) rfl
 have x4:=x.cell (j:=4) rfl
 have x5:=x.cell (j:=5) rfl
 have x6:=x.cell (j:=6) rfl
 have x7:=x.cell (j:=7) rfl
 have x8:=x.cell (j:=8) rfl
 have x9:=x.cell (j:=9) rfl
 have x10:=x.cell (j:=10) rfl
 clear x
 go_enter Tryz.func37,Tryz.ntmps37
 obtain rfl:v=false:=by rw [HV.out]; exact decide_eq_false (fun hc=>hkd hc.1)
 go_wp2_with (go_at_call 83; refine (i17_any _ _ _ _).mono ?_; rintro e w' ⟨rfl,rfl⟩)
 go_ret
 exact⟨rfl,HB0.out⟩
set_option maxRecDepth 100000 in
set_option maxHeartbeats 1000000 in
theorem rMay5tt (fr ds tm ix lt cm:Int) (rs:List Rc) (sn:ByteArray) (vs:List Int) (ar:Option Addr) (nr cr:Nat) (av:Option Addr) (nv cv:Nat) (w:World)  (hrv:rightV vs=true)(h:MsAt w ⟨5,fr,ds,tm,true,ix,lt,rs,cm,sn,vs⟩ ar nr cr av nv cv) (v:Bool) (hv:Hid (v=mayM ⟨5,fr,ds,tm,true,ix,lt,rs,cm,sn,vs⟩)) :
 Calls Tryz.prog 37 #[.agg #[.int .i64 5,.int .i64 fr,.int .i64 ds,.int .i64 tm,.bool true,.int .i64 ix,.int .i64 lt,.slice ar nr cr,.int .i64 cm,.string sn,.slice av nv cv]] w fun e w'=>e = .returned (.bool v)∧Below w.heap.size w w':=by
 have HB0:=Lib.hid ((Below.refl _ w).alloc (Nat.le_refl _) (.cells #[.int .i64 5,.int .i64 fr,.int .i64 ds,.int .i64 tm,.bool true,.int .i64 ix,.int .i64 lt,.slice ar nr cr,.int .i64 cm,.string sn,.slice av nv cv] 25))
 have HK0:Hid (Blk (w.alloc (.cells #[.int .i64 5,.int .i64 fr,.int .i64 ds,.int .i64 tm,.bool true,.int .i64 ix,.int .i64 lt,.slice ar nr cr,.int .i64 cm,.string sn,.slice av nv cv] 25)) w.heap.size 25 [.int .i64 5,.int .i64 fr,.int .i64 ds,.int .i64 tm,.bool true,.int .i64 ix,.int .i64 lt,.slice ar nr cr,.int .i64 cm,.string sn,.slice av nv cv]):=Lib.hid (heap_alloc_new w _)
 have HN:=Lib.hid h.rlen
 have HM:=Lib.hid h.vlen
 have H:=Lib.hid h
 obtain⟨Z,hZ⟩:∃ Z:Int,Z=(((sn:ByteArray).size:Nat):Int):=⟨_,rfl⟩
 obtain⟨rv,hrv'⟩:∃ x,x=b2i (rightV vs):=⟨_,rfl⟩
 obtain⟨al,hal'⟩:∃ x,x=b2i (termsUpto tm rs):=⟨_,rfl⟩
 obtain⟨rg,hrg'⟩:∃ x,x=b2i (rightG ix lt rs):=⟨_,rfl⟩
 have HV:Hid (v=decide (mayZ 5 fr ds tm 1 ix lt cm (nr:Int) Z (nv:Int) rv al rg)):=Lib.hid (by rw [hv.out,mayM_Z,hrv',hal',hrg',hZ,h.rlen,h.vlen]; try rfl)
 have HZ:=Lib.hid hZ
 have HRV0:=Lib.hid hrv'
 have HAL0:=Lib.hid hal'
 have HRG0:=Lib.hid hrg'
 clear hrv' hal' hrg' hZ
 have hb1:=h.nr
 have hb2:=h.nv
 clear h hv
 dsimp only at HN HM
 have be:sn.toList.isEmpty=decide (Z=0):=by rw [HZ.out]; exact emptyD sn
 have hrr:=Lib.hid (fun (W:World) (hw:Below w.heap.size w W)=>rRight_any av nv cv vs W (H.out.voters.keep hw) hb2 true (Lib.hid hrv.symm))
 obtain rfl:rv=1:=by rw [HRV0.out,hrv]; rfl
 clear hrv
 have x:=HK0.out
 have x0:=x.cell (j:=0) rfl
 have x1:=x.cell (j:=1) rfl
 have x2:=x.cell (j:=2) rfl
 have x3:=x.cell (j:=3) rfl
 have x4:=x.cell (j:=4) rfl
 have x5:=x.cell (j:=5) rfl
 have x6:=x.cell (j:=6) rfl
 have x7:=x.cell (j:=7) rfl
 have x8:=x.cell (j:=8) rfl
 have x9:=x.cell (j:=9) rfl
 have x10:=x.cell (j:=10) rfl
 clear x
 go_enter Tryz.func37,Tryz.ntmps37
 go_wp2_with (first | (go_at_call 83; refine (i17_any _ _ _ _).mono ?_; rintro e w' ⟨rfl,rfl⟩) | (go_at_call 84; refine (hrr.out _ ((Below.refl _ w).alloc (Nat.le_refl _) _)).mono ?_; rintro e w' ⟨rfl,hbx⟩; have HBX:=Lib.hid (below_then ((Below.refl _ w).alloc (Nat.le_refl _) _) hbx (by simp)); clear hbx))
 all_goals clear x0 x1 x2 x3 x4 x5 x6 x7 x8 x9 x10
 all_goals first
  | (go_ret
     refine⟨ret_bool ?_,(by first | exact (Below.refl _ w).alloc (Nat.le_refl _) _ | exact HBX.out)⟩
     rw [HV.out]
     symm
     have hz:=HZ.out
     first
      | (refine decide_eq_true ?_; (try simp only [beq_iff_eq,bne_iff_ne,ne_eq,Bool.not_eq_true',Bool.not_eq_false',decide_eq_false_iff_not,decide_eq_true_eq,beq_eq_false_iff_ne,bne_eq_false_iff_eq] at *); unfold mayZ; omega)
      | (refine decide_eq_false ?_; (try simp only [beq_iff_eq,bne_iff_ne,ne_eq,Bool.not_eq_true',Bool.not_eq_false',decide_eq_false_iff_not,decide_eq_true_eq,beq_eq_false_iff_ne,bne_eq_false_iff_eq] at *); unfold mayZ; omega))
set_option maxRecDepth 100000 in
set_option maxHeartbeats 1000000 in
theorem rMay5tf (fr ds tm ix lt cm:Int) (rs:List Rc) (sn:ByteArray) (vs:List Int) (ar:Option Addr) (nr cr:Nat) (av:Option Addr) (nv cv:Nat) (w:World)  (hrv:rightV vs=false)(h:MsAt w ⟨5,fr,ds,tm,true,ix,lt,rs,cm,sn,vs⟩ ar nr cr av nv cv) (v:Bool) (hv:Hid (v=mayM ⟨5,fr,ds,tm,true,ix,lt,rs,cm,sn,vs⟩)) :
 Calls Tryz.prog 37 #[.agg #[.int .i64 5,.int .i64 fr,.int .i64 ds,.int .i64 tm,.bool true,.int .i64 ix,.int .i64 lt,.slice ar nr cr,.int .i64 cm,.string sn,.slice av nv cv]] w fun e w'=>e = .returned (.bool v)∧Below w.heap.size w w':=by
 have HB0:=Lib.hid ((Below.refl _ w).alloc (Nat.le_refl _) (.cells #[.int .i64 5,.int .i64 fr,.int .i64 ds,.int .i64 tm,.bool true,.int .i64 ix,.int .i64 lt,.slice ar nr cr,.int .i64 cm,.string sn,.slice av nv cv] 25))
 have HK0:Hid (Blk (w.alloc (.cells #[.int .i64 5,.int .i64 fr,.int .i64 ds,.int .i64 tm,.bool true,.int .i64 ix,.int .i64 lt,.slice ar nr cr,.int .i64 cm,.string sn,.slice av nv cv] 25)) w.heap.size 25 [.int .i64 5,.int .i64 fr,.int .i64 ds,.int .i64 tm,.bool true,.int .i64 ix,.int .i64 lt,.slice ar nr cr,.int .i64 cm,.string sn,.slice av nv cv]):=Lib.hid (heap_alloc_new w _)
 have HN:=Lib.hid h.rlen
 have HM:=Lib.hid h.vlen
 have H:=Lib.hid h
 obtain⟨Z,hZ⟩:∃ Z:Int,Z=(((sn:ByteArray).size:Nat):Int):=⟨_,rfl⟩
 obtain⟨rv,hrv'⟩:∃ x,x=b2i (rightV vs):=⟨_,rfl⟩
 obtain⟨al,hal'⟩:∃ x,x=b2i (termsUpto tm rs):=⟨_,rfl⟩
 obtain⟨rg,hrg'⟩:∃ x,x=b2i (rightG ix lt rs):=⟨_,rfl⟩
 have HV:Hid (v=decide (mayZ 5 fr ds tm 1 ix lt cm (nr:Int) Z (nv:Int) rv al rg)):=Lib.hid (by rw [hv.out,mayM_Z,hrv',hal',hrg',hZ,h.rlen,h.vlen]; try rfl)
 have HZ:=Lib.hid hZ
 have HRV0:=Lib.hid hrv'
 have HAL0:=Lib.hid hal'
 have HRG0:=Lib.hid hrg'
 clear hrv' hal' hrg' hZ
 have hb1:=h.nr
 have hb2:=h.nv
 clear h hv
 dsimp only at HN HM
 have be:sn.toList.isEmpty=decide (Z=0):=by rw [HZ.out]; exact emptyD sn
 have hrr:=Lib.hid (fun (W:World) (hw:Below w.heap.size w W)=>rRight_any av nv cv vs W (H.out.voters.keep hw) hb2 false (Lib.hid hrv.symm))
 obtain rfl:rv=0:=by rw [HRV0.out,hrv]; rfl
 clear hrv
 have x:=HK0.out
 have x0:=x.cell (j:=0) rfl
 have x1:=x.cell (j:=1) rfl
 have x2:=x.cell (j:=2) rfl
 have x3:=x.cell (j:=3) rfl
 have x4:=x.cell (j:=4) rfl
 have x5:=x.cell (j:=5) rfl
 have x6:=x.cell (j:=6) rfl
 have x7:=x.cell (j:=7) rfl
 have x8:=x.cell (j:=8) rfl
 have x9:=x.cell (j:=9) rfl
 have x10:=x.cell (j:=10) rfl
 clear x
 go_enter Tryz.func37,Tryz.ntmps37
 go_wp2_with (first | (go_at_call 83; refine (i17_any _ _ _ _).mono ?_; rintro e w' ⟨rfl,rfl⟩) | (go_at_call 84; refine (hrr.out _ ((Below.refl _ w).alloc (Nat.le_refl _) _)).mono ?_; rintro e w' ⟨rfl,hbx⟩; have HBX:=Lib.hid (below_then ((Below.refl _ w).alloc (Nat.le_refl _) _) hbx (by simp)); clear hbx))
 all_goals clear x0 x1 x2 x3 x4 x5 x6 x7 x8 x9 x10
 all_goals first
  | (go_ret
     refine⟨ret_bool ?_,(by first | exact (Below.refl _ w).alloc (Nat.le_refl _) _ | exact HBX.out)⟩
     rw [HV.out]
     symm
     have hz:=HZ.out
     first
      | (refine decide_eq_true ?_; (try simp only [beq_iff_eq,bne_iff_ne,ne_eq,Bool.not_eq_true',Bool.not_eq_false',decide_eq_false_iff_not,decide_eq_true_eq,beq_eq_false_iff_ne,bne_eq_false_iff_eq] at *); unfold mayZ; omega)
      | (refine decide_eq_false ?_; (try simp only [beq_iff_eq,bne_iff_ne,ne_eq,Bool.not_eq_true',Bool.not_eq_false',decide_eq_false_iff_not,decide_eq_true_eq,beq_eq_false_iff_ne,bne_eq_false_iff_eq] at *); unfold mayZ; omega))
set_option maxRecDepth 100000 in
set_option maxHeartbeats 1000000 in
theorem rMay5ft (fr ds tm ix lt cm:Int) (rs:List Rc) (sn:ByteArray) (vs:List Int) (ar:Option Addr) (nr cr:Nat) (av:Option Addr) (nv cv:Nat) (w:World)  (hrv:rightV vs=true)(h:MsAt w ⟨5,fr,ds,tm,false,ix,lt,rs,cm,sn,vs⟩ ar nr cr av nv cv) (v:Bool) (hv:Hid (v=mayM ⟨5,fr,ds,tm,false,ix,lt,rs,cm,sn,vs⟩)) :
 Calls Tryz.prog 37 #[.agg #[.int .i64 5,.int .i64 fr,.int .i64 ds,.int .i64 tm,.bool false,.int .i64 ix,.int .i64 lt,.slice ar nr cr,.int .i64 cm,.string sn,.slice av nv cv]] w fun e w'=>e = .returned (.bool v)∧Below w.heap.size w w':=by
 have HB0:=Lib.hid ((Below.refl _ w).alloc (Nat.le_refl _) (.cells #[.int .i64 5,.int .i64 fr,.int .i64 ds,.int .i64 tm,.bool false,.int .i64 ix,.int .i64 lt,.slice ar nr cr,.int .i64 cm,.string sn,.slice av nv cv] 25))
 have HK0:Hid (Blk (w.alloc (.cells #[.int .i64 5,.int .i64 fr,.int .i64 ds,.int .i64 tm,.bool false,.int .i64 ix,.int .i64 lt,.slice ar nr cr,.int .i64 cm,.string sn,.slice av nv cv] 25)) w.heap.size 25 [.int .i64 5,.int .i64 fr,.int .i64 ds,.int .i64 tm,.bool false,.int .i64 ix,.int .i64 lt,.slice ar nr cr,.int .i64 cm,.string sn,.slice av nv cv]):=Lib.hid (heap_alloc_new w _)
 have HN:=Lib.hid h.rlen
 have HM:=Lib.hid h.vlen
 have H:=Lib.hid h
 obtain⟨Z,hZ⟩:∃ Z:Int,Z=(((sn:ByteArray).size:Nat):Int):=⟨_,rfl⟩
 obtain⟨rv,hrv'⟩:∃ x,x=b2i (rightV vs):=⟨_,rfl⟩
 obtain⟨al,hal'⟩:∃ x,x=b2i (termsUpto tm rs):=⟨_,rfl⟩
 obtain⟨rg,hrg'⟩:∃ x,x=b2i (rightG ix lt rs):=⟨_,rfl⟩
 have HV:Hid (v=decide (mayZ 5 fr ds tm 0 ix lt cm (nr:Int) Z (nv:Int) rv al rg)):=Lib.hid (by rw [hv.out,mayM_Z,hrv',hal',hrg',hZ,h.rlen,h.vlen]; try rfl)
 have HZ:=Lib.hid hZ
 have HRV0:=Lib.hid hrv'
 have HAL0:=Lib.hid hal'
 have HRG0:=Lib.hid hrg'
 clear hrv' hal' hrg' hZ
 have hb1:=h.nr
 have hb2:=h.nv
 clear h hv
 dsimp only at HN HM
 have be:sn.toList.isEmpty=decide (Z=0):=by rw [HZ.out]; exact emptyD sn
 have hrr:=Lib.hid (fun (W:World) (hw:Below w.heap.size w W)=>rRight_any av nv cv vs W (H.out.voters.keep hw) hb2 true (Lib.hid hrv.symm))
 obtain rfl:rv=1:=by rw [HRV0.out,hrv]; rfl
 clear hrv
 have x:=HK0.out
 have x0:=x.cell (j:=0) rfl
 have x1:=x.cell (j:=1) rfl
 have x2:=x.cell (j:=2) rfl
 have x3:=x.cell (j:=3) rfl
 have x4:=x.cell (j:=4) rfl
 have x5:=x.cell (j:=5) rfl
 have x6:=x.cell (j:=6) rfl
 have x7:=x.cell (j:=7) rfl
 have x8:=x.cell (j:=8) rfl
 have x9:=x.cell (j:=9) rfl
 have x10:=x.cell (j:=10) rfl
 clear x
 go_enter Tryz.func37,Tryz.ntmps37
 go_wp2_with (first | (go_at_call 83; refine (i17_any _ _ _ _).mono ?_; rintro e w' ⟨rfl,rfl⟩) | (go_at_call 84; refine (hrr.out _ ((Below.refl _ w).alloc (Nat.le_refl _) _)).mono ?_; rintro e w' ⟨rfl,hbx⟩; have HBX:=Lib.hid (below_then ((Below.refl _ w).alloc (Nat.le_refl _) _) hbx (by simp)); clear hbx))
 all_goals clear x0 x1 x2 x3 x4 x5 x6 x7 x8 x9 x10
 all_goals first
  | (go_ret
     refine⟨ret_bool ?_,(by first | exact (Below.refl _ w).alloc (Nat.le_refl _) _ | exact HBX.out)⟩
     rw [HV.out]
     symm
     have hz:=HZ.out
     first
      | (refine decide_eq_true ?_; (try simp only [beq_iff_eq,bne_iff_ne,ne_eq,Bool.not_eq_true',Bool.not_eq_false',decide_eq_false_iff_not,decide_eq_true_eq,beq_eq_false_iff_ne,bne_eq_false_iff_eq] at *); unfold mayZ; omega)
      | (refine decide_eq_false ?_; (try simp only [beq_iff_eq,bne_iff_ne,ne_eq,Bool.not_eq_true',Bool.not_eq_false',decide_eq_false_iff_not,decide_eq_true_eq,beq_eq_false_iff_ne,bne_eq_false_iff_eq] at *); unfold mayZ; omega))
set_option maxRecDepth 100000 in
set_option maxHeartbeats 1000000 in
theorem rMay5ff (fr ds tm ix lt cm:Int) (rs:List Rc) (sn:ByteArray) (vs:List Int) (ar:Option Addr) (nr cr:Nat) (av:Option Addr) (nv cv:Nat) (w:World)  (hrv:rightV vs=false)(h:MsAt w ⟨5,fr,ds,tm,false,ix,lt,rs,cm,sn,vs⟩ ar nr cr av nv cv) (v:Bool) (hv:Hid (v=mayM ⟨5,fr,ds,tm,false,ix,lt,rs,cm,sn,vs⟩)) :
 Calls Tryz.prog 37 #[.agg #[.int .i64 5,.int .i64 fr,.int .i64 ds,.int .i64 tm,.bool false,.int .i64 ix,.int .i64 lt,.slice ar nr cr,.int .i64 cm,.string sn,.slice av nv cv]] w fun e w'=>e = .returned (.bool v)∧Below w.heap.size w w':=by
 have HB0:=Lib.hid ((Below.refl _ w).alloc (Nat.le_refl _) (.cells #[.int .i64 5,.int .i64 fr,.int .i64 ds,.int .i64 tm,.bool false,.int .i64 ix,.int .i64 lt,.slice ar nr cr,.int .i64 cm,.string sn,.slice av nv cv] 25))
 have HK0:Hid (Blk (w.alloc (.cells #[.int .i64 5,.int .i64 fr,.int .i64 ds,.int .i64 tm,.bool false,.int .i64 ix,.int .i64 lt,.slice ar nr cr,.int .i64 cm,.string sn,.slice av nv cv] 25)) w.heap.size 25 [.int .i64 5,.int .i64 fr,.int .i64 ds,.int .i64 tm,.bool false,.int .i64 ix,.int .i64 lt,.slice ar nr cr,.int .i64 cm,.string sn,.slice av nv cv]):=Lib.hid (heap_alloc_new w _)
 have HN:=Lib.hid h.rlen
 have HM:=Lib.hid h.vlen
 have H:=Lib.hid h
 obtain⟨Z,hZ⟩:∃ Z:Int,Z=(((sn:ByteArray).size:Nat):Int):=⟨_,rfl⟩
 obtain⟨rv,hrv'⟩:∃ x,x=b2i (rightV vs):=⟨_,rfl⟩
 obtain⟨al,hal'⟩:∃ x,x=b2i (termsUpto tm rs):=⟨_,rfl⟩
 obtain⟨rg,hrg'⟩:∃ x,x=b2i (rightG ix lt rs):=⟨_,rfl⟩
 have HV:Hid (v=decide (mayZ 5 fr ds tm 0 ix lt cm (nr:Int) Z (nv:Int) rv al rg)):=Lib.hid (by rw [hv.out,mayM_Z,hrv',hal',hrg',hZ,h.rlen,h.vlen]; try rfl)
 have HZ:=Lib.hid hZ
 have HRV0:=Lib.hid hrv'
 have HAL0:=Lib.hid hal'
 have HRG0:=Lib.hid hrg'
 clear hrv' hal' hrg' hZ
 have hb1:=h.nr
 have hb2:=h.nv
 clear h hv
 dsimp only at HN HM
 have be:sn.toList.isEmpty=decide (Z=0):=by rw [HZ.out]; exact emptyD sn
 have hrr:=Lib.hid (fun (W:World) (hw:Below w.heap.size w W)=>rRight_any av nv cv vs W (H.out.voters.keep hw) hb2 false (Lib.hid hrv.symm))
 obtain rfl:rv=0:=by rw [HRV0.out,hrv]; rfl
 clear hrv
 have x:=HK0.out
 have x0:=x.cell (j:=0) rfl
 have x1:=x.cell (j:=1) rfl
 have x2:=x.cell (j:=2) rfl
 have x3:=x.cell (j:=3) rfl
 have x4:=x.cell (j:=4) rfl
 have x5:=x.cell (j:=5) rfl
 have x6:=x.cell (j:=6) rfl
 have x7:=x.cell (j:=7) rfl
 have x8:=x.cell (j:=8) rfl
 have x9:=x.cell (j:=9) rfl
 have x10:=x.cell (j:=10) rfl
 clear x
 go_enter Tryz.func37,Tryz.ntmps37
 go_wp2_with (first | (go_at_call 83; refine (i17_any _ _ _ _).mono ?_; rintro e w' ⟨rfl,rfl⟩) | (go_at_call 84; refine (hrr.out _ ((Below.refl _ w).alloc (Nat.le_refl _) _)).mono ?_; rintro e w' ⟨rfl,hbx⟩; have HBX:=Lib.hid (below_then ((Below.refl _ w).alloc (Nat.le_refl _) _) hbx (by simp)); clear hbx))
 all_goals clear x0 x1 x2 x3 x4 x5 x6 x7 x8 x9 x10
 all_goals first
  | (go_ret
     refine⟨ret_bool ?_,(by first | exact (Below.refl _ w).alloc (Nat.le_refl _) _ | exact HBX.out)⟩
     rw [HV.out]
     symm
     have hz:=HZ.out
     first
      | (refine decide_eq_true ?_; (try simp only [beq_iff_eq,bne_iff_ne,ne_eq,Bool.not_eq_true',Bool.not_eq_false',decide_eq_false_iff_not,decide_eq_true_eq,beq_eq_false_iff_ne,bne_eq_false_iff_eq] at *); unfold mayZ; omega)
      | (refine decide_eq_false ?_; (try simp only [beq_iff_eq,bne_iff_ne,ne_eq,Bool.not_eq_true',Bool.not_eq_false',decide_eq_false_iff_not,decide_eq_true_eq,beq_eq_false_iff_ne,bne_eq_false_iff_eq] at *); unfold mayZ; omega))
end Go.Proofs.YtlpgbmaoenncjaaGreatDoor
