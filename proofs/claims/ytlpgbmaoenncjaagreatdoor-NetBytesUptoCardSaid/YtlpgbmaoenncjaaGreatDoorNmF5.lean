/-
  The walk of elect.May at messages of the kind 5: new blocks alone are made; the slices within reach. (Written by wip/mkemay.py.)
-/
import Derived.Test.YtlpgbmaoenncjaaGreatDoorNmEa
import Derived.Deep.CutBlock
import Derived.BigRegion
import Derived.Test.YtlpgbmaoenncjaaGreatDoorGen
namespace Go.Proofs.YtlpgbmaoenncjaaGreatDoor
open Go.RowKit
set_option linter.unusedVariables false
set_option linter.unusedSimpArgs false
theorem emptyP5 (s:ByteArray) (Z:Int) (h:Z=(s.size:Int)):(s.toList=[])=(Z=0):=by
 have h1:=emptyD s
 apply propext
 constructor
 ·intro he
  rw [he] at h1
  have:=of_decide_eq_true h1.symm
  omega
 ·intro he
  rw [decide_eq_true (by omega)] at h1
  exact List.isEmpty_iff.1 h1
theorem ew5_any (n lo hi:Int) (w:World):Calls Tryz.prog 73 #[.int .i64 n,.int .i64 lo,.int .i64 hi] w fun e w'=>e = .returned (.bool (decide (lo≤n)&&decide (n≤hi)))∧w=w':=eWithin_any n lo hi w _ (Lib.hid rfl)
set_option maxRecDepth 100000 in
set_option maxHeartbeats 4000000 in
theorem eMay5tt (fr ds tm ix lt cm:Int) (rs:List Rc) (sn:ByteArray) (vs:List Int) (ar:Option Addr) (nr cr:Nat) (av:Option Addr) (nv cv:Nat) (w:World) (hrv:rightV vs=true) (h:MsAt w ⟨5,fr,ds,tm,true,ix,lt,rs,cm,sn,vs⟩ ar nr cr av nv cv) (v:Bool) (hv:Hid (v=mayM ⟨5,fr,ds,tm,true,ix,lt,rs,cm,sn,vs⟩)) :
 Calls Tryz.prog 32 #[.agg #[.int .i64 5,.int .i64 fr,.int .i64 ds,.int .i64 tm,.bool true,.int .i64 ix,.int .i64 lt,.slice ar nr cr,.int .i64 cm,.string sn,.slice av nv cv]] w fun e w'=>e = .returned (.bool v)∧Below w.heap.size w w':=by
 have HB0:=Lib.hid (((Below.refl w.heap.size w).alloc (Nat.le_refl _) (.cells #[.int .i64 5,.int .i64 fr,.int .i64 ds,.int .i64 tm,.bool true,.int .i64 ix,.int .i64 lt,.slice ar nr cr,.int .i64 cm,.string sn,.slice av nv cv] 25)).alloc (by simp) (.cells #[.int .i64 5,.int .i64 fr,.int .i64 ds,.int .i64 tm,.bool false,.int .i64 0,.int .i64 0,.slice none 0 0,.int .i64 0,.string ⟨#[]⟩,.slice none 0 0] 25))
 have HB1:=Lib.hid ((Below.refl w.heap.size w).alloc (Nat.le_refl _) (.cells #[.int .i64 5,.int .i64 fr,.int .i64 ds,.int .i64 tm,.bool true,.int .i64 ix,.int .i64 lt,.slice ar nr cr,.int .i64 cm,.string sn,.slice av nv cv] 25))
 have HK0:Hid (Blk (w.alloc (.cells #[.int .i64 5,.int .i64 fr,.int .i64 ds,.int .i64 tm,.bool true,.int .i64 ix,.int .i64 lt,.slice ar nr cr,.int .i64 cm,.string sn,.slice av nv cv] 25)) w.heap.size 25 [.int .i64 5,.int .i64 fr,.int .i64 ds,.int .i64 tm,.bool true,.int .i64 ix,.int .i64 lt,.slice ar nr cr,.int .i64 cm,.string sn,.slice av nv cv]):=Lib.hid (heap_alloc_new w _)
 have HK1:Hid (Blk ((w.alloc (.cells #[.int .i64 5,.int .i64 fr,.int .i64 ds,.int .i64 tm,.bool true,.int .i64 ix,.int .i64 lt,.slice ar nr cr,.int .i64 cm,.string sn,.slice av nv cv] 25)).alloc (.cells #[.int .i64 5,.int .i64 fr,.int .i64 ds,.int .i64 tm,.bool false,.int .i64 0,.int .i64 0,.slice none 0 0,.int .i64 0,.string ⟨#[]⟩,.slice none 0 0] 25)) w.heap.size 25 [.int .i64 5,.int .i64 fr,.int .i64 ds,.int .i64 tm,.bool true,.int .i64 ix,.int .i64 lt,.slice ar nr cr,.int .i64 cm,.string sn,.slice av nv cv]):=Lib.hid (HK0.out.alloc _)
 have HK2:Hid (Blk ((w.alloc (.cells #[.int .i64 5,.int .i64 fr,.int .i64 ds,.int .i64 tm,.bool true,.int .i64 ix,.int .i64 lt,.slice ar nr cr,.int .i64 cm,.string sn,.slice av nv cv] 25)).alloc (.cells #[.int .i64 5,.int .i64 fr,.int .i64 ds,.int .i64 tm,.bool false,.int .i64 0,.int .i64 0,.slice none 0 0,.int .i64 0,.string ⟨#[]⟩,.slice none 0 0] 25)) (w.heap.size+1) 25 [.int .i64 5,.int .i64 fr,.int .i64 ds,.int .i64 tm,.bool false,.int .i64 0,.int .i64 0,.slice none 0 0,.int .i64 0,.string ⟨#[]⟩,.slice none 0 0]):=Lib.hid (by
  have hz:=heap_alloc_new (w.alloc (.cells #[.int .i64 5,.int .i64 fr,.int .i64 ds,.int .i64 tm,.bool true,.int .i64 ix,.int .i64 lt,.slice ar nr cr,.int .i64 cm,.string sn,.slice av nv cv] 25)) (.cells #[.int .i64 5,.int .i64 fr,.int .i64 ds,.int .i64 tm,.bool false,.int .i64 0,.int .i64 0,.slice none 0 0,.int .i64 0,.string ⟨#[]⟩,.slice none 0 0] 25)
  rw [World.size_alloc] at hz
  exact hz)
 have HS2:Hid (((w.alloc (.cells #[.int .i64 5,.int .i64 fr,.int .i64 ds,.int .i64 tm,.bool true,.int .i64 ix,.int .i64 lt,.slice ar nr cr,.int .i64 cm,.string sn,.slice av nv cv] 25)).alloc (.cells #[.int .i64 5,.int .i64 fr,.int .i64 ds,.int .i64 tm,.bool false,.int .i64 0,.int .i64 0,.slice none 0 0,.int .i64 0,.string ⟨#[]⟩,.slice none 0 0] 25)).heap.size=w.heap.size+2):=Lib.hid (by simp)
 have HN:=Lib.hid h.rlen
 have HM:=Lib.hid h.vlen
 have H:=Lib.hid h
 obtain⟨Z,hZ⟩:∃ Z:Int,Z=(((sn:ByteArray).size:Nat):Int):=⟨_,rfl⟩
 obtain⟨rv,hrv'⟩:∃ x,x=b2i (rightV vs):=⟨_,rfl⟩
 obtain⟨al,hal'⟩:∃ x,x=b2i (termsUpto tm rs):=⟨_,rfl⟩
 obtain⟨rg,hrg'⟩:∃ x,x=b2i (rightG ix lt rs):=⟨_,rfl⟩
 have HV:Hid (v=decide (mayZ 5 fr ds tm 1 ix lt cm (nr:Int) Z (nv:Int) rv al rg)):=Lib.hid (by rw [hv.out,mayM_Z,hrv',hal',hrg',hZ,h.rlen,h.vlen]; try rfl)
 have HZ:=Lib.hid hZ
 have HRV0:=Lib.hid hrv'
 have HAL0:=Lib.hid hal'
 have HRG0:=Lib.hid hrg'
 clear hrv' hal' hrg' hZ
 have hb1:=h.nr
 have hb2:=h.nv
 clear h hv
 dsimp only at HN HM
 have HQ1:Hid (Blk (((w.alloc (.cells #[.int .i64 5,.int .i64 fr,.int .i64 ds,.int .i64 tm,.bool true,.int .i64 ix,.int .i64 lt,.slice ar nr cr,.int .i64 cm,.string sn,.slice av nv cv] 25)).alloc (.cells #[.int .i64 5,.int .i64 fr,.int .i64 ds,.int .i64 tm,.bool false,.int .i64 ix,.int .i64 lt,.slice none 0 0,.int .i64 0,.string sn,.slice none 0 0] 25)).drew) w.heap.size 25 [.int .i64 5,.int .i64 fr,.int .i64 ds,.int .i64 tm,.bool true,.int .i64 ix,.int .i64 lt,.slice ar nr cr,.int .i64 cm,.string sn,.slice av nv cv]):=Lib.hid (HK0.out.alloc (.cells #[.int .i64 5,.int .i64 fr,.int .i64 ds,.int .i64 tm,.bool false,.int .i64 ix,.int .i64 lt,.slice none 0 0,.int .i64 0,.string sn,.slice none 0 0] 25))
 have HQ2:Hid (Blk (((w.alloc (.cells #[.int .i64 5,.int .i64 fr,.int .i64 ds,.int .i64 tm,.bool true,.int .i64 ix,.int .i64 lt,.slice ar nr cr,.int .i64 cm,.string sn,.slice av nv cv] 25)).alloc (.cells #[.int .i64 5,.int .i64 fr,.int .i64 ds,.int .i64 tm,.bool false,.int .i64 ix,.int .i64 lt,.slice none 0 0,.int .i64 0,.string sn,.slice none 0 0] 25)).drew) (w.heap.size+1) 25 [.int .i64 5,.int .i64 fr,.int .i64 ds,.int .i64 tm,.bool false,.int .i64 ix,.int .i64 lt,.slice none 0 0,.int .i64 0,.string sn,.slice none 0 0]):=Lib.hid (by
  have hz:=heap_alloc_new (w.alloc (.cells #[.int .i64 5,.int .i64 fr,.int .i64 ds,.int .i64 tm,.bool true,.int .i64 ix,.int .i64 lt,.slice ar nr cr,.int .i64 cm,.string sn,.slice av nv cv] 25)) (.cells #[.int .i64 5,.int .i64 fr,.int .i64 ds,.int .i64 tm,.bool false,.int .i64 ix,.int .i64 lt,.slice none 0 0,.int .i64 0,.string sn,.slice none 0 0] 25)
  rw [World.size_alloc] at hz
  exact hz)
 have HQB:Hid (Below w.heap.size w (((w.alloc (.cells #[.int .i64 5,.int .i64 fr,.int .i64 ds,.int .i64 tm,.bool true,.int .i64 ix,.int .i64 lt,.slice ar nr cr,.int .i64 cm,.string sn,.slice av nv cv] 25)).alloc (.cells #[.int .i64 5,.int .i64 fr,.int .i64 ds,.int .i64 tm,.bool false,.int .i64 ix,.int .i64 lt,.slice none 0 0,.int .i64 0,.string sn,.slice none 0 0] 25)).drew)):=Lib.hid ((HB1.out.alloc (by simp) (.cells #[.int .i64 5,.int .i64 fr,.int .i64 ds,.int .i64 tm,.bool false,.int .i64 ix,.int .i64 lt,.slice none 0 0,.int .i64 0,.string sn,.slice none 0 0] 25)).drew)
 have HQS:Hid (w.heap.size+1<(((w.alloc (.cells #[.int .i64 5,.int .i64 fr,.int .i64 ds,.int .i64 tm,.bool true,.int .i64 ix,.int .i64 lt,.slice ar nr cr,.int .i64 cm,.string sn,.slice av nv cv] 25)).alloc (.cells #[.int .i64 5,.int .i64 fr,.int .i64 ds,.int .i64 tm,.bool false,.int .i64 ix,.int .i64 lt,.slice none 0 0,.int .i64 0,.string sn,.slice none 0 0] 25)).drew).heap.size):=Lib.hid (by show _<(World.alloc _ _).heap.size; simp)
 have hrr:=Lib.hid (fun (W:World) (hw:Below w.heap.size w W)=>qRight_any av nv cv vs W (H.out.voters.keep hw) hb2 true (Lib.hid hrv.symm))
 obtain rfl:rv=1:=by rw [HRV0.out,hrv]; rfl
 clear hrv
 have x0:=HK0.out.cell (j:=0) rfl
 have x1:=HK0.out.cell (j:=1) rfl
 have x2:=HK0.out.cell (j:=2) rfl
 have x3:=HK0.out.cell (j:=3) rfl
 have z0:=HK1.out.cell (j:=0) rfl
 go_enter Tryz.func32,Tryz.ntmps32
 go_upto_block 0 with fail
 clear x0 x1 x2 x3 z0
 go_cut [] (fun w'=>Hid (Blk w' w.heap.size 25 [.int .i64 5,.int .i64 fr,.int .i64 ds,.int .i64 tm,.bool true,.int .i64 ix,.int .i64 lt,.slice ar nr cr,.int .i64 cm,.string sn,.slice av nv cv])∧Hid (Blk w' (w.heap.size+1) 25 [.int .i64 5,.int .i64 fr,.int .i64 ds,.int .i64 tm,.bool false,.int .i64 ix,.int .i64 lt,.slice none 0 0,.int .i64 0,.string sn,.slice none 0 0])∧Hid (Below w.heap.size w w')∧Hid (1≤ix∧1≤lt∧Z≤131072∧(1:Int)=1))
 case first =>
  have x5:=HK1.out.cell (j:=5) rfl
  have y5:=HK2.out.cell (j:=5) rfl
  have x6:=HK1.out.cell (j:=6) rfl
  have y6:=HK2.out.cell (j:=6) rfl
  have x9:=HK1.out.cell (j:=9) rfl
  have y9:=HK2.out.cell (j:=9) rfl
  go_wp2_with fail
  go_region
  clear x5 x6 x9 y5 y6 y9 HK0 HK1 HK2 HB0 HB1 HS2
  generalize ((w.alloc (.cells #[.int .i64 5,.int .i64 fr,.int .i64 ds,.int .i64 tm,.bool true,.int .i64 ix,.int .i64 lt,.slice ar nr cr,.int .i64 cm,.string sn,.slice av nv cv] 25)).alloc (.cells #[.int .i64 5,.int .i64 fr,.int .i64 ds,.int .i64 tm,.bool false,.int .i64 ix,.int .i64 lt,.slice none 0 0,.int .i64 0,.string sn,.slice none 0 0] 25)).drew=W9 at *
  have x5:=HQ1.out.cell (j:=5) rfl
  have x6:=HQ1.out.cell (j:=6) rfl
  have x9:=HQ1.out.cell (j:=9) rfl
  have x10:=HQ1.out.cell (j:=10) rfl
  go_wp2_with fail
  all_goals clear x5 x6 x9 x10
  all_goals first
   | (go_ret
      refine⟨ret_bool ?_,HQB.out⟩
      rw [HV.out]
      symm
      have hz:=HZ.out
      have hsn:=emptyP5 sn Z hz
      first
       | (refine decide_eq_true ?_; (try simp only [beq_iff_eq,bne_iff_ne,ne_eq,Bool.not_eq_true',Bool.not_eq_false',decide_eq_false_iff_not,decide_eq_true_eq,beq_eq_false_iff_ne,bne_eq_false_iff_eq,hsn] at *); unfold mayZ; omega)
       | (refine decide_eq_false ?_; (try simp only [beq_iff_eq,bne_iff_ne,ne_eq,Bool.not_eq_true',Bool.not_eq_false',decide_eq_false_iff_not,decide_eq_true_eq,beq_eq_false_iff_ne,bne_eq_false_iff_eq,hsn] at *); unfold mayZ; omega))
   | (refine (hrr.out _ HQB.out).mono ?_
      rintro e w' ⟨rfl,hbx⟩
      have HBX:=Lib.hid (below_then HQB.out hbx HQB.out.size)
      have HX1:=Lib.hid (HQ1.out.keep hbx)
      have HX2:=Lib.hid (HQ2.out.keep hbx)
      clear hbx
      dsimp only
      go_wp2_with fail
      first
       | (go_ret
          refine⟨ret_bool ?_,HBX.out⟩
          rw [HV.out]
          symm
          have hz:=HZ.out
          have hsn:=emptyP5 sn Z hz
          first
           | (refine decide_eq_true ?_; (try simp only [beq_iff_eq,bne_iff_ne,ne_eq,Bool.not_eq_true',Bool.not_eq_false',decide_eq_false_iff_not,decide_eq_true_eq,beq_eq_false_iff_ne,bne_eq_false_iff_eq,hsn] at *); unfold mayZ; omega)
           | (refine decide_eq_false ?_; (try simp only [beq_iff_eq,bne_iff_ne,ne_eq,Bool.not_eq_true',Bool.not_eq_false',decide_eq_false_iff_not,decide_eq_true_eq,beq_eq_false_iff_ne,bne_eq_false_iff_eq,hsn] at *); unfold mayZ; omega))
       | (go_meet
          refine⟨HX1,HX2,HBX,Lib.hid ?_⟩
          have hz:=HZ.out
          have hsn:=emptyP5 sn Z hz
          (try simp only [beq_iff_eq,bne_iff_ne,ne_eq,Bool.not_eq_true',Bool.not_eq_false',decide_eq_false_iff_not,decide_eq_true_eq,beq_eq_false_iff_ne,bne_eq_false_iff_eq,hsn] at *)
          first
           | omega
           | exact⟨by omega,by omega,by omega,trivial⟩))
 case rest =>
  obtain⟨hk1,hk2,hB,hN5⟩:=hcut
  have x0:=hk1.out.cell (j:=0) rfl
  have x1:=hk1.out.cell (j:=1) rfl
  have x2:=hk1.out.cell (j:=2) rfl
  have x3:=hk1.out.cell (j:=3) rfl
  have x4:=hk1.out.cell (j:=4) rfl
  have x5:=hk1.out.cell (j:=5) rfl
  have x6:=hk1.out.cell (j:=6) rfl
  have x7:=hk1.out.cell (j:=7) rfl
  have x8:=hk1.out.cell (j:=8) rfl
  have x9:=hk1.out.cell (j:=9) rfl
  have x10:=hk1.out.cell (j:=10) rfl
  have y4:=hk2.out.cell (j:=4) rfl
  have y5:=hk2.out.cell (j:=5) rfl
  have y6:=hk2.out.cell (j:=6) rfl
  have y8:=hk2.out.cell (j:=8) rfl
  have y9:=hk2.out.cell (j:=9) rfl
  clear HB0 HB1 HK0 HK1 HK2 HS2 hk2 HQ1 HQ2 HQB HQS hrr hk1
  go_wp2_with (go_at_call 73; refine (ew5_any _ _ _ _).mono ?_; rintro e w' ⟨rfl,rfl⟩)
  all_goals clear x0 x1 x2 x3 x4 x5 x6 x7 x8 x9 x10 y4 y5 y6 y8 y9
  all_goals (
   go_ret
   refine⟨ret_bool ?_,hB.out⟩
   have hn5:=hN5.out
   rw [HV.out]
   symm
   have hz:=HZ.out
   have hsn:=emptyP5 sn Z hz
   first
    | (refine decide_eq_true ?_; (try simp only [beq_iff_eq,bne_iff_ne,ne_eq,Bool.not_eq_true',Bool.not_eq_false',decide_eq_false_iff_not,decide_eq_true_eq,beq_eq_false_iff_ne,bne_eq_false_iff_eq,hsn] at *); unfold mayZ; omega)
    | (refine decide_eq_false ?_; (try simp only [beq_iff_eq,bne_iff_ne,ne_eq,Bool.not_eq_true',Bool.not_eq_false',decide_eq_false_iff_not,decide_eq_true_eq,beq_eq_false_iff_ne,bne_eq_false_iff_eq,hsn] at *); unfold mayZ; omega))
set_option maxRecDepth 100000 in
set_option maxHeartbeats 4000000 in
theorem eMay5tf (fr ds tm ix lt cm:Int) (rs:List Rc) (sn:ByteArray) (vs:List Int) (ar:Option Addr) (nr cr:Nat) (av:Option Addr) (nv cv:Nat) (w:World) (hrv:rightV vs=false) (h:MsAt w ⟨5,fr,ds,tm,true,ix,lt,rs,cm,sn,vs⟩ ar nr cr av nv cv) (v:Bool) (hv:Hid (v=mayM ⟨5,fr,ds,tm,true,ix,lt,rs,cm,sn,vs⟩)) :
 Calls Tryz.prog 32 #[.agg #[.int .i64 5,.int .i64 fr,.int .i64 ds,.int .i64 tm,.bool true,.int .i64 ix,.int .i64 lt,.slice ar nr cr,.int .i64 cm,.string sn,.slice av nv cv]] w fun e w'=>e = .returned (.bool v)∧Below w.heap.size w w':=by
 have HB0:=Lib.hid (((Below.refl w.heap.size w).alloc (Nat.le_refl _) (.cells #[.int .i64 5,.int .i64 fr,.int .i64 ds,.int .i64 tm,.bool true,.int .i64 ix,.int .i64 lt,.slice ar nr cr,.int .i64 cm,.string sn,.slice av nv cv] 25)).alloc (by simp) (.cells #[.int .i64 5,.int .i64 fr,.int .i64 ds,.int .i64 tm,.bool false,.int .i64 0,.int .i64 0,.slice none 0 0,.int .i64 0,.string ⟨#[]⟩,.slice none 0 0] 25))
 have HB1:=Lib.hid ((Below.refl w.heap.size w).alloc (Nat.le_refl _) (.cells #[.int .i64 5,.int .i64 fr,.int .i64 ds,.int .i64 tm,.bool true,.int .i64 ix,.int .i64 lt,.slice ar nr cr,.int .i64 cm,.string sn,.slice av nv cv] 25))
 have HK0:Hid (Blk (w.alloc (.cells #[.int .i64 5,.int .i64 fr,.int .i64 ds,.int .i64 tm,.bool true,.int .i64 ix,.int .i64 lt,.slice ar nr cr,.int .i64 cm,.string sn,.slice av nv cv] 25)) w.heap.size 25 [.int .i64 5,.int .i64 fr,.int .i64 ds,.int .i64 tm,.bool true,.int .i64 ix,.int .i64 lt,.slice ar nr cr,.int .i64 cm,.string sn,.slice av nv cv]):=Lib.hid (heap_alloc_new w _)
 have HK1:Hid (Blk ((w.alloc (.cells #[.int .i64 5,.int .i64 fr,.int .i64 ds,.int .i64 tm,.bool true,.int .i64 ix,.int .i64 lt,.slice ar nr cr,.int .i64 cm,.string sn,.slice av nv cv] 25)).alloc (.cells #[.int .i64 5,.int .i64 fr,.int .i64 ds,.int .i64 tm,.bool false,.int .i64 0,.int .i64 0,.slice none 0 0,.int .i64 0,.string ⟨#[]⟩,.slice none 0 0] 25)) w.heap.size 25 [.int .i64 5,.int .i64 fr,.int .i64 ds,.int .i64 tm,.bool true,.int .i64 ix,.int .i64 lt,.slice ar nr cr,.int .i64 cm,.string sn,.slice av nv cv]):=Lib.hid (HK0.out.alloc _)
 have HK2:Hid (Blk ((w.alloc (.cells #[.int .i64 5,.int .i64 fr,.int .i64 ds,.int .i64 tm,.bool true,.int .i64 ix,.int .i64 lt,.slice ar nr cr,.int .i64 cm,.string sn,.slice av nv cv] 25)).alloc (.cells #[.int .i64 5,.int .i64 fr,.int .i64 ds,.int .i64 tm,.bool false,.int .i64 0,.int .i64 0,.slice none 0 0,.int .i64 0,.string ⟨#[]⟩,.slice none 0 0] 25)) (w.heap.size+1) 25 [.int .i64 5,.int .i64 fr,.int .i64 ds,.int .i64 tm,.bool false,.int .i64 0,.int .i64 0,.slice none 0 0,.int .i64 0,.string ⟨#[]⟩,.slice none 0 0]):=Lib.hid (by
  have hz:=heap_alloc_new (w.alloc (.cells #[.int .i64 5,.int .i64 fr,.int .i64 ds,.int .i64 tm,.bool true,.int .i64 ix,.int .i64 lt,.slice ar nr cr,.int .i64 cm,.string sn,.slice av nv cv] 25)) (.cells #[.int .i64 5,.int .i64 fr,.int .i64 ds,.int .i64 tm,.bool false,.int .i64 0,.int .i64 0,.slice none 0 0,.int .i64 0,.string ⟨#[]⟩,.slice none 0 0] 25)
  rw [World.size_alloc] at hz
  exact hz)
 have HS2:Hid (((w.alloc (.cells #[.int .i64 5,.int .i64 fr,.int .i64 ds,.int .i64 tm,.bool true,.int .i64 ix,.int .i64 lt,.slice ar nr cr,.int .i64 cm,.string sn,.slice av nv cv] 25)).alloc (.cells #[.int .i64 5,.int .i64 fr,.int .i64 ds,.int .i64 tm,.bool false,.int .i64 0,.int .i64 0,.slice none 0 0,.int .i64 0,.string ⟨#[]⟩,.slice none 0 0] 25)).heap.size=w.heap.size+2):=Lib.hid (by simp)
 have HN:=Lib.hid h.rlen
 have HM:=Lib.hid h.vlen
 have H:=Lib.hid h
 obtain⟨Z,hZ⟩:∃ Z:Int,Z=(((sn:ByteArray).size:Nat):Int):=⟨_,rfl⟩
 obtain⟨rv,hrv'⟩:∃ x,x=b2i (rightV vs):=⟨_,rfl⟩
 obtain⟨al,hal'⟩:∃ x,x=b2i (termsUpto tm rs):=⟨_,rfl⟩
 obtain⟨rg,hrg'⟩:∃ x,x=b2i (rightG ix lt rs):=⟨_,rfl⟩
 have HV:Hid (v=decide (mayZ 5 fr ds tm 1 ix lt cm (nr:Int) Z (nv:Int) rv al rg)):=Lib.hid (by rw [hv.out,mayM_Z,hrv',hal',hrg',hZ,h.rlen,h.vlen]; try rfl)
 have HZ:=Lib.hid hZ
 have HRV0:=Lib.hid hrv'
 have HAL0:=Lib.hid hal'
 have HRG0:=Lib.hid hrg'
 clear hrv' hal' hrg' hZ
 have hb1:=h.nr
 have hb2:=h.nv
 clear h hv
 dsimp only at HN HM
 have HQ1:Hid (Blk (((w.alloc (.cells #[.int .i64 5,.int .i64 fr,.int .i64 ds,.int .i64 tm,.bool true,.int .i64 ix,.int .i64 lt,.slice ar nr cr,.int .i64 cm,.string sn,.slice av nv cv] 25)).alloc (.cells #[.int .i64 5,.int .i64 fr,.int .i64 ds,.int .i64 tm,.bool false,.int .i64 ix,.int .i64 lt,.slice none 0 0,.int .i64 0,.string sn,.slice none 0 0] 25)).drew) w.heap.size 25 [.int .i64 5,.int .i64 fr,.int .i64 ds,.int .i64 tm,.bool true,.int .i64 ix,.int .i64 lt,.slice ar nr cr,.int .i64 cm,.string sn,.slice av nv cv]):=Lib.hid (HK0.out.alloc (.cells #[.int .i64 5,.int .i64 fr,.int .i64 ds,.int .i64 tm,.bool false,.int .i64 ix,.int .i64 lt,.slice none 0 0,.int .i64 0,.string sn,.slice none 0 0] 25))
 have HQ2:Hid (Blk (((w.alloc (.cells #[.int .i64 5,.int .i64 fr,.int .i64 ds,.int .i64 tm,.bool true,.int .i64 ix,.int .i64 lt,.slice ar nr cr,.int .i64 cm,.string sn,.slice av nv cv] 25)).alloc (.cells #[.int .i64 5,.int .i64 fr,.int .i64 ds,.int .i64 tm,.bool false,.int .i64 ix,.int .i64 lt,.slice none 0 0,.int .i64 0,.string sn,.slice none 0 0] 25)).drew) (w.heap.size+1) 25 [.int .i64 5,.int .i64 fr,.int .i64 ds,.int .i64 tm,.bool false,.int .i64 ix,.int .i64 lt,.slice none 0 0,.int .i64 0,.string sn,.slice none 0 0]):=Lib.hid (by
  have hz:=heap_alloc_new (w.alloc (.cells #[.int .i64 5,.int .i64 fr,.int .i64 ds,.int .i64 tm,.bool true,.int .i64 ix,.int .i64 lt,.slice ar nr cr,.int .i64 cm,.string sn,.slice av nv cv] 25)) (.cells #[.int .i64 5,.int .i64 fr,.int .i64 ds,.int .i64 tm,.bool false,.int .i64 ix,.int .i64 lt,.slice none 0 0,.int .i64 0,.string sn,.slice none 0 0] 25)
  rw [World.size_alloc] at hz
  exact hz)
 have HQB:Hid (Below w.heap.size w (((w.alloc (.cells #[.int .i64 5,.int .i64 fr,.int .i64 ds,.int .i64 tm,.bool true,.int .i64 ix,.int .i64 lt,.slice ar nr cr,.int .i64 cm,.string sn,.slice av nv cv] 25)).alloc (.cells #[.int .i64 5,.int .i64 fr,.int .i64 ds,.int .i64 tm,.bool false,.int .i64 ix,.int .i64 lt,.slice none 0 0,.int .i64 0,.string sn,.slice none 0 0] 25)).drew)):=Lib.hid ((HB1.out.alloc (by simp) (.cells #[.int .i64 5,.int .i64 fr,.int .i64 ds,.int .i64 tm,.bool false,.int .i64 ix,.int .i64 lt,.slice none 0 0,.int .i64 0,.string sn,.slice none 0 0] 25)).drew)
 have HQS:Hid (w.heap.size+1<(((w.alloc (.cells #[.int .i64 5,.int .i64 fr,.int .i64 ds,.int .i64 tm,.bool true,.int .i64 ix,.int .i64 lt,.slice ar nr cr,.int .i64 cm,.string sn,.slice av nv cv] 25)).alloc (.cells #[.int .i64 5,.int .i64 fr,.int .i64 ds,.int .i64 tm,.bool false,.int .i64 ix,.int .i64 lt,.slice none 0 0,.int .i64 0,.string sn,.slice none 0 0] 25)).drew).heap.size):=Lib.hid (by show _<(World.alloc _ _).heap.size; simp)
 have hrr:=Lib.hid (fun (W:World) (hw:Below w.heap.size w W)=>qRight_any av nv cv vs W (H.out.voters.keep hw) hb2 false (Lib.hid hrv.symm))
 obtain rfl:rv=0:=by rw [HRV0.out,hrv]; rfl
 clear hrv
 have x0:=HK0.out.cell (j:=0) rfl
 have x1:=HK0.out.cell (j:=1) rfl
 have x2:=HK0.out.cell (j:=2) rfl
 have x3:=HK0.out.cell (j:=3) rfl
 have z0:=HK1.out.cell (j:=0) rfl
 go_enter Tryz.func32,Tryz.ntmps32
 go_upto_block 0 with fail
 clear x0 x1 x2 x3 z0
 go_cut [] (fun w'=>Hid (Blk w' w.heap.size 25 [.int .i64 5,.int .i64 fr,.int .i64 ds,.int .i64 tm,.bool true,.int .i64 ix,.int .i64 lt,.slice ar nr cr,.int .i64 cm,.string sn,.slice av nv cv])∧Hid (Blk w' (w.heap.size+1) 25 [.int .i64 5,.int .i64 fr,.int .i64 ds,.int .i64 tm,.bool false,.int .i64 ix,.int .i64 lt,.slice none 0 0,.int .i64 0,.string sn,.slice none 0 0])∧Hid (Below w.heap.size w w')∧Hid (1≤ix∧1≤lt∧Z≤131072∧(0:Int)=1))
 case first =>
  have x5:=HK1.out.cell (j:=5) rfl
  have y5:=HK2.out.cell (j:=5) rfl
  have x6:=HK1.out.cell (j:=6) rfl
  have y6:=HK2.out.cell (j:=6) rfl
  have x9:=HK1.out.cell (j:=9) rfl
  have y9:=HK2.out.cell (j:=9) rfl
  go_wp2_with fail
  go_region
  clear x5 x6 x9 y5 y6 y9 HK0 HK1 HK2 HB0 HB1 HS2
  generalize ((w.alloc (.cells #[.int .i64 5,.int .i64 fr,.int .i64 ds,.int .i64 tm,.bool true,.int .i64 ix,.int .i64 lt,.slice ar nr cr,.int .i64 cm,.string sn,.slice av nv cv] 25)).alloc (.cells #[.int .i64 5,.int .i64 fr,.int .i64 ds,.int .i64 tm,.bool false,.int .i64 ix,.int .i64 lt,.slice none 0 0,.int .i64 0,.string sn,.slice none 0 0] 25)).drew=W9 at *
  have x5:=HQ1.out.cell (j:=5) rfl
  have x6:=HQ1.out.cell (j:=6) rfl
  have x9:=HQ1.out.cell (j:=9) rfl
  have x10:=HQ1.out.cell (j:=10) rfl
  go_wp2_with fail
  all_goals clear x5 x6 x9 x10
  all_goals first
   | (go_ret
      refine⟨ret_bool ?_,HQB.out⟩
      rw [HV.out]
      symm
      have hz:=HZ.out
      have hsn:=emptyP5 sn Z hz
      first
       | (refine decide_eq_true ?_; (try simp only [beq_iff_eq,bne_iff_ne,ne_eq,Bool.not_eq_true',Bool.not_eq_false',decide_eq_false_iff_not,decide_eq_true_eq,beq_eq_false_iff_ne,bne_eq_false_iff_eq,hsn] at *); unfold mayZ; omega)
       | (refine decide_eq_false ?_; (try simp only [beq_iff_eq,bne_iff_ne,ne_eq,Bool.not_eq_true',Bool.not_eq_false',decide_eq_false_iff_not,decide_eq_true_eq,beq_eq_false_iff_ne,bne_eq_false_iff_eq,hsn] at *); unfold mayZ; omega))
   | (refine (hrr.out _ HQB.out).mono ?_
      rintro e w' ⟨rfl,hbx⟩
      have HBX:=Lib.hid (below_then HQB.out hbx HQB.out.size)
      have HX1:=Lib.hid (HQ1.out.keep hbx)
      have HX2:=Lib.hid (HQ2.out.keep hbx)
      clear hbx
      dsimp only
      go_wp2_with fail
      first
       | (go_ret
          refine⟨ret_bool ?_,HBX.out⟩
          rw [HV.out]
          symm
          have hz:=HZ.out
          have hsn:=emptyP5 sn Z hz
          first
           | (refine decide_eq_true ?_; (try simp only [beq_iff_eq,bne_iff_ne,ne_eq,Bool.not_eq_true',Bool.not_eq_false',decide_eq_false_iff_not,decide_eq_true_eq,beq_eq_false_iff_ne,bne_eq_false_iff_eq,hsn] at *); unfold mayZ; omega)
           | (refine decide_eq_false ?_; (try simp only [beq_iff_eq,bne_iff_ne,ne_eq,Bool.not_eq_true',Bool.not_eq_false',decide_eq_false_iff_not,decide_eq_true_eq,beq_eq_false_iff_ne,bne_eq_false_iff_eq,hsn] at *); unfold mayZ; omega))
       | (go_meet
          refine⟨HX1,HX2,HBX,Lib.hid ?_⟩
          have hz:=HZ.out
          have hsn:=emptyP5 sn Z hz
          (try simp only [beq_iff_eq,bne_iff_ne,ne_eq,Bool.not_eq_true',Bool.not_eq_false',decide_eq_false_iff_not,decide_eq_true_eq,beq_eq_false_iff_ne,bne_eq_false_iff_eq,hsn] at *)
          first
           | omega
           | exact⟨by omega,by omega,by omega,trivial⟩))
 case rest =>
  obtain⟨hk1,hk2,hB,hN5⟩:=hcut
  have x0:=hk1.out.cell (j:=0) rfl
  have x1:=hk1.out.cell (j:=1) rfl
  have x2:=hk1.out.cell (j:=2) rfl
  have x3:=hk1.out.cell (j:=3) rfl
  have x4:=hk1.out.cell (j:=4) rfl
  have x5:=hk1.out.cell (j:=5) rfl
  have x6:=hk1.out.cell (j:=6) rfl
  have x7:=hk1.out.cell (j:=7) rfl
  have x8:=hk1.out.cell (j:=8) rfl
  have x9:=hk1.out.cell (j:=9) rfl
  have x10:=hk1.out.cell (j:=10) rfl
  have y4:=hk2.out.cell (j:=4) rfl
  have y5:=hk2.out.cell (j:=5) rfl
  have y6:=hk2.out.cell (j:=6) rfl
  have y8:=hk2.out.cell (j:=8) rfl
  have y9:=hk2.out.cell (j:=9) rfl
  clear HB0 HB1 HK0 HK1 HK2 HS2 hk2 HQ1 HQ2 HQB HQS hrr hk1
  go_wp2_with (go_at_call 73; refine (ew5_any _ _ _ _).mono ?_; rintro e w' ⟨rfl,rfl⟩)
  all_goals clear x0 x1 x2 x3 x4 x5 x6 x7 x8 x9 x10 y4 y5 y6 y8 y9
  all_goals (
   go_ret
   refine⟨ret_bool ?_,hB.out⟩
   have hn5:=hN5.out
   rw [HV.out]
   symm
   have hz:=HZ.out
   have hsn:=emptyP5 sn Z hz
   first
    | (refine decide_eq_true ?_; (try simp only [beq_iff_eq,bne_iff_ne,ne_eq,Bool.not_eq_true',Bool.not_eq_false',decide_eq_false_iff_not,decide_eq_true_eq,beq_eq_false_iff_ne,bne_eq_false_iff_eq,hsn] at *); unfold mayZ; omega)
    | (refine decide_eq_false ?_; (try simp only [beq_iff_eq,bne_iff_ne,ne_eq,Bool.not_eq_true',Bool.not_eq_false',decide_eq_false_iff_not,decide_eq_true_eq,beq_eq_false_iff_ne,bne_eq_false_iff_eq,hsn] at *); unfold mayZ; omega))
set_option maxRecDepth 100000 in
set_option maxHeartbeats 4000000 in
theorem eMay5ft (fr ds tm ix lt cm:Int) (rs:List Rc) (sn:ByteArray) (vs:List Int) (ar:Option Addr) (nr cr:Nat) (av:Option Addr) (nv cv:Nat) (w:World) (hrv:rightV vs=true) (h:MsAt w ⟨5,fr,ds,tm,false,ix,lt,rs,cm,sn,vs⟩ ar nr cr av nv cv) (v:Bool) (hv:Hid (v=mayM ⟨5,fr,ds,tm,false,ix,lt,rs,cm,sn,vs⟩)) :
 Calls Tryz.prog 32 #[.agg #[.int .i64 5,.int .i64 fr,.int .i64 ds,.int .i64 tm,.bool false,.int .i64 ix,.int .i64 lt,.slice ar nr cr,.int .i64 cm,.string sn,.slice av nv cv]] w fun e w'=>e = .returned (.bool v)∧Below w.heap.size w w':=by
 have HB0:=Lib.hid (((Below.refl w.heap.size w).alloc (Nat.le_refl _) (.cells #[.int .i64 5,.int .i64 fr,.int .i64 ds,.int .i64 tm,.bool false,.int .i64 ix,.int .i64 lt,.slice ar nr cr,.int .i64 cm,.string sn,.slice av nv cv] 25)).alloc (by simp) (.cells #[.int .i64 5,.int .i64 fr,.int .i64 ds,.int .i64 tm,.bool false,.int .i64 0,.int .i64 0,.slice none 0 0,.int .i64 0,.string ⟨#[]⟩,.slice none 0 0] 25))
 have HB1:=Lib.hid ((Below.refl w.heap.size w).alloc (Nat.le_refl _) (.cells #[.int .i64 5,.int .i64 fr,.int .i64 ds,.int .i64 tm,.bool false,.int .i64 ix,.int .i64 lt,.slice ar nr cr,.int .i64 cm,.string sn,.slice av nv cv] 25))
 have HK0:Hid (Blk (w.alloc (.cells #[.int .i64 5,.int .i64 fr,.int .i64 ds,.int .i64 tm,.bool false,.int .i64 ix,.int .i64 lt,.slice ar nr cr,.int .i64 cm,.string sn,.slice av nv cv] 25)) w.heap.size 25 [.int .i64 5,.int .i64 fr,.int .i64 ds,.int .i64 tm,.bool false,.int .i64 ix,.int .i64 lt,.slice ar nr cr,.int .i64 cm,.string sn,.slice av nv cv]):=Lib.hid (heap_alloc_new w _)
 have HK1:Hid (Blk ((w.alloc (.cells #[.int .i64 5,.int .i64 fr,.int .i64 ds,.int .i64 tm,.bool false,.int .i64 ix,.int .i64 lt,.slice ar nr cr,.int .i64 cm,.string sn,.slice av nv cv] 25)).alloc (.cells #[.int .i64 5,.int .i64 fr,.int .i64 ds,.int .i64 tm,.bool false,.int .i64 0,.int .i64 0,.slice none 0 0,.int .i64 0,.string ⟨#[]⟩,.slice none 0 0] 25)) w.heap.size 25 [.int .i64 5,.int .i64 fr,.int .i64 ds,.int .i64 tm,.bool false,.int .i64 ix,.int .i64 lt,.slice ar nr cr,.int .i64 cm,.string sn,.slice av nv cv]):=Lib.hid (HK0.out.alloc _)
 have HK2:Hid (Blk ((w.alloc (.cells #[.int .i64 5,.int .i64 fr,.int .i64 ds,.int .i64 tm,.bool false,.int .i64 ix,.int .i64 lt,.slice ar nr cr,.int .i64 cm,.string sn,.slice av nv cv] 25)).alloc (.cells #[.int .i64 5,.int .i64 fr,.int .i64 ds,.int .i64 tm,.bool false,.int .i64 0,.int .i64 0,.slice none 0 0,.int .i64 0,.string ⟨#[]⟩,.slice none 0 0] 25)) (w.heap.size+1) 25 [.int .i64 5,.int .i64 fr,.int .i64 ds,.int .i64 tm,.bool false,.int .i64 0,.int .i64 0,.slice none 0 0,.int .i64 0,.string ⟨#[]⟩,.slice none 0 0]):=Lib.hid (by
  have hz:=heap_alloc_new (w.alloc (.cells #[.int .i64 5,.int .i64 fr,.int .i64 ds,.int .i64 tm,.bool false,.int .i64 ix,.int .i64 lt,.slice ar nr cr,.int .i64 cm,.string sn,.slice av nv cv] 25)) (.cells #[.int .i64 5,.int .i64 fr,.int .i64 ds,.int .i64 tm,.bool false,.int .i64 0,.int .i64 0,.slice none 0 0,.int .i64 0,.string ⟨#[]⟩,.slice none 0 0] 25)
  rw [World.size_alloc] at hz
  exact hz)
 have HS2:Hid (((w.alloc (.cells #[.int .i64 5,.int .i64 fr,.int .i64 ds,.int .i64 tm,.bool false,.int .i64 ix,.int .i64 lt,.slice ar nr cr,.int .i64 cm,.string sn,.slice av nv cv] 25)).alloc (.cells #[.int .i64 5,.int .i64 fr,.int .i64 ds,.int .i64 tm,.bool false,.int .i64 0,.int .i64 0,.slice none 0 0,.int .i64 0,.string ⟨#[]⟩,.slice none 0 0] 25)).heap.size=w.heap.size+2):=Lib.hid (by simp)
 have HN:=Lib.hid h.rlen
 have HM:=Lib.hid h.vlen
 have H:=Lib.hid h
 obtain⟨Z,hZ⟩:∃ Z:Int,Z=(((sn:ByteArray).size:Nat):Int):=⟨_,rfl⟩
 obtain⟨rv,hrv'⟩:∃ x,x=b2i (rightV vs):=⟨_,rfl⟩
 obtain⟨al,hal'⟩:∃ x,x=b2i (termsUpto tm rs):=⟨_,rfl⟩
 obtain⟨rg,hrg'⟩:∃ x,x=b2i (rightG ix lt rs):=⟨_,rfl⟩
 have HV:Hid (v=decide (mayZ 5 fr ds tm 0 ix lt cm (nr:Int) Z (nv:Int) rv al rg)):=Lib.hid (by rw [hv.out,mayM_Z,hrv',hal',hrg',hZ,h.rlen,h.vlen]; try rfl)
 have HZ:=Lib.hid hZ
 have HRV0:=Lib.hid hrv'
 have HAL0:=Lib.hid hal'
 have HRG0:=Lib.hid hrg'
 clear hrv' hal' hrg' hZ
 have hb1:=h.nr
 have hb2:=h.nv
 clear h hv
 dsimp only at HN HM
 have HQ1:Hid (Blk (((w.alloc (.cells #[.int .i64 5,.int .i64 fr,.int .i64 ds,.int .i64 tm,.bool false,.int .i64 ix,.int .i64 lt,.slice ar nr cr,.int .i64 cm,.string sn,.slice av nv cv] 25)).alloc (.cells #[.int .i64 5,.int .i64 fr,.int .i64 ds,.int .i64 tm,.bool false,.int .i64 ix,.int .i64 lt,.slice none 0 0,.int .i64 0,.string sn,.slice none 0 0] 25)).drew) w.heap.size 25 [.int .i64 5,.int .i64 fr,.int .i64 ds,.int .i64 tm,.bool false,.int .i64 ix,.int .i64 lt,.slice ar nr cr,.int .i64 cm,.string sn,.slice av nv cv]):=Lib.hid (HK0.out.alloc (.cells #[.int .i64 5,.int .i64 fr,.int .i64 ds,.int .i64 tm,.bool false,.int .i64 ix,.int .i64 lt,.slice none 0 0,.int .i64 0,.string sn,.slice none 0 0] 25))
 have HQ2:Hid (Blk (((w.alloc (.cells #[.int .i64 5,.int .i64 fr,.int .i64 ds,.int .i64 tm,.bool false,.int .i64 ix,.int .i64 lt,.slice ar nr cr,.int .i64 cm,.string sn,.slice av nv cv] 25)).alloc (.cells #[.int .i64 5,.int .i64 fr,.int .i64 ds,.int .i64 tm,.bool false,.int .i64 ix,.int .i64 lt,.slice none 0 0,.int .i64 0,.string sn,.slice none 0 0] 25)).drew) (w.heap.size+1) 25 [.int .i64 5,.int .i64 fr,.int .i64 ds,.int .i64 tm,.bool false,.int .i64 ix,.int .i64 lt,.slice none 0 0,.int .i64 0,.string sn,.slice none 0 0]):=Lib.hid (by
  have hz:=heap_alloc_new (w.alloc (.cells #[.int .i64 5,.int .i64 fr,.int .i64 ds,.int .i64 tm,.bool false,.int .i64 ix,.int .i64 lt,.slice ar nr cr,.int .i64 cm,.string sn,.slice av nv cv] 25)) (.cells #[.int .i64 5,.int .i64 fr,.int .i64 ds,.int .i64 tm,.bool false,.int .i64 ix,.int .i64 lt,.slice none 0 0,.int .i64 0,.string sn,.slice none 0 0] 25)
  rw [World.size_alloc] at hz
  exact hz)
 have HQB:Hid (Below w.heap.size w (((w.alloc (.cells #[.int .i64 5,.int .i64 fr,.int .i64 ds,.int .i64 tm,.bool false,.int .i64 ix,.int .i64 lt,.slice ar nr cr,.int .i64 cm,.string sn,.slice av nv cv] 25)).alloc (.cells #[.int .i64 5,.int .i64 fr,.int .i64 ds,.int .i64 tm,.bool false,.int .i64 ix,.int .i64 lt,.slice none 0 0,.int .i64 0,.string sn,.slice none 0 0] 25)).drew)):=Lib.hid ((HB1.out.alloc (by simp) (.cells #[.int .i64 5,.int .i64 fr,.int .i64 ds,.int .i64 tm,.bool false,.int .i64 ix,.int .i64 lt,.slice none 0 0,.int .i64 0,.string sn,.slice none 0 0] 25)).drew)
 have HQS:Hid (w.heap.size+1<(((w.alloc (.cells #[.int .i64 5,.int .i64 fr,.int .i64 ds,.int .i64 tm,.bool false,.int .i64 ix,.int .i64 lt,.slice ar nr cr,.int .i64 cm,.string sn,.slice av nv cv] 25)).alloc (.cells #[.int .i64 5,.int .i64 fr,.int .i64 ds,.int .i64 tm,.bool false,.int .i64 ix,.int .i64 lt,.slice none 0 0,.int .i64 0,.string sn,.slice none 0 0] 25)).drew).heap.size):=Lib.hid (by show _<(World.alloc _ _).heap.size; simp)
 have hrr:=Lib.hid (fun (W:World) (hw:Below w.heap.size w W)=>qRight_any av nv cv vs W (H.out.voters.keep hw) hb2 true (Lib.hid hrv.symm))
 obtain rfl:rv=1:=by rw [HRV0.out,hrv]; rfl
 clear hrv
 have x0:=HK0.out.cell (j:=0) rfl
 have x1:=HK0.out.cell (j:=1) rfl
 have x2:=HK0.out.cell (j:=2) rfl
 have x3:=HK0.out.cell (j:=3) rfl
 have z0:=HK1.out.cell (j:=0) rfl
 go_enter Tryz.func32,Tryz.ntmps32
 go_upto_block 0 with fail
 clear x0 x1 x2 x3 z0
 go_cut [] (fun w'=>Hid (Blk w' w.heap.size 25 [.int .i64 5,.int .i64 fr,.int .i64 ds,.int .i64 tm,.bool false,.int .i64 ix,.int .i64 lt,.slice ar nr cr,.int .i64 cm,.string sn,.slice av nv cv])∧Hid (Blk w' (w.heap.size+1) 25 [.int .i64 5,.int .i64 fr,.int .i64 ds,.int .i64 tm,.bool false,.int .i64 ix,.int .i64 lt,.slice none 0 0,.int .i64 0,.string sn,.slice none 0 0])∧Hid (Below w.heap.size w w')∧Hid (1≤ix∧1≤lt∧Z≤131072∧(1:Int)=1))
 case first =>
  have x5:=HK1.out.cell (j:=5) rfl
  have y5:=HK2.out.cell (j:=5) rfl
  have x6:=HK1.out.cell (j:=6) rfl
  have y6:=HK2.out.cell (j:=6) rfl
  have x9:=HK1.out.cell (j:=9) rfl
  have y9:=HK2.out.cell (j:=9) rfl
  go_wp2_with fail
  go_region
  clear x5 x6 x9 y5 y6 y9 HK0 HK1 HK2 HB0 HB1 HS2
  generalize ((w.alloc (.cells #[.int .i64 5,.int .i64 fr,.int .i64 ds,.int .i64 tm,.bool false,.int .i64 ix,.int .i64 lt,.slice ar nr cr,.int .i64 cm,.string sn,.slice av nv cv] 25)).alloc (.cells #[.int .i64 5,.int .i64 fr,.int .i64 ds,.int .i64 tm,.bool false,.int .i64 ix,.int .i64 lt,.slice none 0 0,.int .i64 0,.string sn,.slice none 0 0] 25)).drew=W9 at *
  have x5:=HQ1.out.cell (j:=5) rfl
  have x6:=HQ1.out.cell (j:=6) rfl
  have x9:=HQ1.out.cell (j:=9) rfl
  have x10:=HQ1.out.cell (j:=10) rfl
  go_wp2_with fail
  all_goals clear x5 x6 x9 x10
  all_goals first
   | (go_ret
      refine⟨ret_bool ?_,HQB.out⟩
      rw [HV.out]
      symm
      have hz:=HZ.out
      have hsn:=emptyP5 sn Z hz
      first
       | (refine decide_eq_true ?_; (try simp only [beq_iff_eq,bne_iff_ne,ne_eq,Bool.not_eq_true',Bool.not_eq_false',decide_eq_false_iff_not,decide_eq_true_eq,beq_eq_false_iff_ne,bne_eq_false_iff_eq,hsn] at *); unfold mayZ; omega)
       | (refine decide_eq_false ?_; (try simp only [beq_iff_eq,bne_iff_ne,ne_eq,Bool.not_eq_true',Bool.not_eq_false',decide_eq_false_iff_not,decide_eq_true_eq,beq_eq_false_iff_ne,bne_eq_false_iff_eq,hsn] at *); unfold mayZ; omega))
   | (refine (hrr.out _ HQB.out).mono ?_
      rintro e w' ⟨rfl,hbx⟩
      have HBX:=Lib.hid (below_then HQB.out hbx HQB.out.size)
      have HX1:=Lib.hid (HQ1.out.keep hbx)
      have HX2:=Lib.hid (HQ2.out.keep hbx)
      clear hbx
      dsimp only
      go_wp2_with fail
      first
       | (go_ret
          refine⟨ret_bool ?_,HBX.out⟩
          rw [HV.out]
          symm
          have hz:=HZ.out
          have hsn:=emptyP5 sn Z hz
          first
           | (refine decide_eq_true ?_; (try simp only [beq_iff_eq,bne_iff_ne,ne_eq,Bool.not_eq_true',Bool.not_eq_false',decide_eq_false_iff_not,decide_eq_true_eq,beq_eq_false_iff_ne,bne_eq_false_iff_eq,hsn] at *); unfold mayZ; omega)
           | (refine decide_eq_false ?_; (try simp only [beq_iff_eq,bne_iff_ne,ne_eq,Bool.not_eq_true',Bool.not_eq_false',decide_eq_false_iff_not,decide_eq_true_eq,beq_eq_false_iff_ne,bne_eq_false_iff_eq,hsn] at *); unfold mayZ; omega))
       | (go_meet
          refine⟨HX1,HX2,HBX,Lib.hid ?_⟩
          have hz:=HZ.out
          have hsn:=emptyP5 sn Z hz
          (try simp only [beq_iff_eq,bne_iff_ne,ne_eq,Bool.not_eq_true',Bool.not_eq_false',decide_eq_false_iff_not,decide_eq_true_eq,beq_eq_false_iff_ne,bne_eq_false_iff_eq,hsn] at *)
          first
           | omega
           | exact⟨by omega,by omega,by omega,trivial⟩))
 case rest =>
  obtain⟨hk1,hk2,hB,hN5⟩:=hcut
  have x0:=hk1.out.cell (j:=0) rfl
  have x1:=hk1.out.cell (j:=1) rfl
  have x2:=hk1.out.cell (j:=2) rfl
  have x3:=hk1.out.cell (j:=3) rfl
  have x4:=hk1.out.cell (j:=4) rfl
  have x5:=hk1.out.cell (j:=5) rfl
  have x6:=hk1.out.cell (j:=6) rfl
  have x7:=hk1.out.cell (j:=7) rfl
  have x8:=hk1.out.cell (j:=8) rfl
  have x9:=hk1.out.cell (j:=9) rfl
  have x10:=hk1.out.cell (j:=10) rfl
  have y4:=hk2.out.cell (j:=4) rfl
  have y5:=hk2.out.cell (j:=5) rfl
  have y6:=hk2.out.cell (j:=6) rfl
  have y8:=hk2.out.cell (j:=8) rfl
  have y9:=hk2.out.cell (j:=9) rfl
  clear HB0 HB1 HK0 HK1 HK2 HS2 hk2 HQ1 HQ2 HQB HQS hrr hk1
  go_wp2_with (go_at_call 73; refine (ew5_any _ _ _ _).mono ?_; rintro e w' ⟨rfl,rfl⟩)
  all_goals clear x0 x1 x2 x3 x4 x5 x6 x7 x8 x9 x10 y4 y5 y6 y8 y9
  all_goals (
   go_ret
   refine⟨ret_bool ?_,hB.out⟩
   have hn5:=hN5.out
   rw [HV.out]
   symm
   have hz:=HZ.out
   have hsn:=emptyP5 sn Z hz
   first
    | (refine decide_eq_true ?_; (try simp only [beq_iff_eq,bne_iff_ne,ne_eq,Bool.not_eq_true',Bool.not_eq_false',decide_eq_false_iff_not,decide_eq_true_eq,beq_eq_false_iff_ne,bne_eq_false_iff_eq,hsn] at *); unfold mayZ; omega)
    | (refine decide_eq_false ?_; (try simp only [beq_iff_eq,bne_iff_ne,ne_eq,Bool.not_eq_true',Bool.not_eq_false',decide_eq_false_iff_not,decide_eq_true_eq,beq_eq_false_iff_ne,bne_eq_false_iff_eq,hsn] at *); unfold mayZ; omega))
set_option maxRecDepth 100000 in
set_option maxHeartbeats 4000000 in
theorem eMay5ff (fr ds tm ix lt cm:Int) (rs:List Rc) (sn:ByteArray) (vs:List Int) (ar:Option Addr) (nr cr:Nat) (av:Option Addr) (nv cv:Nat) (w:World) (hrv:rightV vs=false) (h:MsAt w ⟨5,fr,ds,tm,false,ix,lt,rs,cm,sn,vs⟩ ar nr cr av nv cv) (v:Bool) (hv:Hid (v=mayM ⟨5,fr,ds,tm,false,ix,lt,rs,cm,sn,vs⟩)) :
 Calls Tryz.prog 32 #[.agg #[.int .i64 5,.int .i64 fr,.int .i64 ds,.int .i64 tm,.bool false,.int .i64 ix,.int .i64 lt,.slice ar nr cr,.int .i64 cm,.string sn,.slice av nv cv]] w fun e w'=>e = .returned (.bool v)∧Below w.heap.size w w':=by
 have HB0:=Lib.hid (((Below.refl w.heap.size w).alloc (Nat.le_refl _) (.cells #[.int .i64 5,.int .i64 fr,.int .i64 ds,.int .i64 tm,.bool false,.int .i64 ix,.int .i64 lt,.slice ar nr cr,.int .i64 cm,.string sn,.slice av nv cv] 25)).alloc (by simp) (.cells #[.int .i64 5,.int .i64 fr,.int .i64 ds,.int .i64 tm,.bool false,.int .i64 0,.int .i64 0,.slice none 0 0,.int .i64 0,.string ⟨#[]⟩,.slice none 0 0] 25))
 have HB1:=Lib.hid ((Below.refl w.heap.size w).alloc (Nat.le_refl _) (.cells #[.int .i64 5,.int .i64 fr,.int .i64 ds,.int .i64 tm,.bool false,.int .i64 ix,.int .i64 lt,.slice ar nr cr,.int .i64 cm,.string sn,.slice av nv cv] 25))
 have HK0:Hid (Blk (w.alloc (.cells #[.int .i64 5,.int .i64 fr,.int .i64 ds,.int .i64 tm,.bool false,.int .i64 ix,.int .i64 lt,.slice ar nr cr,.int .i64 cm,.string sn,.slice av nv cv] 25)) w.heap.size 25 [.int .i64 5,.int .i64 fr,.int .i64 ds,.int .i64 tm,.bool false,.int .i64 ix,.int .i64 lt,.slice ar nr cr,.int .i64 cm,.string sn,.slice av nv cv]):=Lib.hid (heap_alloc_new w _)
 have HK1:Hid (Blk ((w.alloc (.cells #[.int .i64 5,.int .i64 fr,.int .i64 ds,.int .i64 tm,.bool false,.int .i64 ix,.int .i64 lt,.slice ar nr cr,.int .i64 cm,.string sn,.slice av nv cv] 25)).alloc (.cells #[.int .i64 5,.int .i64 fr,.int .i64 ds,.int .i64 tm,.bool false,.int .i64 0,.int .i64 0,.slice none 0 0,.int .i64 0,.string ⟨#[]⟩,.slice none 0 0] 25)) w.heap.size 25 [.int .i64 5,.int .i64 fr,.int .i64 ds,.int .i64 tm,.bool false,.int .i64 ix,.int .i64 lt,.slice ar nr cr,.int .i64 cm,.string sn,.slice av nv cv]):=Lib.hid (HK0.out.alloc _)
 have HK2:Hid (Blk ((w.alloc (.cells #[.int .i64 5,.int .i64 fr,.int .i64 ds,.int .i64 tm,.bool false,.int .i64 ix,.int .i64 lt,.slice ar nr cr,.int .i64 cm,.string sn,.slice av nv cv] 25)).alloc (.cells #[.int .i64 5,.int .i64 fr,.int .i64 ds,.int .i64 tm,.bool false,.int .i64 0,.int .i64 0,.slice none 0 0,.int .i64 0,.string ⟨#[]⟩,.slice none 0 0] 25)) (w.heap.size+1) 25 [.int .i64 5,.int .i64 fr,.int .i64 ds,.int .i64 tm,.bool false,.int .i64 0,.int .i64 0,.slice none 0 0,.int .i64 0,.string ⟨#[]⟩,.slice none 0 0]):=Lib.hid (by
  have hz:=heap_alloc_new (w.alloc (.cells #[.int .i64 5,.int .i64 fr,.int .i64 ds,.int .i64 tm,.bool false,.int .i64 ix,.int .i64 lt,.slice ar nr cr,.int .i64 cm,.string sn,.slice av nv cv] 25)) (.cells #[.int .i64 5,.int .i64 fr,.int .i64 ds,.int .i64 tm,.bool false,.int .i64 0,.int .i64 0,.slice none 0 0,.int .i64 0,.string ⟨#[]⟩,.slice none 0 0] 25)
  rw [World.size_alloc] at hz
  exact hz)
 have HS2:Hid (((w.alloc (.cells #[.int .i64 5,.int .i64 fr,.int .i64 ds,.int .i64 tm,.bool false,.int .i64 ix,.int .i64 lt,.slice ar nr cr,.int .i64 cm,.string sn,.slice av nv cv] 25)).alloc (.cells #[.int .i64 5,.int .i64 fr,.int .i64 ds,.int .i64 tm,.bool false,.int .i64 0,.int .i64 0,.slice none 0 0,.int .i64 0,.string ⟨#[]⟩,.slice none 0 0] 25)).heap.size=w.heap.size+2):=Lib.hid (by simp)
 have HN:=Lib.hid h.rlen
 have HM:=Lib.hid h.vlen
 have H:=Lib.hid h
 obtain⟨Z,hZ⟩:∃ Z:Int,Z=(((sn:ByteArray).size:Nat):Int):=⟨_,rfl⟩
 obtain⟨rv,hrv'⟩:∃ x,x=b2i (rightV vs):=⟨_,rfl⟩
 obtain⟨al,hal'⟩:∃ x,x=b2i (termsUpto tm rs):=⟨_,rfl⟩
 obtain⟨rg,hrg'⟩:∃ x,x=b2i (rightG ix lt rs):=⟨_,rfl⟩
 have HV:Hid (v=decide (mayZ 5 fr ds tm 0 ix lt cm (nr:Int) Z (nv:Int) rv al rg)):=Lib.hid (by rw [hv.out,mayM_Z,hrv',hal',hrg',hZ,h.rlen,h.vlen]; try rfl)
 have HZ:=Lib.hid hZ
 have HRV0:=Lib.hid hrv'
 have HAL0:=Lib.hid hal'
 have HRG0:=Lib.hid hrg'
 clear hrv' hal' hrg' hZ
 have hb1:=h.nr
 have hb2:=h.nv
 clear h hv
 dsimp only at HN HM
 have HQ1:Hid (Blk (((w.alloc (.cells #[.int .i64 5,.int .i64 fr,.int .i64 ds,.int .i64 tm,.bool false,.int .i64 ix,.int .i64 lt,.slice ar nr cr,.int .i64 cm,.string sn,.slice av nv cv] 25)).alloc (.cells #[.int .i64 5,.int .i64 fr,.int .i64 ds,.int .i64 tm,.bool false,.int .i64 ix,.int .i64 lt,.slice none 0 0,.int .i64 0,.string sn,.slice none 0 0] 25)).drew) w.heap.size 25 [.int .i64 5,.int .i64 fr,.int .i64 ds,.int .i64 tm,.bool false,.int .i64 ix,.int .i64 lt,.slice ar nr cr,.int .i64 cm,.string sn,.slice av nv cv]):=Lib.hid (HK0.out.alloc (.cells #[.int .i64 5,.int .i64 fr,.int .i64 ds,.int .i64 tm,.bool false,.int .i64 ix,.int .i64 lt,.slice none 0 0,.int .i64 0,.string sn,.slice none 0 0] 25))
 have HQ2:Hid (Blk (((w.alloc (.cells #[.int .i64 5,.int .i64 fr,.int .i64 ds,.int .i64 tm,.bool false,.int .i64 ix,.int .i64 lt,.slice ar nr cr,.int .i64 cm,.string sn,.slice av nv cv] 25)).alloc (.cells #[.int .i64 5,.int .i64 fr,.int .i64 ds,.int .i64 tm,.bool false,.int .i64 ix,.int .i64 lt,.slice none 0 0,.int .i64 0,.string sn,.slice none 0 0] 25)).drew) (w.heap.size+1) 25 [.int .i64 5,.int .i64 fr,.int .i64 ds,.int .i64 tm,.bool false,.int .i64 ix,.int .i64 lt,.slice none 0 0,.int .i64 0,.string sn,.slice none 0 0]):=Lib.hid (by
  have hz:=heap_alloc_new (w.alloc (.cells #[.int .i64 5,.int .i64 fr,.int .i64 ds,.int .i64 tm,.bool false,.int .i64 ix,.int .i64 lt,.slice ar nr cr,.int .i64 cm,.string sn,.slice av nv cv] 25)) (.cells #[.int .i64 5,.int .i64 fr,.int .i64 ds,.int .i64 tm,.bool false,.int .i64 ix,.int .i64 lt,.slice none 0 0,.int .i64 0,.string sn,.slice none 0 0] 25)
  rw [World.size_alloc] at hz
  exact hz)
 have HQB:Hid (Below w.heap.size w (((w.alloc (.cells #[.int .i64 5,.int .i64 fr,.int .i64 ds,.int .i64 tm,.bool false,.int .i64 ix,.int .i64 lt,.slice ar nr cr,.int .i64 cm,.string sn,.slice av nv cv] 25)).alloc (.cells #[.int .i64 5,.int .i64 fr,.int .i64 ds,.int .i64 tm,.bool false,.int .i64 ix,.int .i64 lt,.slice none 0 0,.int .i64 0,.string sn,.slice none 0 0] 25)).drew)):=Lib.hid ((HB1.out.alloc (by simp) (.cells #[.int .i64 5,.int .i64 fr,.int .i64 ds,.int .i64 tm,.bool false,.int .i64 ix,.int .i64 lt,.slice none 0 0,.int .i64 0,.string sn,.slice none 0 0] 25)).drew)
 have HQS:Hid (w.heap.size+1<(((w.alloc (.cells #[.int .i64 5,.int .i64 fr,.int .i64 ds,.int .i64 tm,.bool false,.int .i64 ix,.int .i64 lt,.slice ar nr cr,.int .i64 cm,.string sn,.slice av nv cv] 25)).alloc (.cells #[.int .i64 5,.int .i64 fr,.int .i64 ds,.int .i64 tm,.bool false,.int .i64 ix,.int .i64 lt,.slice none 0 0,.int .i64 0,.string sn,.slice none 0 0] 25)).drew).heap.size):=Lib.hid (by show _<(World.alloc _ _).heap.size; simp)
 have hrr:=Lib.hid (fun (W:World) (hw:Below w.heap.size w W)=>qRight_any av nv cv vs W (H.out.voters.keep hw) hb2 false (Lib.hid hrv.symm))
 obtain rfl:rv=0:=by rw [HRV0.out,hrv]; rfl
 clear hrv
 have x0:=HK0.out.cell (j:=0) rfl
 have x1:=HK0.out.cell (j:=1) rfl
 have x2:=HK0.out.cell (j:=2) rfl
 have x3:=HK0.out.cell (j:=3) rfl
 have z0:=HK1.out.cell (j:=0) rfl
 go_enter Tryz.func32,Tryz.ntmps32
 go_upto_block 0 with fail
 clear x0 x1 x2 x3 z0
 go_cut [] (fun w'=>Hid (Blk w' w.heap.size 25 [.int .i64 5,.int .i64 fr,.int .i64 ds,.int .i64 tm,.bool false,.int .i64 ix,.int .i64 lt,.slice ar nr cr,.int .i64 cm,.string sn,.slice av nv cv])∧Hid (Blk w' (w.heap.size+1) 25 [.int .i64 5,.int .i64 fr,.int .i64 ds,.int .i64 tm,.bool false,.int .i64 ix,.int .i64 lt,.slice none 0 0,.int .i64 0,.string sn,.slice none 0 0])∧Hid (Below w.heap.size w w')∧Hid (1≤ix∧1≤lt∧Z≤131072∧(0:Int)=1))
 case first =>
  have x5:=HK1.out.cell (j:=5) rfl
  have y5:=HK2.out.cell (j:=5) rfl
  have x6:=HK1.out.cell (j:=6) rfl
  have y6:=HK2.out.cell (j:=6) rfl
  have x9:=HK1.out.cell (j:=9) rfl
  have y9:=HK2.out.cell (j:=9) rfl
  go_wp2_with fail
  go_region
  clear x5 x6 x9 y5 y6 y9 HK0 HK1 HK2 HB0 HB1 HS2
  generalize ((w.alloc (.cells #[.int .i64 5,.int .i64 fr,.int .i64 ds,.int .i64 tm,.bool false,.int .i64 ix,.int .i64 lt,.slice ar nr cr,.int .i64 cm,.string sn,.slice av nv cv] 25)).alloc (.cells #[.int .i64 5,.int .i64 fr,.int .i64 ds,.int .i64 tm,.bool false,.int .i64 ix,.int .i64 lt,.slice none 0 0,.int .i64 0,.string sn,.slice none 0 0] 25)).drew=W9 at *
  have x5:=HQ1.out.cell (j:=5) rfl
  have x6:=HQ1.out.cell (j:=6) rfl
  have x9:=HQ1.out.cell (j:=9) rfl
  have x10:=HQ1.out.cell (j:=10) rfl
  go_wp2_with fail
  all_goals clear x5 x6 x9 x10
  all_goals first
   | (go_ret
      refine⟨ret_bool ?_,HQB.out⟩
      rw [HV.out]
      symm
      have hz:=HZ.out
      have hsn:=emptyP5 sn Z hz
      first
       | (refine decide_eq_true ?_; (try simp only [beq_iff_eq,bne_iff_ne,ne_eq,Bool.not_eq_true',Bool.not_eq_false',decide_eq_false_iff_not,decide_eq_true_eq,beq_eq_false_iff_ne,bne_eq_false_iff_eq,hsn] at *); unfold mayZ; omega)
       | (refine decide_eq_false ?_; (try simp only [beq_iff_eq,bne_iff_ne,ne_eq,Bool.not_eq_true',Bool.not_eq_false',decide_eq_false_iff_not,decide_eq_true_eq,beq_eq_false_iff_ne,bne_eq_false_iff_eq,hsn] at *); unfold mayZ; omega))
   | (refine (hrr.out _ HQB.out).mono ?_
      rintro e w' ⟨rfl,hbx⟩
      have HBX:=Lib.hid (below_then HQB.out hbx HQB.out.size)
      have HX1:=Lib.hid (HQ1.out.keep hbx)
      have HX2:=Lib.hid (HQ2.out.keep hbx)
      clear hbx
      dsimp only
      go_wp2_with fail
      first
       | (go_ret
          refine⟨ret_bool ?_,HBX.out⟩
          rw [HV.out]
          symm
          have hz:=HZ.out
          have hsn:=emptyP5 sn Z hz
          first
           | (refine decide_eq_true ?_; (try simp only [beq_iff_eq,bne_iff_ne,ne_eq,Bool.not_eq_true',Bool.not_eq_false',decide_eq_false_iff_not,decide_eq_true_eq,beq_eq_false_iff_ne,bne_eq_false_iff_eq,hsn] at *); unfold mayZ; omega)
           | (refine decide_eq_false ?_; (try simp only [beq_iff_eq,bne_iff_ne,ne_eq,Bool.not_eq_true',Bool.not_eq_false',decide_eq_false_iff_not,decide_eq_true_eq,beq_eq_false_iff_ne,bne_eq_false_iff_eq,hsn] at *); unfold mayZ; omega))
       | (go_meet
          refine⟨HX1,HX2,HBX,Lib.hid ?_⟩
          have hz:=HZ.out
          have hsn:=emptyP5 sn Z hz
          (try simp only [beq_iff_eq,bne_iff_ne,ne_eq,Bool.not_eq_true',Bool.not_eq_false',decide_eq_false_iff_not,decide_eq_true_eq,beq_eq_false_iff_ne,bne_eq_false_iff_eq,hsn] at *)
          first
           | omega
           | exact⟨by omega,by omega,by omega,trivial⟩))
 case rest =>
  obtain⟨hk1,hk2,hB,hN5⟩:=hcut
  have x0:=hk1.out.cell (j:=0) rfl
  have x1:=hk1.out.cell (j:=1) rfl
  have x2:=hk1.out.cell (j:=2) rfl
  have x3:=hk1.out.cell (j:=3) rfl
  have x4:=hk1.out.cell (j:=4) rfl
  have x5:=hk1.out.cell (j:=5) rfl
  have x6:=hk1.out.cell (j:=6) rfl
  have x7:=hk1.out.cell (j:=7) rfl
  have x8:=hk1.out.cell (j:=8) rfl
  have x9:=hk1.out.cell (j:=9) rfl
  have x10:=hk1.out.cell (j:=10) rfl
  have y4:=hk2.out.cell (j:=4) rfl
  have y5:=hk2.out.cell (j:=5) rfl
  have y6:=hk2.out.cell (j:=6) rfl
  have y8:=hk2.out.cell (j:=8) rfl
  have y9:=hk2.out.cell (j:=9) rfl
  clear HB0 HB1 HK0 HK1 HK2 HS2 hk2 HQ1 HQ2 HQB HQS hrr hk1
  go_wp2_with (go_at_call 73; refine (ew5_any _ _ _ _).mono ?_; rintro e w' ⟨rfl,rfl⟩)
  all_goals clear x0 x1 x2 x3 x4 x5 x6 x7 x8 x9 x10 y4 y5 y6 y8 y9
  all_goals (
   go_ret
   refine⟨ret_bool ?_,hB.out⟩
   have hn5:=hN5.out
   rw [HV.out]
   symm
   have hz:=HZ.out
   have hsn:=emptyP5 sn Z hz
   first
    | (refine decide_eq_true ?_; (try simp only [beq_iff_eq,bne_iff_ne,ne_eq,Bool.not_eq_true',Bool.not_eq_false',decide_eq_false_iff_not,decide_eq_true_eq,beq_eq_false_iff_ne,bne_eq_false_iff_eq,hsn] at *); unfold mayZ; omega)
    | (refine decide_eq_false ?_; (try simp only [beq_iff_eq,bne_iff_ne,ne_eq,Bool.not_eq_true',Bool.not_eq_false',decide_eq_false_iff_not,decide_eq_true_eq,beq_eq_false_iff_ne,bne_eq_false_iff_eq,hsn] at *); unfold mayZ; omega))
end Go.Proofs.YtlpgbmaoenncjaaGreatDoor
