/-
  The walk of the reference's May: new blocks alone are made; the slices within reach. (Written by wip/mkmay.py.)
-/
import Derived.Test.YtlpgbmaoenncjaaGreatDoorNmD
import Derived.Test.YtlpgbmaoenncjaaGreatDoorNmEa
namespace Go.Proofs.YtlpgbmaoenncjaaGreatDoor
open Go.RowKit
set_option linter.unusedVariables false
set_option linter.unusedSimpArgs false
set_option maxRecDepth 100000 in
set_option maxHeartbeats 1000000 in
theorem rMay3fttf (fr ds tm ix lt cm:Int) (rs:List Rc) (sn:ByteArray) (vs:List Int) (ar:Option Addr) (nr cr:Nat) (av:Option Addr) (nv cv:Nat) (w:World)  (hbi:(ix != 0)=true) (hbl:(lt != 0)=true) (hbc:(cm != 0)=false)(h:MsAt w ⟨3,fr,ds,tm,false,ix,lt,rs,cm,⟨#[]⟩,vs⟩ ar nr cr av nv cv) (v:Bool) (hv:Hid (v=mayM ⟨3,fr,ds,tm,false,ix,lt,rs,cm,⟨#[]⟩,vs⟩)) :
 Calls Tryz.prog 37 #[.agg #[.int .i64 3,.int .i64 fr,.int .i64 ds,.int .i64 tm,.bool false,.int .i64 ix,.int .i64 lt,.slice ar nr cr,.int .i64 cm,.string ⟨#[]⟩,.slice av nv cv]] w fun e w'=>e = .returned (.bool v)∧Below w.heap.size w w':=by
 have HB0:=Lib.hid ((Below.refl _ w).alloc (Nat.le_refl _) (.cells #[.int .i64 3,.int .i64 fr,.int .i64 ds,.int .i64 tm,.bool false,.int .i64 ix,.int .i64 lt,.slice ar nr cr,.int .i64 cm,.string ⟨#[]⟩,.slice av nv cv] 25))
 have HK0:Hid (Blk (w.alloc (.cells #[.int .i64 3,.int .i64 fr,.int .i64 ds,.int .i64 tm,.bool false,.int .i64 ix,.int .i64 lt,.slice ar nr cr,.int .i64 cm,.string ⟨#[]⟩,.slice av nv cv] 25)) w.heap.size 25 [.int .i64 3,.int .i64 fr,.int .i64 ds,.int .i64 tm,.bool false,.int .i64 ix,.int .i64 lt,.slice ar nr cr,.int .i64 cm,.string ⟨#[]⟩,.slice av nv cv]):=Lib.hid (heap_alloc_new w _)
 have HN:=Lib.hid h.rlen
 have HM:=Lib.hid h.vlen
 have H:=Lib.hid h
 obtain⟨Z,hZ⟩:∃ Z:Int,Z=(((⟨#[]⟩:ByteArray).size:Nat):Int):=⟨_,rfl⟩
 obtain⟨rv,hrv'⟩:∃ x,x=b2i (rightV vs):=⟨_,rfl⟩
 obtain⟨al,hal'⟩:∃ x,x=b2i (termsUpto tm rs):=⟨_,rfl⟩
 obtain⟨rg,hrg'⟩:∃ x,x=b2i (rightG ix lt rs):=⟨_,rfl⟩
 have HV:Hid (v=decide (mayZ 3 fr ds tm 0 ix lt cm (nr:Int) Z (nv:Int) rv al rg)):=Lib.hid (by rw [hv.out,mayM_Z,hrv',hal',hrg',hZ,h.rlen,h.vlen]; try rfl)
 have HZ:=Lib.hid hZ
 have HRV0:=Lib.hid hrv'
 have HAL0:=Lib.hid hal'
 have HRG0:=Lib.hid hrg'
 clear hrv' hal' hrg' hZ
 have hb1:=h.nr
 have hb2:=h.nv
 clear h hv
 dsimp only at HN HM
 have hrr:=Lib.hid (fun (W:World) (hw:Below w.heap.size w W)=>r15Right_any ar nr cr ix lt rs W (H.out.recs.keep hw) hb1 (fun r hr=>(H.out.data r hr).1) _ (Lib.hid rfl))
 obtain rfl:Z=0:=HZ.out
 have HBI:=Lib.hid (And.intro hbi (And.intro hbl hbc))
 have x:=HK0.out
 have x0:=x.cell (j:=0) rfl
 have x1:=x.cell (j:=1) rfl
 have x2:=x.cell (j:=2) rfl
 have x3:=x.cell (j:=3) rfl
 have x4:=x.cell (j:=4) rfl
 have x5:=x.cell (j:=5) rfl
 have x6:=x.cell (j:=6) rfl
 have x7:=x.cell (j:=7) rfl
 have x8:=x.cell (j:=8) rfl
 have x9:=x.cell (j:=9) rfl
 have x10:=x.cell (j:=10) rfl
 clear x
 go_enter Tryz.func37,Tryz.ntmps37
 go_wp2_with (go_at_call 83; refine (i17_any _ _ _ _).mono ?_; rintro e w' ⟨rfl,rfl⟩)
 all_goals clear x0 x1 x2 x3 x4 x5 x6 x7 x8 x9 x10
 all_goals first
  | (
    go_ret
    refine⟨ret_bool ?_,(by first | exact (Below.refl _ w).alloc (Nat.le_refl _) _ | exact HB0.out)⟩
    rw [HV.out]
    symm
    have hz:=HZ.out
    first
     | (refine decide_eq_true ?_; (try simp only [beq_iff_eq,bne_iff_ne,ne_eq,Bool.not_eq_true',Bool.not_eq_false',decide_eq_false_iff_not,decide_eq_true_eq,beq_eq_false_iff_ne,bne_eq_false_iff_eq] at *); unfold mayZ; omega)
     | (refine decide_eq_false ?_; (try simp only [beq_iff_eq,bne_iff_ne,ne_eq,Bool.not_eq_true',Bool.not_eq_false',decide_eq_false_iff_not,decide_eq_true_eq,beq_eq_false_iff_ne,bne_eq_false_iff_eq] at *); unfold mayZ; omega)
    )
  | (
    generalize w.alloc (.cells #[.int .i64 3,.int .i64 fr,.int .i64 ds,.int .i64 tm,.bool false,.int .i64 ix,.int .i64 lt,.slice ar nr cr,.int .i64 cm,.string ⟨#[]⟩,.slice av nv cv] 25)=W at *
    go_loopg [4,159] nr (fun gk v4 i wr=>∃ k:Nat,k≤nr∧gk=nr - k∧i = .int .i64 (k:Int)∧Hid (∀ j (hj:j<rs.length),j<k→rs[j].term≤tm)∧Hid (Below W.heap.size W wr))
    case atStart=>exact⟨0,Nat.zero_le _,rfl,rfl,Lib.hid (fun j _ hj=>absurd hj (Nat.not_lt_zero _)),Lib.hid (Below.refl _ _)⟩
    case round =>
     obtain⟨k,hk,rfl,rfl,hA,hB⟩:=hrel
     have HBW:=Lib.hid (below_then HB0.out hB.out HB0.out.size)
     by_cases hkn:k<nr
     ·first
      | (exfalso; omega; done)
      | (
        have hki:(k:Int)<(nr:Int):=by omega
        have hkl:k<rs.length:=by rw [← HN.out]; exact hkn
        obtain⟨b,off,rfl,hc⟩:=rc_at (H.out.recs.keep HBW.out) (by omega)
        obtain⟨c0,c1,c2⟩:=hc k hkl
        have HG:Hid (tm<rs[k].term→termsUpto tm rs=false):=Lib.hid (fun hlt=>by
         cases ha:termsUpto tm rs with
         | false=>rfl
         | true=>have:=of_decide_eq_true (List.all_eq_true.1 ha _ (List.getElem_mem hkl)); omega)
        have HS:Hid (¬ tm<rs[k].term→∀ j (hj:j<rs.length),j<k+1→rs[j].term≤tm):=Lib.hid (fun hlt j hj hjk=>by
         by_cases hjk2:j=k
         ·subst hjk2; omega
         ·exact hA.out j hj (by omega))
        have HBr:=Lib.hid (HBW.out.alloc HBW.out.size (.cells #[.int .i64 rs[k].term,.int .i64 rs[k].kind,.string rs[k].data] 67))
        have HBq:=Lib.hid (hB.out.alloc hB.out.size (.cells #[.int .i64 rs[k].term,.int .i64 rs[k].kind,.string rs[k].data] 67))
        have HX3:=Lib.hid (((HK0.out.keep hB.out).alloc (.cells #[.int .i64 rs[k].term,.int .i64 rs[k].kind,.string rs[k].data] 67)).cell (j:=3) rfl)
        clear hc
        generalize rs[k]=r at *
        obtain⟨rt,rk,rd⟩:=r
        dsimp only at *
        by_cases hgt:tm<rt
        ·have b3:decide (tm<rt)=true:=decide_eq_true hgt
         have hal:=HG.out hgt
         obtain rfl:v=false:=by
          rw [HV.out]
          have ha:=HAL0.out
          rw [hal,show b2i false=0 from rfl] at ha
          exact decide_eq_false (fun hc=>by unfold mayZ at hc; omega)
         clear HG HS hgt hal
         go_upto_region 14 with fail
         have x3:=HX3.out
         go_wp2_with fail
         go_ret
         exact⟨rfl,HBr.out⟩
        ·have b3:decide (tm<rt)=false:=decide_eq_false hgt
         have hA2:=Lib.hid (HS.out hgt)
         clear HG HS hgt
         go_upto_region 14 with fail
         have x3:=HX3.out
         go_wp2_with fail
         go_roundg (nr - (k+1))
         case rel=>exact⟨k+1,by omega,rfl,by go_num,hA2,HBq⟩
         case measure=>omega)
     ·have hki:(nr:Int)≤(k:Int):=by omega
      have hal:termsUpto tm rs=true:=by
       unfold termsUpto
       rw [List.all_eq_true]
       intro r hr
       obtain⟨j,hj,rfl⟩:=List.getElem_of_mem hr
       exact decide_eq_true (hA.out j hj (by have:=HN.out; omega))
      have HAL:=Lib.hid hal
      clear hal
      have hx:=HK0.out.keep hB.out
      have x5:=hx.cell (j:=5) rfl; have x6:=hx.cell (j:=6) rfl; have x7:=hx.cell (j:=7) rfl
      clear hx
      by_cases h20:(nr:Int)≤20
      ·have b20:decide ((nr:Int)≤20)=true:=decide_eq_true h20
       go_wp2_with fail
       refine (hrr.out _ HBW.out).mono ?_
       rintro e w2 ⟨rfl,hb2'⟩
       have HBz:=Lib.hid (below_then HBW.out hb2' HBW.out.size)
       clear hb2' x5 x6 x7
       go_wp2_with fail
       go_ret
       refine⟨ret_bool ?_,HBz.out⟩
       have hal:=HAL.out
       cases hrg:rightG ix lt rs
       all_goals rw [hrg] at HRG0
       all_goals (
       have hrz:=HRG0.out
       have hb0:b2i true=1:=rfl
       have hb00:b2i false=0:=rfl
       rw [HV.out]
       symm
       skip
       have hr:=HRG0.out
       have ha:=HAL0.out
       rw [hal,show b2i true=1 from rfl] at ha
       first
        | (refine decide_eq_false ?_; (try simp only [beq_iff_eq,bne_iff_ne,ne_eq,Bool.not_eq_true',Bool.not_eq_false',decide_eq_false_iff_not,decide_eq_true_eq,beq_eq_false_iff_ne,bne_eq_false_iff_eq] at *); unfold mayZ; omega)
        | (refine decide_eq_true ?_; (try simp only [beq_iff_eq,bne_iff_ne,ne_eq,Bool.not_eq_true',Bool.not_eq_false',decide_eq_false_iff_not,decide_eq_true_eq,beq_eq_false_iff_ne,bne_eq_false_iff_eq] at *); unfold mayZ; omega))
      ·first
       | (exfalso; omega; done)
       | (
       have b20:decide ((nr:Int)≤20)=false:=decide_eq_false h20
       go_wp2_with fail
       go_ret
       refine⟨ret_bool ?_,HBW.out⟩
       have hal:=HAL.out
       rw [HV.out]
       symm
       have hq:=b2i_r (rightG ix lt rs)
       have hr:=HRG0.out
       have ha:=HAL0.out
       rw [hal,show b2i true=1 from rfl] at ha
       first
        | (refine decide_eq_false ?_; (try simp only [beq_iff_eq,bne_iff_ne,ne_eq,Bool.not_eq_true',Bool.not_eq_false',decide_eq_false_iff_not,decide_eq_true_eq,beq_eq_false_iff_ne,bne_eq_false_iff_eq] at *); unfold mayZ; omega)
        | (refine decide_eq_true ?_; (try simp only [beq_iff_eq,bne_iff_ne,ne_eq,Bool.not_eq_true',Bool.not_eq_false',decide_eq_false_iff_not,decide_eq_true_eq,beq_eq_false_iff_ne,bne_eq_false_iff_eq] at *); unfold mayZ; omega))
    )
set_option maxRecDepth 100000 in
set_option maxHeartbeats 1000000 in
theorem rMay3fttt (fr ds tm ix lt cm:Int) (rs:List Rc) (sn:ByteArray) (vs:List Int) (ar:Option Addr) (nr cr:Nat) (av:Option Addr) (nv cv:Nat) (w:World)  (hbi:(ix != 0)=true) (hbl:(lt != 0)=true) (hbc:(cm != 0)=true)(h:MsAt w ⟨3,fr,ds,tm,false,ix,lt,rs,cm,⟨#[]⟩,vs⟩ ar nr cr av nv cv) (v:Bool) (hv:Hid (v=mayM ⟨3,fr,ds,tm,false,ix,lt,rs,cm,⟨#[]⟩,vs⟩)) :
 Calls Tryz.prog 37 #[.agg #[.int .i64 3,.int .i64 fr,.int .i64 ds,.int .i64 tm,.bool false,.int .i64 ix,.int .i64 lt,.slice ar nr cr,.int .i64 cm,.string ⟨#[]⟩,.slice av nv cv]] w fun e w'=>e = .returned (.bool v)∧Below w.heap.size w w':=by
 have HB0:=Lib.hid ((Below.refl _ w).alloc (Nat.le_refl _) (.cells #[.int .i64 3,.int .i64 fr,.int .i64 ds,.int .i64 tm,.bool false,.int .i64 ix,.int .i64 lt,.slice ar nr cr,.int .i64 cm,.string ⟨#[]⟩,.slice av nv cv] 25))
 have HK0:Hid (Blk (w.alloc (.cells #[.int .i64 3,.int .i64 fr,.int .i64 ds,.int .i64 tm,.bool false,.int .i64 ix,.int .i64 lt,.slice ar nr cr,.int .i64 cm,.string ⟨#[]⟩,.slice av nv cv] 25)) w.heap.size 25 [.int .i64 3,.int .i64 fr,.int .i64 ds,.int .i64 tm,.bool false,.int .i64 ix,.int .i64 lt,.slice ar nr cr,.int .i64 cm,.string ⟨#[]⟩,.slice av nv cv]):=Lib.hid (heap_alloc_new w _)
 have HN:=Lib.hid h.rlen
 have HM:=Lib.hid h.vlen
 have H:=Lib.hid h
 obtain⟨Z,hZ⟩:∃ Z:Int,Z=(((⟨#[]⟩:ByteArray).size:Nat):Int):=⟨_,rfl⟩
 obtain⟨rv,hrv'⟩:∃ x,x=b2i (rightV vs):=⟨_,rfl⟩
 obtain⟨al,hal'⟩:∃ x,x=b2i (termsUpto tm rs):=⟨_,rfl⟩
 obtain⟨rg,hrg'⟩:∃ x,x=b2i (rightG ix lt rs):=⟨_,rfl⟩
 have HV:Hid (v=decide (mayZ 3 fr ds tm 0 ix lt cm (nr:Int) Z (nv:Int) rv al rg)):=Lib.hid (by rw [hv.out,mayM_Z,hrv',hal',hrg',hZ,h.rlen,h.vlen]; try rfl)
 have HZ:=Lib.hid hZ
 have HRV0:=Lib.hid hrv'
 have HAL0:=Lib.hid hal'
 have HRG0:=Lib.hid hrg'
 clear hrv' hal' hrg' hZ
 have hb1:=h.nr
 have hb2:=h.nv
 clear h hv
 dsimp only at HN HM
 have hrr:=Lib.hid (fun (W:World) (hw:Below w.heap.size w W)=>r15Right_any ar nr cr ix lt rs W (H.out.recs.keep hw) hb1 (fun r hr=>(H.out.data r hr).1) _ (Lib.hid rfl))
 obtain rfl:Z=0:=HZ.out
 have HBI:=Lib.hid (And.intro hbi (And.intro hbl hbc))
 have x:=HK0.out
 have x0:=x.cell (j:=0) rfl
 have x1:=x.cell (j:=1) rfl
 have x2:=x.cell (j:=2) rfl
 have x3:=x.cell (j:=3) rfl
 have x4:=x.cell (j:=4) rfl
 have x5:=x.cell (j:=5) rfl
 have x6:=x.cell (j:=6) rfl
 have x7:=x.cell (j:=7) rfl
 have x8:=x.cell (j:=8) rfl
 have x9:=x.cell (j:=9) rfl
 have x10:=x.cell (j:=10) rfl
 clear x
 go_enter Tryz.func37,Tryz.ntmps37
 go_wp2_with (go_at_call 83; refine (i17_any _ _ _ _).mono ?_; rintro e w' ⟨rfl,rfl⟩)
 all_goals clear x0 x1 x2 x3 x4 x5 x6 x7 x8 x9 x10
 all_goals first
  | (
    go_ret
    refine⟨ret_bool ?_,(by first | exact (Below.refl _ w).alloc (Nat.le_refl _) _ | exact HB0.out)⟩
    rw [HV.out]
    symm
    have hz:=HZ.out
    first
     | (refine decide_eq_true ?_; (try simp only [beq_iff_eq,bne_iff_ne,ne_eq,Bool.not_eq_true',Bool.not_eq_false',decide_eq_false_iff_not,decide_eq_true_eq,beq_eq_false_iff_ne,bne_eq_false_iff_eq] at *); unfold mayZ; omega)
     | (refine decide_eq_false ?_; (try simp only [beq_iff_eq,bne_iff_ne,ne_eq,Bool.not_eq_true',Bool.not_eq_false',decide_eq_false_iff_not,decide_eq_true_eq,beq_eq_false_iff_ne,bne_eq_false_iff_eq] at *); unfold mayZ; omega)
    )
  | (
    generalize w.alloc (.cells #[.int .i64 3,.int .i64 fr,.int .i64 ds,.int .i64 tm,.bool false,.int .i64 ix,.int .i64 lt,.slice ar nr cr,.int .i64 cm,.string ⟨#[]⟩,.slice av nv cv] 25)=W at *
    go_loopg [4,159] nr (fun gk v4 i wr=>∃ k:Nat,k≤nr∧gk=nr - k∧i = .int .i64 (k:Int)∧Hid (∀ j (hj:j<rs.length),j<k→rs[j].term≤tm)∧Hid (Below W.heap.size W wr))
    case atStart=>exact⟨0,Nat.zero_le _,rfl,rfl,Lib.hid (fun j _ hj=>absurd hj (Nat.not_lt_zero _)),Lib.hid (Below.refl _ _)⟩
    case round =>
     obtain⟨k,hk,rfl,rfl,hA,hB⟩:=hrel
     have HBW:=Lib.hid (below_then HB0.out hB.out HB0.out.size)
     by_cases hkn:k<nr
     ·first
      | (exfalso; omega; done)
      | (
        have hki:(k:Int)<(nr:Int):=by omega
        have hkl:k<rs.length:=by rw [← HN.out]; exact hkn
        obtain⟨b,off,rfl,hc⟩:=rc_at (H.out.recs.keep HBW.out) (by omega)
        obtain⟨c0,c1,c2⟩:=hc k hkl
        have HG:Hid (tm<rs[k].term→termsUpto tm rs=false):=Lib.hid (fun hlt=>by
         cases ha:termsUpto tm rs with
         | false=>rfl
         | true=>have:=of_decide_eq_true (List.all_eq_true.1 ha _ (List.getElem_mem hkl)); omega)
        have HS:Hid (¬ tm<rs[k].term→∀ j (hj:j<rs.length),j<k+1→rs[j].term≤tm):=Lib.hid (fun hlt j hj hjk=>by
         by_cases hjk2:j=k
         ·subst hjk2; omega
         ·exact hA.out j hj (by omega))
        have HBr:=Lib.hid (HBW.out.alloc HBW.out.size (.cells #[.int .i64 rs[k].term,.int .i64 rs[k].kind,.string rs[k].data] 67))
        have HBq:=Lib.hid (hB.out.alloc hB.out.size (.cells #[.int .i64 rs[k].term,.int .i64 rs[k].kind,.string rs[k].data] 67))
        have HX3:=Lib.hid (((HK0.out.keep hB.out).alloc (.cells #[.int .i64 rs[k].term,.int .i64 rs[k].kind,.string rs[k].data] 67)).cell (j:=3) rfl)
        clear hc
        generalize rs[k]=r at *
        obtain⟨rt,rk,rd⟩:=r
        dsimp only at *
        by_cases hgt:tm<rt
        ·have b3:decide (tm<rt)=true:=decide_eq_true hgt
         have hal:=HG.out hgt
         obtain rfl:v=false:=by
          rw [HV.out]
          have ha:=HAL0.out
          rw [hal,show b2i false=0 from rfl] at ha
          exact decide_eq_false (fun hc=>by unfold mayZ at hc; omega)
         clear HG HS hgt hal
         go_upto_region 14 with fail
         have x3:=HX3.out
         go_wp2_with fail
         go_ret
         exact⟨rfl,HBr.out⟩
        ·have b3:decide (tm<rt)=false:=decide_eq_false hgt
         have hA2:=Lib.hid (HS.out hgt)
         clear HG HS hgt
         go_upto_region 14 with fail
         have x3:=HX3.out
         go_wp2_with fail
         go_roundg (nr - (k+1))
         case rel=>exact⟨k+1,by omega,rfl,by go_num,hA2,HBq⟩
         case measure=>omega)
     ·have hki:(nr:Int)≤(k:Int):=by omega
      have hal:termsUpto tm rs=true:=by
       unfold termsUpto
       rw [List.all_eq_true]
       intro r hr
       obtain⟨j,hj,rfl⟩:=List.getElem_of_mem hr
       exact decide_eq_true (hA.out j hj (by have:=HN.out; omega))
      have HAL:=Lib.hid hal
      clear hal
      have hx:=HK0.out.keep hB.out
      have x5:=hx.cell (j:=5) rfl; have x6:=hx.cell (j:=6) rfl; have x7:=hx.cell (j:=7) rfl
      clear hx
      by_cases h20:(nr:Int)≤20
      ·have b20:decide ((nr:Int)≤20)=true:=decide_eq_true h20
       go_wp2_with fail
       refine (hrr.out _ HBW.out).mono ?_
       rintro e w2 ⟨rfl,hb2'⟩
       have HBz:=Lib.hid (below_then HBW.out hb2' HBW.out.size)
       clear hb2' x5 x6 x7
       go_wp2_with fail
       go_ret
       refine⟨ret_bool ?_,HBz.out⟩
       have hal:=HAL.out
       cases hrg:rightG ix lt rs
       all_goals rw [hrg] at HRG0
       all_goals (
       have hrz:=HRG0.out
       have hb0:b2i true=1:=rfl
       have hb00:b2i false=0:=rfl
       rw [HV.out]
       symm
       skip
       have hr:=HRG0.out
       have ha:=HAL0.out
       rw [hal,show b2i true=1 from rfl] at ha
       first
        | (refine decide_eq_false ?_; (try simp only [beq_iff_eq,bne_iff_ne,ne_eq,Bool.not_eq_true',Bool.not_eq_false',decide_eq_false_iff_not,decide_eq_true_eq,beq_eq_false_iff_ne,bne_eq_false_iff_eq] at *); unfold mayZ; omega)
        | (refine decide_eq_true ?_; (try simp only [beq_iff_eq,bne_iff_ne,ne_eq,Bool.not_eq_true',Bool.not_eq_false',decide_eq_false_iff_not,decide_eq_true_eq,beq_eq_false_iff_ne,bne_eq_false_iff_eq] at *); unfold mayZ; omega))
      ·first
       | (exfalso; omega; done)
       | (
       have b20:decide ((nr:Int)≤20)=false:=decide_eq_false h20
       go_wp2_with fail
       go_ret
       refine⟨ret_bool ?_,HBW.out⟩
       have hal:=HAL.out
       rw [HV.out]
       symm
       have hq:=b2i_r (rightG ix lt rs)
       have hr:=HRG0.out
       have ha:=HAL0.out
       rw [hal,show b2i true=1 from rfl] at ha
       first
        | (refine decide_eq_false ?_; (try simp only [beq_iff_eq,bne_iff_ne,ne_eq,Bool.not_eq_true',Bool.not_eq_false',decide_eq_false_iff_not,decide_eq_true_eq,beq_eq_false_iff_ne,bne_eq_false_iff_eq] at *); unfold mayZ; omega)
        | (refine decide_eq_true ?_; (try simp only [beq_iff_eq,bne_iff_ne,ne_eq,Bool.not_eq_true',Bool.not_eq_false',decide_eq_false_iff_not,decide_eq_true_eq,beq_eq_false_iff_ne,bne_eq_false_iff_eq] at *); unfold mayZ; omega))
    )
end Go.Proofs.YtlpgbmaoenncjaaGreatDoor
