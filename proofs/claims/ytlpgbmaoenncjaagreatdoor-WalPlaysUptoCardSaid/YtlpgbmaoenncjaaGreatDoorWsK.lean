/-
  The walk of wal.Save.
-/
import Derived.Test.YtlpgbmaoenncjaaGreatDoorWsX
import Derived.Test.YtlpgbmaoenncjaaGreatDoorWsRest
import Derived.Test.YtlpgbmaoenncjaaGreatDoorShelf
namespace Go.Proofs.YtlpgbmaoenncjaaGreatDoor
open Go.RowKit
set_option linter.unusedVariables false
set_option maxRecDepth 100000
theorem equal_any (a b:Option Addr) (n m c d:Nat) (xs ys:List Int) (w:World) (h1:SlAt w a n (i64s xs)) (h2:SlAt w b m (i64s ys)) (hn:n≤9223372036854775807) (hm:m≤9223372036854775807) :
 Calls Tryz.prog 52 #[.slice a n c,.slice b m d] w fun e w'=>e = .returned (.bool (decide (xs=ys)))∧∃ k,w'=w.drewN k:=by
 have l1:n=xs.length:=by have:=h1.1; rwa [i64s_length] at this
 have l2:m=ys.length:=by have:=h2.1; rwa [i64s_length] at this
 by_cases hnm:n=m
 ·by_cases h0:n=0
  ·have e1:xs=[]:=List.eq_nil_of_length_eq_zero (by omega)
   have e2:ys=[]:=List.eq_nil_of_length_eq_zero (by omega)
   subst h0
   refine (Tryz.slices_Equal_int_empty a b c m d w hm).mono ?_
   rintro e w' ⟨rfl,rfl⟩
   exact⟨ret_bool (by rw [e1,e2,← hnm]; rfl),0,rfl⟩
  ·obtain⟨-,b1,o1,rfl,hc1⟩:=SlAt.i64 h1 (by omega)
   obtain⟨-,b2,o2,rfl,hc2⟩:=SlAt.i64 h2 (by omega)
   refine (Tryz.slices_Equal_int b1 o1 n c b2 o2 m d xs ys w (by omega) (by omega) hn hm (fun j hj=>?_) (fun j hj=>?_)).mono ?_
   ·rw [hc1 j hj,List.getD_eq_getElem?_getD,List.getElem?_eq_getElem hj]; rfl
   ·rw [hc2 j hj,List.getD_eq_getElem?_getD,List.getElem?_eq_getElem hj]; rfl
   rintro e w' ⟨rfl,k,rfl⟩
   refine⟨ret_bool ?_,k,rfl⟩
   rw [l1,l2,List.take_length,List.take_length]
   by_cases h:xs=ys
   ·subst h; simp
   ·rw [decide_eq_false h]; simpa using h
 ·refine (Tryz.slices_Equal_int_lens a b n c m d w hnm).mono ?_
  rintro e w' ⟨rfl,rfl⟩
  exact⟨ret_bool (decide_eq_false (fun h=>hnm (by rw [l1,l2,h]))).symm,0,rfl⟩
set_option maxHeartbeats 6000000 in
theorem wsave_any (a:Option Addr) (n c:Nat) (d:Dk) (old now:Hd) (ar:Option Addr) (nr cr:Nat) (av:Option Addr) (nv cv:Nat) (ar1:Option Addr) (nr1 cr1:Nat) (av1:Option Addr) (nv1 cv1:Nat) (w:World) (hd:DkAt w a n c d)
 (H:HdAt w old ar nr cr av nv cv) (H1:HdAt w now ar1 nr1 cr1 av1 nv1 cv1) (htab:Lib.TabIs Tryz.prog w "internal/strconv.uint64pow10" .u64 Lib.pow10Tab)
 (HSTEPS:Hid (∀ (a:Option Addr) (n c:Nat) (d:Dk) (sa:Option Addr) (ns cs:Nat) (L:List Stp) (W:World),DkAt W a n c d→stE.Sl W sa ns L→(∀ s∈L,StOk s)→ns≤1000000→Calls Tryz.prog 56 #[d.val a n c,.slice sa ns cs] W (RetDk W (stepsS d L))))
 (HANEW:Hid (∀ (a:Option Addr) (n c:Nat) (d:Dk) (h:Hd) (ar:Option Addr) (nr cr:Nat) (av:Option Addr) (nv cv:Nat) (W:World),DkAt W a n c d→HdAt W h ar nr cr av nv cv→Lib.TabIs Tryz.prog W "internal/strconv.uint64pow10" .u64 Lib.pow10Tab→rightH h=true→Calls Tryz.prog 53 #[d.val a n c,h.val ar nr cr av nv cv] W (RetDk W (anewS d h)))) :
 Calls Tryz.prog 19 #[d.val a n c,old.val ar nr cr av nv cv,now.val ar1 nr1 cr1 av1 nv1 cv1] w (RetDk w (saveS d old now)):=by
 have HT:=Lib.hid (Lib.tabBelow_of_tabIs htab)
 obtain⟨r,hr0⟩:∃ r,r=saveS d old now:=⟨_,rfl⟩
 rw [← hr0]
 unfold saveS at hr0
 have HRD:Hid (∀ W,Below w.heap.size w W→Calls Tryz.prog 50 #[d.val a n c] W fun e w'=>e = .returned (.bool (rightD d))∧Below W.heap.size W w'):=Lib.hid fun W hb=>dkRight_any a n c d W (hd.keep hb) _ (Lib.hid rfl)
 have HRO:Hid (∀ W,Below w.heap.size w W→Calls Tryz.prog 23 #[old.val ar nr cr av nv cv] W fun e w'=>e = .returned (.bool (rightH old))∧Below W.heap.size W w'):=Lib.hid fun W hb=>wright_any old ar nr cr av nv cv W (H.keep hb) (HT.out _ hb) _ (Lib.hid rfl)
 have HRN:Hid (∀ W,Below w.heap.size w W→Calls Tryz.prog 23 #[now.val ar1 nr1 cr1 av1 nv1 cv1] W fun e w'=>e = .returned (.bool (rightH now))∧Below W.heap.size W w'):=Lib.hid fun W hb=>wright_any now ar1 nr1 cr1 av1 nv1 cv1 W (H1.keep hb) (HT.out _ hb) _ (Lib.hid rfl)
 have HHS:Hid (∀ W,Below w.heap.size w W→Calls Tryz.prog 51 #[d.val a n c,.string logN] W fun e w'=>e = .returned (.bool (hasB d logN))∧Below W.heap.size W w'):=Lib.hid fun W hb=>has_any a n c d logN W (hd.keep hb) _ (Lib.hid rfl)
 have HEQ:Hid (∀ W,Below w.heap.size w W→Calls Tryz.prog 52 #[.slice av nv cv,.slice av1 nv1 cv1] W fun e w'=>e = .returned (.bool (decide (old.voters=now.voters)))∧∃ k,w'=W.drewN k):=Lib.hid fun W hb=>equal_any av av1 nv nv1 cv cv1 old.voters now.voters W (H.voters.keep hb) (H1.voters.keep hb) (by have:=H.nv; omega) (by have:=H1.nv; omega)
 have HAN:Hid (rightH now=true→∀ W,Below w.heap.size w W→Calls Tryz.prog 53 #[d.val a n c,now.val ar1 nr1 cr1 av1 nv1 cv1] W (RetDk W (anewS d now))):=Lib.hid fun h1 W hb=>HANEW.out a n c d now ar1 nr1 cr1 av1 nv1 cv1 W (hd.keep hb) (H1.keep hb) (HT.out _ hb) h1
 have HPT:Hid (rightH old=true→rightH now=true→∀ W cs,Below w.heap.size w W→V.At W (fun p=>p<W.heap.size) (changeV old now) cs→Calls Tryz.prog 36 #[.agg cs.toArray] W (fun e w'=>e = .returned (.tuple #[.string (putGot (changeV old now)).1,.int .i64 (putGot (changeV old now)).2])∧Below W.heap.size W w')) :=
  Lib.hid fun ho hr W cs hb hat=>put_any (fun p=>p<W.heap.size) (changeV old now) cs W (fun _ h=>h) hat (changeV_small ho hr).1 (changeV_inR ho hr) (changeV_small ho hr).2 (HT.out _ hb) _ (Lib.hid rfl)
 have HLN:Hid (rightH old=true→rightH now=true→(0≤now.base∧now.base+(now.recs.length:Int)≤1073741824)∧nr≤200∧nr1≤200):=Lib.hid fun ho hr=>⟨right_log hr,by have:=(shaped_in (rightH_shaped ho)).1.2.2.1.2.2.2.2.2.1; rw [← H.rlen] at this; exact this,by have:=(shaped_in (rightH_shaped hr)).1.2.2.1.2.2.2.2.2.1; rw [← H1.rlen] at this; exact this⟩
 have hcap:=H1.cap
 have HN:=Lib.hid H.rlen
 have HN1:=Lib.hid H1.rlen
 have HRC:=Lib.hid H.recs
 have HRC1:=Lib.hid H1.recs
 have HSN:=Lib.hid (sameN_le old.recs now.recs)
 have HS:=Lib.hid (sv_start w [.int .i64 old.term,.int .i64 old.vote,.int .i64 old.base,.int .i64 old.bt,.slice ar nr cr,.string old.snap,.slice av nv cv] [.int .i64 now.term,.int .i64 now.vote,.int .i64 now.base,.int .i64 now.bt,.slice ar1 nr1 cr1,.string now.snap,.slice av1 nv1 cv1] hd)
 obtain⟨b1,hb1⟩:∃ b,b=rightD d:=⟨_,rfl⟩
 obtain⟨b2,hb2⟩:∃ b,b=rightH old:=⟨_,rfl⟩
 obtain⟨b3,hb3⟩:∃ b,b=rightH now:=⟨_,rfl⟩
 rw [← hb1,← hb2,← hb3] at hr0
 rw [← hb1] at HRD
 rw [← hb2] at HRO HPT HLN
 rw [← hb3] at HRN HPT HAN HLN
 obtain⟨G,hG⟩:∃ G,G=putGot (changeV old now):=⟨_,rfl⟩
 rw [← hG] at HPT
 unfold goS alikeH at hr0
 rw [← hG] at hr0
 have hkb:=hasB_not d logN
 obtain⟨k,hk⟩:∃ k,k=hasB d logN:=⟨_,rfl⟩
 rw [← hk] at HHS hkb
 have HKB:=Lib.hid hkb
 unfold changeV at HPT
 have HR:=Lib.hid hr0
 obtain⟨AN,hAN⟩:∃ AN,AN=anewS d now:=⟨_,rfl⟩
 rw [← hAN] at HR HAN
 clear hd H H1 htab hr0 hb1 hb2 hb3 hG hk hAN hkb HANEW
 obtain⟨P1,P2⟩:=G
 obtain⟨tm,vt,bs,bt,rs,sn,vs⟩:=old
 obtain⟨tm1,vt1,bs1,bt1,rs1,sn1,vs1⟩:=now
 obtain⟨rm,fl,lf,dn⟩:=d
 unfold Hd.val Dk.val logN at *
 dsimp only at *
 have q0:=HS.out.box.c0; have q1:=HS.out.box.c1; have q2:=HS.out.box.c2; have q3:=HS.out.box.c3
 go_enter Tryz.func19,Tryz.ntmps19
 go_wp2_with fail
 refine (HRD.out _ HS.out.bel).mono ?_
 rintro e w1 ⟨rfl,hb1⟩
 dsimp only
 have HS1:=Lib.hid (HS.out.keep hb1)
 clear q0 q1 q2 q3 HS hb1 HRD
 cases b1 with
 | false =>
   have HRR:=Lib.hid (show r=(⟨rm,fl,lf,dn⟩,1) from HR.out.trans (if_pos (.inl rfl)))
   have q0:=HS1.out.box.c0; have q1:=HS1.out.box.c1; have q2:=HS1.out.box.c2; have q3:=HS1.out.box.c3
   have o0:=HS1.out.out.c0; have o1:=HS1.out.out.c1; have o2:=HS1.out.out.c2; have o3:=HS1.out.out.c3
   have g0:=HS1.out.out.free 0; have g1:=HS1.out.out.free 1; have g2:=HS1.out.out.free 2; have g3:=HS1.out.out.free 3
   have HF:=Lib.hid (HS1.out.ret HS1.out.at_ 1)
   dsimp only at q0 q1 q2 q3 HF
   go_wp2_with fail
   refine bodyPost_ret (v:=.tuple #[.agg #[.int .i64 rm,.slice a n c,.int .i64 lf,.bool dn],.int .i64 1]) ?_ rfl ?_
   ·rw [results_cell_tmp rfl]; go_simp
   ·rw [HRR.out]; exact HF.out
 | true =>
   have x0:=HS1.out.hd.cell (j:=0) rfl; have x1:=HS1.out.hd.cell (j:=1) rfl; have x2:=HS1.out.hd.cell (j:=2) rfl; have x3:=HS1.out.hd.cell (j:=3) rfl; have x4:=HS1.out.hd.cell (j:=4) rfl; have x5:=HS1.out.hd.cell (j:=5) rfl; have x6:=HS1.out.hd.cell (j:=6) rfl
   go_wp2_with fail
   refine (HRO.out _ HS1.out.bel).mono ?_
   rintro e w2 ⟨rfl,hb2⟩
   dsimp only
   have HS2:=Lib.hid (HS1.out.keep hb2)
   clear x0 x1 x2 x3 x4 x5 x6 HS1 hb2 HRO
   cases b2 with
   | false =>
     have HRR:=Lib.hid (show r=(⟨rm,fl,lf,dn⟩,1) from HR.out.trans (if_pos (.inr (.inl rfl))))
     have q0:=HS2.out.box.c0; have q1:=HS2.out.box.c1; have q2:=HS2.out.box.c2; have q3:=HS2.out.box.c3
     have o0:=HS2.out.out.c0; have o1:=HS2.out.out.c1; have o2:=HS2.out.out.c2; have o3:=HS2.out.out.c3
     have g0:=HS2.out.out.free 0; have g1:=HS2.out.out.free 1; have g2:=HS2.out.out.free 2; have g3:=HS2.out.out.free 3
     have HF:=Lib.hid (HS2.out.ret HS2.out.at_ 1)
     dsimp only at q0 q1 q2 q3 HF
     go_wp2_with fail
     refine bodyPost_ret (v:=.tuple #[.agg #[.int .i64 rm,.slice a n c,.int .i64 lf,.bool dn],.int .i64 1]) ?_ rfl ?_
     ·rw [results_cell_tmp rfl]; go_simp
     ·rw [HRR.out]; exact HF.out
   | true =>
     have y0:=HS2.out.nw.cell (j:=0) rfl; have y1:=HS2.out.nw.cell (j:=1) rfl; have y2:=HS2.out.nw.cell (j:=2) rfl; have y3:=HS2.out.nw.cell (j:=3) rfl; have y4:=HS2.out.nw.cell (j:=4) rfl; have y5:=HS2.out.nw.cell (j:=5) rfl; have y6:=HS2.out.nw.cell (j:=6) rfl
     go_wp2_with fail
     refine (HRN.out _ HS2.out.bel).mono ?_
     rintro e w3 ⟨rfl,hb3⟩
     dsimp only
     have HS3:=Lib.hid (HS2.out.keep hb3)
     clear y0 y1 y2 y3 y4 y5 y6 HS2 hb3 HRN
     cases b3 with
     | false =>
       have HRR:=Lib.hid (show r=(⟨rm,fl,lf,dn⟩,1) from HR.out.trans (if_pos (.inr (.inr rfl))))
       have q0:=HS3.out.box.c0; have q1:=HS3.out.box.c1; have q2:=HS3.out.box.c2; have q3:=HS3.out.box.c3
       have o0:=HS3.out.out.c0; have o1:=HS3.out.out.c1; have o2:=HS3.out.out.c2; have o3:=HS3.out.out.c3
       have g0:=HS3.out.out.free 0; have g1:=HS3.out.out.free 1; have g2:=HS3.out.out.free 2; have g3:=HS3.out.out.free 3
       have HF:=Lib.hid (HS3.out.ret HS3.out.at_ 1)
       dsimp only at q0 q1 q2 q3 HF
       go_wp2_with fail
       refine bodyPost_ret (v:=.tuple #[.agg #[.int .i64 rm,.slice a n c,.int .i64 lf,.bool dn],.int .i64 1]) ?_ rfl ?_
       ·rw [results_cell_tmp rfl]; go_simp
       ·rw [HRR.out]; exact HF.out
     | true =>
       have HR:=Lib.hid (HR.out.trans (if_neg (by simp)))
       have HPT2:=Lib.hid (HPT.out (by trivial) (by trivial))
       have HLN2:=Lib.hid (HLN.out (by trivial) (by trivial))
       have HAN2:=Lib.hid (HAN.out (by trivial))
       clear HPT HAN HLN
       cases dn with
       | true =>
         have HRR:=Lib.hid (show r=(⟨rm,fl,lf,true⟩,132) from HR.out.trans (if_pos rfl))
         have q0:=HS3.out.box.c0; have q1:=HS3.out.box.c1; have q2:=HS3.out.box.c2; have q3:=HS3.out.box.c3
         have o0:=HS3.out.out.c0; have o1:=HS3.out.out.c1; have o2:=HS3.out.out.c2; have o3:=HS3.out.out.c3
         have g0:=HS3.out.out.free 0; have g1:=HS3.out.out.free 1; have g2:=HS3.out.out.free 2; have g3:=HS3.out.out.free 3
         have HF:=Lib.hid (HS3.out.ret HS3.out.at_ 132)
         dsimp only at q0 q1 q2 q3 HF
         go_wp2_with fail
         refine bodyPost_ret (v:=.tuple #[.agg #[.int .i64 rm,.slice a n c,.int .i64 lf,.bool true],.int .i64 132]) ?_ rfl ?_
         ·rw [results_cell_tmp rfl]; go_simp
         ·rw [HRR.out]; exact HF.out
       | false =>
         have HR:=Lib.hid (HR.out.trans (if_neg (by decide)))
         have q0:=HS3.out.box.c0; have q1:=HS3.out.box.c1; have q2:=HS3.out.box.c2; have q3:=HS3.out.box.c3
         dsimp only at q0 q1 q2 q3
         go_upto_region 5 with fail
         clear q0 q1 q2 q3
         refine wp_region_lastV (regOf Tryz.f19 5) [some 34,some 35,some 36,some 37,some 8,some 9,none] 7 (wslT (w.heap.size+1) (w.heap.size+1+1) bs bt ar nr cr bs1 bt1 ar1 nr1 cr1 w3) (CTwo w3 40 4 5 6 [.int .i64 0,.int .i64 0,.slice none 0 0] [.int .i64 bs,.int .i64 bt,.slice ar nr cr]) wslD (by kernel_rfl) (by kernel_rfl) (by kernel_rfl) (by kernel_rfl) (by kernel_rfl) (by kernel_rfl) (by kernel_rfl) CTwo.start (wsl_steps (w.heap.size+1) (w.heap.size+1+1) bs bt ar nr cr bs1 bt1 ar1 nr1 cr1 w3 (lt_of_block HS3.out.hd) (HS3.out.hd.cell (j:=2) rfl) (HS3.out.hd.cell (j:=3) rfl) (HS3.out.hd.cell (j:=4) rfl) (lt_of_block HS3.out.nw) (HS3.out.nw.cell (j:=2) rfl) (HS3.out.nw.cell (j:=3) rfl) (HS3.out.nw.cell (j:=4) rfl) (by kernel_rfl) rfl rfl) ?_
         intro oL hoL eL vs w9 hn hlk hC hT KL hKL
         replace hn:vs.length=7:=hn
         obtain⟨v0,vs1,rfl,hn1⟩:=len_cons hn
         obtain⟨v1,vs2,rfl,hn2⟩:=len_cons hn1
         obtain⟨v2,vs3,rfl,hn3⟩:=len_cons hn2
         obtain⟨v3,vs4,rfl,hn4⟩:=len_cons hn3
         obtain⟨v4,vs5,rfl,hn5⟩:=len_cons hn4
         obtain⟨v5,vs6,rfl,hn6⟩:=len_cons hn5
         obtain⟨v6,vs7,rfl,hn7⟩:=len_cons hn6
         obtain rfl:=List.eq_nil_of_length_eq_zero hn7
         clear hn hn1 hn2 hn3 hn4 hn5 hn6 hn7
         obtain rfl:v0 = .pointer (some ⟨w.heap.size+1,2,none⟩):=hT 0 v0 rfl (by kernel_rfl)
         obtain rfl:v1 = .agg #[.int .i64 bs,.int .i64 bt,.slice ar nr cr]:=hT 1 v1 rfl (by kernel_rfl)
         obtain rfl:v2 = .pointer (some ⟨w.heap.size+1+1,2,none⟩):=hT 2 v2 rfl (by kernel_rfl)
         obtain rfl:v3 = .agg #[.int .i64 bs1,.int .i64 bt1,.slice ar1 nr1 cr1]:=hT 3 v3 rfl (by kernel_rfl)
         obtain⟨p4,rfl,hp4,-,hfin⟩:=hC.2.1 v4 (hlk 4 v4 rfl)
         have hA4:Blk w9 p4 40 [.int .i64 bs,.int .i64 bt,.slice ar nr cr]:=hfin v6 (hlk 6 v6 rfl)
         obtain⟨p5,rfl,hp5,hz5,hne⟩:=hC.2.2 v5 (hlk 5 v5 rfl)
         have hn45:=hne p4 (hlk 4 _ rfl)
         have hB9:=hC.1
         have hZ5:Blk w9 p5 40 [.int .i64 0,.int .i64 0,.slice none 0 0]:=hz5
         have hB5:=((hZ5.set 0 (.int .i64 bs1)).set 1 (.int .i64 bt1)).set 2 (.slice ar1 nr1 cr1)
         have hg5:=grown_trans (grown_trans (grown_setCell w9 p5 0 (.int .i64 bs1)) (grown_setCell _ p5 1 (.int .i64 bt1))) (grown_setCell _ p5 2 (.slice ar1 nr1 cr1))
         have HLA:=Lib.hid (show Blk _ p4 40 [.int .i64 bs,.int .i64 bt,.slice ar nr cr] from (hg5.block p4 (lt_of_block hA4) (fun e=>hn45 (Option.some.inj e))).trans hA4)
         have HLB:=Lib.hid hB5
         have HB9:=Lib.hid (hB9.grown hg5 hB9.size (fun k e=>by cases e; exact hp5))
         have HP4:=Lib.hid hp4
         have HP5:=Lib.hid hp5
         have z0:=hZ5.cell (j:=0) rfl; have z1:=hZ5.cell (j:=1) rfl; have z2:=hZ5.cell (j:=2) rfl
         have f0:=hZ5.free 0; have f1:=hZ5.free 1; have f2:=hZ5.free 2
         have hoL1:=opIs hoL (p:=.store 40 (.tmp 9) (.tmp 37)) (by kernel_rfl)
         have hgL:=guardIs hoL (p:=none) (by kernel_rfl)
         have hdL:oL.dst=none:=by have:=(show ((regOf Tryz.f19 5)[7]?).map (·.dst)=some (none) by kernel_rfl); rw [hoL] at this; simpa using this
         rw [if_pos (wanted_free hgL)]
         rw [hdL] at hKL
         simp only [puts,Act.put,List.setIfInBounds_toArray,List.set_cons_succ,List.set_cons_zero] at hKL ⊢
         unfold Oper.wp
         rw [show (execOp _ oL).run Tryz.prog w9 = .ok .skip (((w9.setCell ⟨p5,0,none⟩ (.int .i64 bs1)).setCell ⟨p5,1,none⟩ (.int .i64 bt1)).setCell ⟨p5,2,none⟩ (.slice ar1 nr1 cr1)) by unfold execOp; simp only [hoL1]; simp [go_sem,z0,z1,z2,f0,f1,f2]]
         show KL (Act.put _ oL.dst undef) _
         rw [hdL]
         refine hKL undef _ ?_
         clear hKL hoL1 hgL hdL hoL hT hlk hC hfin hz5 hne hn45 hB9 hZ5 hB5 hg5 hA4 z0 z1 z2 f0 f1 f2 hp4 hp5
         generalize (((w9.setCell ⟨p5,0,none⟩ (.int .i64 bs1)).setCell ⟨p5,1,none⟩ (.int .i64 bt1)).setCell ⟨p5,2,none⟩ (.slice ar1 nr1 cr1))=w4 at *
         have HS4:=Lib.hid (HS3.out.keep HB9.out)
         have HLA:=Lib.hid HLA.out
         clear HS3 HB9 HP4 HP5
         obtain⟨B,hB⟩:∃ B,B=!(k&&decide (bs=bs1∧bt=bt1∧sn=sn1∧vs=vs1)):=⟨_,rfl⟩
         have HB:=Lib.hid hB
         clear hB
         go_upto_region 6 with fail
         go_cut [69] (fun v wx'=>v = .bool B∧Hid (SvSt w wx' [.int .i64 tm,.int .i64 vt,.int .i64 bs,.int .i64 bt,.slice ar nr cr,.string sn,.slice av nv cv] [.int .i64 tm1,.int .i64 vt1,.int .i64 bs1,.int .i64 bt1,.slice ar1 nr1 cr1,.string sn1,.slice av1 nv1 cv1] ⟨rm,fl,lf,false⟩ a n c)∧Hid (Blk wx' p4 40 [.int .i64 bs,.int .i64 bt,.slice ar nr cr])∧Hid (Blk wx' p5 40 [.int .i64 bs1,.int .i64 bt1,.slice ar1 nr1 cr1]))
         case first =>
          clear HR HKB
          have q0:=HS4.out.box.c0; have q1:=HS4.out.box.c1; have q2:=HS4.out.box.c2; have q3:=HS4.out.box.c3
          dsimp only at q0 q1 q2 q3
          go_wp2_with fail
          refine (HHS.out _ HS4.out.bel).mono ?_
          rintro e w5 ⟨rfl,hb5⟩
          dsimp only
          have HS5:=Lib.hid (HS4.out.keep hb5)
          have HA5:=Lib.hid (HLA.out.keep hb5)
          have HB5:=Lib.hid (HLB.out.keep hb5)
          clear q0 q1 q2 q3 HS4 HLA HLB hb5 HHS
          cases k with
          | false =>
            obtain rfl:B=true:=HB.out
            go_wp2_with fail
            go_meet
            exact⟨rfl,HS5,HA5,HB5⟩
          | true =>
            have HB2:Hid (B=!decide (bs=bs1∧bt=bt1∧sn=sn1∧vs=vs1)):=Lib.hid (by rw [HB.out]; simp)
            clear HB
            have a0:=HA5.out.cell (j:=0) rfl; have a1:=HA5.out.cell (j:=1) rfl
            have z0:=HB5.out.cell (j:=0) rfl; have z1:=HB5.out.cell (j:=1) rfl
            have x0:=HS5.out.hd.cell (j:=0) rfl; have x1:=HS5.out.hd.cell (j:=1) rfl; have x2:=HS5.out.hd.cell (j:=2) rfl; have x3:=HS5.out.hd.cell (j:=3) rfl; have x4:=HS5.out.hd.cell (j:=4) rfl; have x5:=HS5.out.hd.cell (j:=5) rfl; have x6:=HS5.out.hd.cell (j:=6) rfl
            have y0:=HS5.out.nw.cell (j:=0) rfl; have y1:=HS5.out.nw.cell (j:=1) rfl; have y2:=HS5.out.nw.cell (j:=2) rfl; have y3:=HS5.out.nw.cell (j:=3) rfl; have y4:=HS5.out.nw.cell (j:=4) rfl; have y5:=HS5.out.nw.cell (j:=5) rfl; have y6:=HS5.out.nw.cell (j:=6) rfl
            by_cases c0:bs=bs1
            case' neg =>
             obtain rfl:B=true:=HB2.out.trans (by rw [decide_eq_false (fun h=>c0 h.1)]; rfl)
             have e0:(bs != bs1)=true:=by simpa using c0
             clear c0 HB2
             go_wp2_with fail
             go_meet
             exact⟨rfl,HS5,HA5,HB5⟩
            have e0:(bs != bs1)=false:=by simp [c0]
            have C0:=Lib.hid c0
            clear c0
            by_cases c1:bt=bt1
            case' neg =>
             obtain rfl:B=true:=HB2.out.trans (by rw [decide_eq_false (fun h=>c1 h.2.1)]; rfl)
             have e1:(bt != bt1)=true:=by simpa using c1
             clear c1 HB2
             go_wp2_with fail
             go_meet
             exact⟨rfl,HS5,HA5,HB5⟩
            have e1:(bt != bt1)=false:=by simp [c1]
            have C1:=Lib.hid c1
            clear c1
            by_cases c2:sn=sn1
            case' neg =>
             obtain rfl:B=true:=HB2.out.trans (by rw [decide_eq_false (fun h=>c2 h.2.2.1)]; rfl)
             have e2:¬ sn.toList=sn1.toList:=by simpa using (toList_ne c2)
             clear c2 HB2
             go_wp2_with fail
             go_meet
             exact⟨rfl,HS5,HA5,HB5⟩
            have e2:sn.toList=sn1.toList:=by rw [c2]
            have C2:=Lib.hid c2
            clear c2
            have HB3:Hid (B=!decide (vs=vs1)):=Lib.hid (by rw [HB2.out]; congr 1; exact decide_eq_decide.2 ⟨fun h=>h.2.2.2,fun h=>⟨C0.out,C1.out,C2.out,h⟩⟩)
            clear HB2 C0 C1 C2
            go_wp2_with fail
            refine (HEQ.out _ HS5.out.bel).mono ?_
            rintro e w7 ⟨rfl,kd,rfl⟩
            dsimp only
            have HS7:=Lib.hid (HS5.out.keep (below_drewN (Below.refl _ _) kd))
            have HA7:=Lib.hid (HA5.out.keep (below_drewN (Below.refl _ _) kd))
            have HB7:=Lib.hid (HB5.out.keep (below_drewN (Below.refl _ _) kd))
            have hbv:(!decide (vs=vs1))=B:=HB3.out.symm
            obtain⟨vb,hvb⟩:∃ vb,vb=decide (vs=vs1):=⟨_,rfl⟩
            rw [← hvb] at hbv ⊢
            subst hbv
            clear a0 a1 z0 z1 x0 x1 x2 x3 x4 x5 x6 y0 y1 y2 y3 y4 y5 y6 HS5 HA5 HB5 HB3 hvb HEQ
            go_wp2_with fail
            go_meet
            exact⟨rfl,HS7,HA7,HB7⟩
         obtain⟨rfl,HS7,HA7,HB7⟩:=hcut
         clear HS4 HLA HLB HHS HEQ
         cases B with
         | true =>
           have HRR:Hid (r=AN):=Lib.hid (HR.out.trans (if_pos (by
            have h1:=HB.out
            by_cases g1:k=false
            ·exact .inl (HKB.out.1 g1)
            ·refine .inr (fun g3=>?_)
             rw [decide_eq_true g3,show k=true by cases k with | true=>rfl | false=>exact absurd rfl g1] at h1
             cases h1)))
           have q0:=HS7.out.box.c0; have q1:=HS7.out.box.c1; have q2:=HS7.out.box.c2; have q3:=HS7.out.box.c3
           have y0:=HS7.out.nw.cell (j:=0) rfl; have y1:=HS7.out.nw.cell (j:=1) rfl; have y2:=HS7.out.nw.cell (j:=2) rfl; have y3:=HS7.out.nw.cell (j:=3) rfl; have y4:=HS7.out.nw.cell (j:=4) rfl; have y5:=HS7.out.nw.cell (j:=5) rfl; have y6:=HS7.out.nw.cell (j:=6) rfl
           dsimp only at q0 q1 q2 q3
           go_wp2_with fail
           refine (HAN2.out _ HS7.out.bel).mono ?_
           rintro e w8 ⟨a8,n8,c8,rfl,hd8,hb8⟩
           have HS8:=Lib.hid (HS7.out.keep hb8)
           obtain⟨⟨xr,xf,xl,xd⟩,x⟩:=AN
           have HF:=Lib.hid (HS8.out.ret hd8 x)
           unfold Dk.val
           dsimp only at *
           have o0:=HS8.out.out.c0; have o1:=HS8.out.out.c1; have o2:=HS8.out.out.c2; have o3:=HS8.out.out.c3
           have g0:=HS8.out.out.free 0; have g1:=HS8.out.out.free 1; have g2:=HS8.out.out.free 2; have g3:=HS8.out.out.free 3
           clear q0 q1 q2 q3 y0 y1 y2 y3 y4 y5 y6 hd8 hb8 HS7 HAN2
           go_wp2_with fail
           refine bodyPost_ret (v:=.tuple #[.agg #[.int .i64 xr,.slice a8 n8 c8,.int .i64 xl,.bool xd],.int .i64 x]) ?_ rfl ?_
           ·rw [results_cell_tmp rfl]; go_simp
           ·rw [HRR.out]; exact HF.out
         | false =>
           have HAL:Hid (¬ (atL fl ⟨#[108,111,103]⟩<0∨¬ (bs=bs1∧bt=bt1∧sn=sn1∧vs=vs1))):=Lib.hid (by
            have h1:(k&&decide (bs=bs1∧bt=bt1∧sn=sn1∧vs=vs1))=true:=by
             have h2:=HB.out
             cases hx:(k&&decide (bs=bs1∧bt=bt1∧sn=sn1∧vs=vs1)) with
             | true=>rfl
             | false=>rw [hx] at h2; cases h2
            rw [Bool.and_eq_true] at h1
            rintro (g1 | g1)
            ·have:=HKB.out.2 g1; rw [h1.1] at this; cases this
            ·exact g1 (of_decide_eq_true h1.2))
           have HR:=Lib.hid (HR.out.trans (if_neg HAL.out))
           clear HB HKB HAL
           obtain⟨S,hS⟩:∃ S,S=sameN rs rs1:=⟨_,rfl⟩
           rw [← hS] at HR HPT2 HSN
           have HSE:=Lib.hid hS
           clear hS
           go_upto_block 1 with fail
           go_cut [10] (fun v wx'=>v = .int .i64 (S:Int)∧Hid (SvSt w wx' [.int .i64 tm,.int .i64 vt,.int .i64 bs,.int .i64 bt,.slice ar nr cr,.string sn,.slice av nv cv] [.int .i64 tm1,.int .i64 vt1,.int .i64 bs1,.int .i64 bt1,.slice ar1 nr1 cr1,.string sn1,.slice av1 nv1 cv1] ⟨rm,fl,lf,false⟩ a n c)∧Hid (Blk wx' p4 40 [.int .i64 bs,.int .i64 bt,.slice ar nr cr])∧Hid (Blk wx' p5 40 [.int .i64 bs1,.int .i64 bt1,.slice ar1 nr1 cr1]))
           case first =>
            have hl1:=HLN2.out.2.1
            have hl2:=HLN2.out.2.2
            clear HR
            go_wp2_with fail
            go_loopg [10] nr (fun gk v10 wr=>∃ j:Nat,j≤nr∧j≤nr1∧gk=nr - j∧v10 = .int .i64 (j:Int)∧Hid (SvSt w wr [.int .i64 tm,.int .i64 vt,.int .i64 bs,.int .i64 bt,.slice ar nr cr,.string sn,.slice av nv cv] [.int .i64 tm1,.int .i64 vt1,.int .i64 bs1,.int .i64 bt1,.slice ar1 nr1 cr1,.string sn1,.slice av1 nv1 cv1] ⟨rm,fl,lf,false⟩ a n c)∧Hid (Blk wr p4 40 [.int .i64 bs,.int .i64 bt,.slice ar nr cr])∧Hid (Blk wr p5 40 [.int .i64 bs1,.int .i64 bt1,.slice ar1 nr1 cr1])∧Hid (rs.take j=rs1.take j))
            case atStart=>exact⟨0,Nat.zero_le _,Nat.zero_le _,rfl,rfl,HS7,HA7,HB7,Lib.hid (by rw [List.take_zero,List.take_zero])⟩
            case round =>
             obtain⟨j,hj,hj1,rfl,rfl,hSv,hA,hB,hT⟩:=hrel
             have a2:=hA.out.cell (j:=2) rfl
             have z2:=hB.out.cell (j:=2) rfl
             by_cases hgo:∃ (h1:j<rs.length) (h2:j<rs1.length),rs[j]=rs1[j]
             ·obtain⟨h1,h2,he⟩:=hgo
              have hkn:j<nr:=by rw [HN.out]; exact h1
              have hkn1:j<nr1:=by rw [HN1.out]; exact h2
              have hki:(j:Int)<(nr:Int):=by omega
              have hki1:(j:Int)<(nr1:Int):=by omega
              obtain⟨b,off,rfl,hc⟩:=rc_at (HRC.out.keep hSv.out.bel) (by omega)
              obtain⟨b',off',rfl,hc'⟩:=rc_at (HRC1.out.keep hSv.out.bel) (by omega)
              obtain⟨d0,d1,d2⟩:=hc j h1
              obtain⟨f0,f1,f2⟩:=hc' j h2
              have HT2:=Lib.hid (take_more hT.out h1 h2 he)
              rw [← he] at f0 f1 f2
              have hef:=eqRec_any rs[j] rs[j]
              rw [decide_eq_true rfl] at hef
              clear hc hc' he hT
              generalize rs[j]=rr at *
              obtain⟨rt,rk,rd⟩:=rr
              dsimp only at d0 d1 d2 f0 f1 f2 hef
              go_wp2_with fail
              go_quiet (fail)
              go_wp2_with fail
              go_roundg (nr - (j+1))
              case rel=>exact⟨j+1,by omega,by omega,rfl,by go_num,Lib.hid (hSv.out.keep (below_drewN (Below.refl _ _) _)),Lib.hid (hA.out.keep (below_drewN (Below.refl _ _) _)),Lib.hid (hB.out.keep (below_drewN (Below.refl _ _) _)),HT2⟩
              case measure=>omega
             ·have hSj:sameN rs rs1=j:=sameN_stop j rs rs1 hT.out (by have:=HN.out; omega) (by have:=HN1.out; omega) (fun h1 h2 he=>hgo ⟨h1,h2,he⟩)
              obtain rfl:S=j:=HSE.out.trans hSj
              have h3:(∃ (h1:S<rs.length) (h2:S<rs1.length),rs[S]≠rs1[S])∨nr=S∨(S<nr∧nr1=S):=by
               by_cases e1:nr=S
               ·exact .inr (.inl e1)
               ·by_cases e2:nr1=S
                ·exact .inr (.inr ⟨by omega,e2⟩)
                ·have e3:=HN.out; have e4:=HN1.out
                 exact .inl ⟨by omega,by omega,fun he=>hgo ⟨by omega,by omega,he⟩⟩
              clear hT hgo hSj
              rcases h3 with ⟨h1,h2,hne⟩ | e1 | ⟨e1,e2⟩
              ·have hkn:S<nr:=by rw [HN.out]; exact h1
               have hkn1:S<nr1:=by rw [HN1.out]; exact h2
               have hki:(S:Int)<(nr:Int):=by omega
               have hki1:(S:Int)<(nr1:Int):=by omega
               obtain⟨b,off,rfl,hc⟩:=rc_at (HRC.out.keep hSv.out.bel) (by omega)
               obtain⟨b',off',rfl,hc'⟩:=rc_at (HRC1.out.keep hSv.out.bel) (by omega)
               obtain⟨d0,d1,d2⟩:=hc S h1
               obtain⟨f0,f1,f2⟩:=hc' S h2
               have hef:=eqRec_any rs[S] rs1[S]
               rw [decide_eq_false hne] at hef
               clear hc hc' hne
               generalize rs[S]=rr at *
               generalize rs1[S]=ss at *
               obtain⟨rt,rk,rd⟩:=rr
               obtain⟨st,sk,sd⟩:=ss
               dsimp only at d0 d1 d2 f0 f1 f2 hef
               go_wp2_with fail
               go_quiet (fail)
               go_wp2_with fail
               go_meet
               exact⟨rfl,Lib.hid (hSv.out.keep (below_drewN (Below.refl _ _) _)),Lib.hid (hA.out.keep (below_drewN (Below.refl _ _) _)),Lib.hid (hB.out.keep (below_drewN (Below.refl _ _) _))⟩
              ·have hki:(nr:Int)≤(S:Int):=by omega
               go_wp2_with fail
               go_quiet (fail)
               go_wp2_with fail
               go_meet
               exact⟨rfl,Lib.hid (hSv.out.keep (below_drewN (Below.refl _ _) _)),Lib.hid (hA.out.keep (below_drewN (Below.refl _ _) _)),Lib.hid (hB.out.keep (below_drewN (Below.refl _ _) _))⟩
              ·have hki:(S:Int)<(nr:Int):=by omega
               have hki1:(nr1:Int)≤(S:Int):=by omega
               go_wp2_with fail
               go_quiet (fail)
               go_wp2_with fail
               go_meet
               exact⟨rfl,Lib.hid (hSv.out.keep (below_drewN (Below.refl _ _) _)),Lib.hid (hA.out.keep (below_drewN (Below.refl _ _) _)),Lib.hid (hB.out.keep (below_drewN (Below.refl _ _) _))⟩
           obtain⟨rfl,HS9,HA9,HB9⟩:=hcut
           clear HS7 HA7 HB7
           have HTN:Hid ((tm=tm1∧vt=vt1∧(S:Int)=(nr:Int)∧(S:Int)=(nr1:Int))↔(tm=tm1∧vt=vt1∧S=rs.length∧S=rs1.length)):=Lib.hid (by have:=HN.out; have:=HN1.out; omega)
           obtain⟨Q,hQ⟩:∃ Q,Q=decide (tm=tm1∧vt=vt1∧(S:Int)=(nr:Int)∧(S:Int)=(nr1:Int)):=⟨_,rfl⟩
           have HQ:=Lib.hid hQ
           clear hQ
           go_upto_region 11 with fail
           go_cut [127] (fun v wx'=>v = .bool Q∧Hid (SvSt w wx' [.int .i64 tm,.int .i64 vt,.int .i64 bs,.int .i64 bt,.slice ar nr cr,.string sn,.slice av nv cv] [.int .i64 tm1,.int .i64 vt1,.int .i64 bs1,.int .i64 bt1,.slice ar1 nr1 cr1,.string sn1,.slice av1 nv1 cv1] ⟨rm,fl,lf,false⟩ a n c)∧Hid (Blk wx' p4 40 [.int .i64 bs,.int .i64 bt,.slice ar nr cr])∧Hid (Blk wx' p5 40 [.int .i64 bs1,.int .i64 bt1,.slice ar1 nr1 cr1]))
           case first =>
            clear HR HTN
            have HB2:=HQ
            clear HQ
            have a2:=HA9.out.cell (j:=2) rfl
            have z2:=HB9.out.cell (j:=2) rfl
            have x0:=HS9.out.hd.cell (j:=0) rfl; have x1:=HS9.out.hd.cell (j:=1) rfl; have x2:=HS9.out.hd.cell (j:=2) rfl; have x3:=HS9.out.hd.cell (j:=3) rfl; have x4:=HS9.out.hd.cell (j:=4) rfl; have x5:=HS9.out.hd.cell (j:=5) rfl; have x6:=HS9.out.hd.cell (j:=6) rfl
            have y0:=HS9.out.nw.cell (j:=0) rfl; have y1:=HS9.out.nw.cell (j:=1) rfl; have y2:=HS9.out.nw.cell (j:=2) rfl; have y3:=HS9.out.nw.cell (j:=3) rfl; have y4:=HS9.out.nw.cell (j:=4) rfl; have y5:=HS9.out.nw.cell (j:=5) rfl; have y6:=HS9.out.nw.cell (j:=6) rfl
            by_cases c0:tm=tm1
            case' neg =>
             obtain rfl:Q=false:=HB2.out.trans (decide_eq_false (fun h=>c0 h.1))
             have e0:(tm==tm1)=false:=by simpa using c0
             clear c0 HB2
             go_wp2_with fail
             go_meet
             exact⟨rfl,HS9,HA9,HB9⟩
            have e0:(tm==tm1)=true:=by simp [c0]
            have C0:=Lib.hid c0
            clear c0
            by_cases c1:vt=vt1
            case' neg =>
             obtain rfl:Q=false:=HB2.out.trans (decide_eq_false (fun h=>c1 h.2.1))
             have e1:(vt==vt1)=false:=by simpa using c1
             clear c1 HB2
             go_wp2_with fail
             go_meet
             exact⟨rfl,HS9,HA9,HB9⟩
            have e1:(vt==vt1)=true:=by simp [c1]
            have C1:=Lib.hid c1
            clear c1
            by_cases c2:(S:Int)=(nr:Int)
            case' neg =>
             obtain rfl:Q=false:=HB2.out.trans (decide_eq_false (fun h=>c2 h.2.2.1))
             have e2:((S:Int)==(nr:Int))=false:=by rw [beq_eq_false_iff_ne]; omega
             clear c2 HB2
             go_wp2_with fail
             go_meet
             exact⟨rfl,HS9,HA9,HB9⟩
            have e2:((S:Int)==(nr:Int))=true:=by rw [beq_iff_eq]; omega
            have C2:=Lib.hid c2
            clear c2
            by_cases c3:(S:Int)=(nr1:Int)
            case' neg =>
             obtain rfl:Q=false:=HB2.out.trans (decide_eq_false (fun h=>c3 h.2.2.2))
             have e3:((S:Int)==(nr1:Int))=false:=by rw [beq_eq_false_iff_ne]; omega
             clear c3 HB2
             go_wp2_with fail
             go_meet
             exact⟨rfl,HS9,HA9,HB9⟩
            have e3:((S:Int)==(nr1:Int))=true:=by rw [beq_iff_eq]; omega
            have C3:=Lib.hid c3
            clear c3
            obtain rfl:Q=true:=HB2.out.trans (decide_eq_true ⟨C0.out,C1.out,C2.out,C3.out⟩)
            clear HB2 C0 C1 C2 C3
            go_wp2_with fail
            go_meet
            exact⟨rfl,HS9,HA9,HB9⟩
           obtain⟨rfl,HS10,HA10,HB10⟩:=hcut
           clear HS9 HA9 HB9
           cases Q with
           | true =>
             have HRR:=Lib.hid (show r=(⟨rm,fl,lf,false⟩,0) from HR.out.trans (if_pos (HTN.out.1 (of_decide_eq_true HQ.out.symm))))
             have q0:=HS10.out.box.c0; have q1:=HS10.out.box.c1; have q2:=HS10.out.box.c2; have q3:=HS10.out.box.c3
             have o0:=HS10.out.out.c0; have o1:=HS10.out.out.c1; have o2:=HS10.out.out.c2; have o3:=HS10.out.out.c3
             have g0:=HS10.out.out.free 0; have g1:=HS10.out.out.free 1; have g2:=HS10.out.out.free 2; have g3:=HS10.out.out.free 3
             have HF:=Lib.hid (HS10.out.ret HS10.out.at_ 0)
             dsimp only at q0 q1 q2 q3 HF
             go_wp2_with fail
             refine bodyPost_ret (v:=.tuple #[.agg #[.int .i64 rm,.slice a n c,.int .i64 lf,.bool false],.int .i64 0]) ?_ rfl ?_
             ·rw [results_cell_tmp rfl]; go_simp
             ·rw [HRR.out]; exact HF.out
           | false =>
             have HR:=Lib.hid (HR.out.trans (if_neg (fun h=>by have h1:=HQ.out; rw [decide_eq_true (HTN.out.2 h)] at h1; cases h1)))
             clear HQ HTN
             have hcl2:=HLN2.out.2.2
             have HSn:=HSN.out
             have hk1:S≤nr1:=by have:=HN1.out; omega
             obtain⟨sr,HCUT,hRS⟩:=cut_recs (k:=S) HN1.out hk1 hcap HRC1.out
             have HCUT:=Lib.hid HCUT
             have HRS:=Lib.hid (hRS wc (HRC1.out.keep HS10.out.bel))
             have hwz:IntKind.i64.wrap (bs1+(S:Int))=bs1+(S:Int):=by have:=HLN2.out.1; have:=HN1.out; rw [IntKind.wrap_i64]; omega
             obtain⟨M,hM⟩:∃ M,M=bs1+(S:Int):=⟨_,rfl⟩
             have HAD:=Lib.hid (hwz.trans hM.symm)
             have HPUT:Hid (∀ W cs,Below wc.heap.size wc W→V.At W (fun p=>p<W.heap.size) (listV [numV tm1,numV vt1,numV M,listV ((rs1.drop S).map recV)]) cs→Calls Tryz.prog 36 #[.agg cs.toArray] W (fun e w'=>e = .returned (.tuple #[.string P1,.int .i64 P2])∧Below W.heap.size W w')) :=
              Lib.hid fun W cs hb hat=>HPT2.out W cs (below_then HS10.out.bel hb HS10.out.bel.size) (by rw [← hM]; exact hat)
             clear hM hwz hRS HPT2 HSn
             go_wp2_with fail
             refine wp_region_set (regOf Tryz.f19 13) [some 130,some 131,some 132,some 133,some 134,some 135,some 136,some 137,some 138,some 139,some 140,some 141,some 142,some 143,some 144,some 145,some 146,some 147,some 148,some 129,some 149,some 150,some 11,some 12] (wcgT (w.heap.size+1+1) p5 tm1 vt1 bs1 S M ar1 nr1 cr1 sr (nr1 - S) (cr1 - S) (rs1.drop S) P1 P2 wc) (fun w'=>Below wc.heap.size wc w') wcgD (by kernel_rfl) (by kernel_rfl) (by kernel_rfl) (by kernel_rfl) (by kernel_rfl) ((Below.refl _ _).drew)
              (wcg_steps (w.heap.size+1+1) p5 tm1 vt1 bs1 S M ar1 nr1 cr1 sr (nr1 - S) (cr1 - S) (rs1.drop S) P1 P2 wc (lt_of_block HS10.out.nw) (HS10.out.nw.cell (j:=0) rfl) (HS10.out.nw.cell (j:=1) rfl) (lt_of_block HB10.out) (HB10.out.cell (j:=0) rfl) (HB10.out.cell (j:=2) rfl) HAD.out HCUT.out HRS.out (by omega) HPUT.out (by kernel_rfl) (by kernel_rfl) (by kernel_rfl) (by kernel_rfl)) ?_
             intro vs w11 hn hCw11 hT
             replace hn:vs.length=24:=hn
             obtain⟨v0,vs1,rfl,hn1⟩:=len_cons hn
             obtain⟨v1,vs2,rfl,hn2⟩:=len_cons hn1
             obtain⟨v2,vs3,rfl,hn3⟩:=len_cons hn2
             obtain⟨v3,vs4,rfl,hn4⟩:=len_cons hn3
             obtain⟨v4,vs5,rfl,hn5⟩:=len_cons hn4
             obtain⟨v5,vs6,rfl,hn6⟩:=len_cons hn5
             obtain⟨v6,vs7,rfl,hn7⟩:=len_cons hn6
             obtain⟨v7,vs8,rfl,hn8⟩:=len_cons hn7
             obtain⟨v8,vs9,rfl,hn9⟩:=len_cons hn8
             obtain⟨v9,vs10,rfl,hn10⟩:=len_cons hn9
             obtain⟨v10,vs11,rfl,hn11⟩:=len_cons hn10
             obtain⟨v11,vs12,rfl,hn12⟩:=len_cons hn11
             obtain⟨v12,vs13,rfl,hn13⟩:=len_cons hn12
             obtain⟨v13,vs14,rfl,hn14⟩:=len_cons hn13
             obtain⟨v14,vs15,rfl,hn15⟩:=len_cons hn14
             obtain⟨v15,vs16,rfl,hn16⟩:=len_cons hn15
             obtain⟨v16,vs17,rfl,hn17⟩:=len_cons hn16
             obtain⟨v17,vs18,rfl,hn18⟩:=len_cons hn17
             obtain⟨v18,vs19,rfl,hn19⟩:=len_cons hn18
             obtain⟨v19,vs20,rfl,hn20⟩:=len_cons hn19
             obtain⟨v20,vs21,rfl,hn21⟩:=len_cons hn20
             obtain⟨v21,vs22,rfl,hn22⟩:=len_cons hn21
             obtain⟨v22,vs23,rfl,hn23⟩:=len_cons hn22
             obtain⟨v23,vs24,rfl,hn24⟩:=len_cons hn23
             obtain rfl:=List.eq_nil_of_length_eq_zero hn24
             clear hn hn1 hn2 hn3 hn4 hn5 hn6 hn7 hn8 hn9 hn10 hn11 hn12 hn13 hn14 hn15 hn16 hn17 hn18 hn19 hn20 hn21 hn22 hn23 hn24
             obtain rfl:v0 = .pointer (some ⟨(w.heap.size+1+1),0,none⟩):=hT 0 v0 rfl (by kernel_rfl)
             obtain rfl:v1 = .int .i64 tm1:=hT 1 v1 rfl (by kernel_rfl)
             obtain rfl:v2 = .agg #[.int .i64 1,.int .i64 tm1,.string ⟨#[]⟩,.slice none 0 0]:=hT 2 v2 rfl (by kernel_rfl)
             obtain rfl:v3 = .pointer (some ⟨(w.heap.size+1+1),1,none⟩):=hT 3 v3 rfl (by kernel_rfl)
             obtain rfl:v4 = .int .i64 vt1:=hT 4 v4 rfl (by kernel_rfl)
             obtain rfl:v5 = .agg #[.int .i64 1,.int .i64 vt1,.string ⟨#[]⟩,.slice none 0 0]:=hT 5 v5 rfl (by kernel_rfl)
             obtain rfl:v6 = .pointer (some ⟨p5,0,none⟩):=hT 6 v6 rfl (by kernel_rfl)
             obtain rfl:v7 = .int .i64 bs1:=hT 7 v7 rfl (by kernel_rfl)
             obtain rfl:v8 = .int .i64 (S:Int):=hT 8 v8 rfl (by kernel_rfl)
             obtain rfl:v9 = .int .i64 M:=hT 9 v9 rfl (by kernel_rfl)
             obtain rfl:v10 = .agg #[.int .i64 1,.int .i64 M,.string ⟨#[]⟩,.slice none 0 0]:=hT 10 v10 rfl (by kernel_rfl)
             obtain rfl:v11 = .pointer (some ⟨p5,2,none⟩):=hT 11 v11 rfl (by kernel_rfl)
             obtain rfl:v12 = .slice ar1 nr1 cr1:=hT 12 v12 rfl (by kernel_rfl)
             obtain rfl:v13 = .int .i64 (S:Int):=hT 13 v13 rfl (by kernel_rfl)
             obtain rfl:v14 = .slice sr (nr1 - S) (cr1 - S):=hT 14 v14 rfl (by kernel_rfl)
             have t15:=Lib.hid (hT 15 v15 rfl (by kernel_rfl))
             have t16:=Lib.hid (hT 16 v16 rfl (by kernel_rfl))
             have t17:=Lib.hid (hT 17 v17 rfl (by kernel_rfl))
             obtain rfl:v18 = .tuple #[.string P1,.int .i64 P2]:=hT 18 v18 rfl (by kernel_rfl)
             obtain rfl:v19 = .tuple #[.string P1,.int .i64 P2]:=hT 19 v19 rfl (by kernel_rfl)
             obtain rfl:v20 = .string P1:=hT 20 v20 rfl (by kernel_rfl)
             obtain rfl:v21 = .int .i64 P2:=hT 21 v21 rfl (by kernel_rfl)
             obtain rfl:v22 = .string P1:=hT 22 v22 rfl (by kernel_rfl)
             obtain rfl:v23 = .int .i64 P2:=hT 23 v23 rfl (by kernel_rfl)
             clear hT
             simp only [puts,Act.put,List.setIfInBounds_toArray,List.set_cons_succ,List.set_cons_zero]
             have HS11:=Lib.hid (HS10.out.keep hCw11)
             clear hCw11 HS10 HA10 HB10 HAD HCUT HRS HPUT t15 t16 t17
             obtain⟨Z,hZ⟩:∃ Z,Z=decide (P2≠0∨65536<P1.size):=⟨_,rfl⟩
             have HZ:=Lib.hid hZ
             clear hZ
             go_upto_region 14 with fail
             go_cut [157] (fun v wx'=>v = .bool Z∧Hid (SvSt w wx' [.int .i64 tm,.int .i64 vt,.int .i64 bs,.int .i64 bt,.slice ar nr cr,.string sn,.slice av nv cv] [.int .i64 tm1,.int .i64 vt1,.int .i64 bs1,.int .i64 bt1,.slice ar1 nr1 cr1,.string sn1,.slice av1 nv1 cv1] ⟨rm,fl,lf,false⟩ a n c))
             case first =>
              clear HR
              by_cases hp:P2=0
              ·by_cases hs:P1.size≤65536
               ·obtain rfl:Z=false:=HZ.out.trans (decide_eq_false (fun h=>h.elim (fun q=>q hp) (fun q=>by omega)))
                have hsi:(P1.size:Int)≤65536:=by omega
                subst hp
                clear HZ hs
                go_wp2_with fail
                go_meet
                exact⟨by rw [decide_eq_false (show ¬ (65536:Int)<(P1.size:Int) by omega)],HS11⟩
               ·obtain rfl:Z=true:=HZ.out.trans (decide_eq_true (.inr (by omega)))
                have hsi:(65536:Int)<(P1.size:Int):=by omega
                subst hp
                clear HZ hs
                go_wp2_with fail
                go_meet
                exact⟨rfl,HS11⟩
              ·obtain rfl:Z=true:=HZ.out.trans (decide_eq_true (.inl hp))
               have hp0:(P2 != 0)=true:=by simpa using hp
               clear HZ hp
               go_wp2_with fail
               go_meet
               exact⟨rfl,HS11⟩
             obtain⟨rfl,HS12⟩:=hcut
             clear HS11
             cases Z with
             | true =>
               have HRR:Hid (r=AN):=Lib.hid (HR.out.trans (if_pos (of_decide_eq_true HZ.out.symm)))
               have q0:=HS12.out.box.c0; have q1:=HS12.out.box.c1; have q2:=HS12.out.box.c2; have q3:=HS12.out.box.c3
               have y0:=HS12.out.nw.cell (j:=0) rfl; have y1:=HS12.out.nw.cell (j:=1) rfl; have y2:=HS12.out.nw.cell (j:=2) rfl; have y3:=HS12.out.nw.cell (j:=3) rfl; have y4:=HS12.out.nw.cell (j:=4) rfl; have y5:=HS12.out.nw.cell (j:=5) rfl; have y6:=HS12.out.nw.cell (j:=6) rfl
               dsimp only at q0 q1 q2 q3
               go_wp2_with fail
               refine (HAN2.out _ HS12.out.bel).mono ?_
               rintro e w8 ⟨a8,n8,c8,rfl,hd8,hb8⟩
               have HS8:=Lib.hid (HS12.out.keep hb8)
               obtain⟨⟨xr,xf,xl,xd⟩,x⟩:=AN
               have HF:=Lib.hid (HS8.out.ret hd8 x)
               unfold Dk.val
               dsimp only at *
               have o0:=HS8.out.out.c0; have o1:=HS8.out.out.c1; have o2:=HS8.out.out.c2; have o3:=HS8.out.out.c3
               have g0:=HS8.out.out.free 0; have g1:=HS8.out.out.free 1; have g2:=HS8.out.out.free 2; have g3:=HS8.out.out.free 3
               clear q0 q1 q2 q3 y0 y1 y2 y3 y4 y5 y6 hd8 hb8 HS12 HAN2
               go_wp2_with fail
               refine bodyPost_ret (v:=.tuple #[.agg #[.int .i64 xr,.slice a8 n8 c8,.int .i64 xl,.bool xd],.int .i64 x]) ?_ rfl ?_
               ·rw [results_cell_tmp rfl]; go_simp
               ·rw [HRR.out]; exact HF.out
             | false =>
               have hnz:¬ (P2≠0∨65536<P1.size):=of_decide_eq_false HZ.out.symm
               have HRR:Hid (r=appendS ⟨rm,fl,lf,false⟩ P1):=Lib.hid (HR.out.trans (if_neg hnz))
               have hp1:P1.size≤65536:=by omega
               have hfp:=Lib.hid (fun W=>frPut_any P1 W hp1)
               have hfz:=frameOf_size P1
               obtain⟨FB,hFB⟩:∃ FB,FB=frameOf P1:=⟨_,rfl⟩
               have HRF:Hid (r=stepsS ⟨rm,fl,lf,false⟩ [⟨1,⟨#[108,111,103]⟩,FB⟩,⟨2,⟨#[108,111,103]⟩,⟨#[]⟩⟩]):=Lib.hid (HRR.out.trans (by unfold appendS logN noB; rw [← hFB]))
               have HZF:Hid (FB.size≤2097152):=Lib.hid (by rw [hFB,hfz]; omega)
               rw [← hFB] at hfp
               clear hFB hfz hp1 HRR hnz HZ HR HAN2
               go_wp2_with fail
               refine (hfp.out _).mono ?_
               rintro e w13 ⟨rfl,hb13⟩
               have HS13:=Lib.hid (HS12.out.keep hb13)
               clear hfp hb13 HS12
               have hown:=World.ownsRow_lit (base:=w13.heap.size) (e:=96) (size:=3) w13 #[.string ⟨#[119,114,105,116,101]⟩,.string ⟨#[108,111,103]⟩,.string FB,.string ⟨#[115,121,110,99]⟩,.string ⟨#[108,111,103]⟩,.string ⟨#[]⟩] 2 (Nat.le_refl _) (by decide) rfl
               have hbo:Below w13.heap.size w13 (w13.alloc (.cells #[.string ⟨#[119,114,105,116,101]⟩,.string ⟨#[108,111,103]⟩,.string FB,.string ⟨#[115,121,110,99]⟩,.string ⟨#[108,111,103]⟩,.string ⟨#[]⟩] 96)):=(Below.refl _ w13).alloc (Nat.le_refl _) _
               obtain⟨sa,sc,hse,-,hsl,-,-,-⟩:=Enc.own_sl (E:=stE) (show (w13.alloc (.cells #[.string ⟨#[119,114,105,116,101]⟩,.string ⟨#[108,111,103]⟩,.string FB,.string ⟨#[115,121,110,99]⟩,.string ⟨#[108,111,103]⟩,.string ⟨#[]⟩] 96)).ownsRow w13.heap.size 96 stE.k (.slice (some ⟨w13.heap.size,0,none⟩) 2 2) 2 (stE.cells [⟨1,⟨#[108,111,103]⟩,FB⟩,⟨2,⟨#[108,111,103]⟩,⟨#[]⟩⟩]) from hown)
               obtain⟨rfl,rfl⟩:sa=some ⟨w13.heap.size,0,none⟩∧sc=2:=by injection hse with e1 e2 e3; exact⟨e1.symm,e3.symm⟩
               have HS14:=Lib.hid (HS13.out.keep hbo)
               have hcall:=Lib.hid (HSTEPS.out a n c ⟨rm,fl,lf,false⟩ (some ⟨w13.heap.size,0,none⟩) 2 2 [⟨1,⟨#[108,111,103]⟩,FB⟩,⟨2,⟨#[108,111,103]⟩,⟨#[]⟩⟩] (w13.alloc (.cells #[.string ⟨#[119,114,105,116,101]⟩,.string ⟨#[108,111,103]⟩,.string FB,.string ⟨#[115,121,110,99]⟩,.string ⟨#[108,111,103]⟩,.string ⟨#[]⟩] 96)) HS14.out.at_ hsl (fun s hs=>by
                simp only [List.mem_cons,List.mem_nil_iff,or_false] at hs
                rcases hs with rfl | rfl
                ·exact⟨⟨show (1:Int)≤1 by decide,show (1:Int)≤4 by decide⟩,show logN.size≤maxLen by decide,HZF.out⟩
                ·exact⟨by decide,by decide,by decide⟩) (by decide))
               rw [← HRF.out] at hcall
               have q0:=HS13.out.box.c0; have q1:=HS13.out.box.c1; have q2:=HS13.out.box.c2; have q3:=HS13.out.box.c3
               dsimp only at q0 q1 q2 q3
               clear hown hbo hse hsl HZF HRF
               dsimp only
               go_wp2_with fail
               refine hcall.out.mono ?_
               rintro e w15 ⟨a6,n6,c6,rfl,hd6,hb6⟩
               have HS15:=Lib.hid (HS14.out.keep hb6)
               obtain⟨⟨xr,xf,xl,xd⟩,x⟩:=r
               have HF:=Lib.hid (HS15.out.ret hd6 x)
               unfold Dk.val
               dsimp only at *
               have o0:=HS15.out.out.c0; have o1:=HS15.out.out.c1; have o2:=HS15.out.out.c2; have o3:=HS15.out.out.c3
               have g0:=HS15.out.out.free 0; have g1:=HS15.out.out.free 1; have g2:=HS15.out.out.free 2; have g3:=HS15.out.out.free 3
               clear q0 q1 q2 q3 hcall hd6 hb6 HS13 HS14
               go_wp2_with fail
               refine bodyPost_ret (v:=.tuple #[.agg #[.int .i64 xr,.slice a6 n6 c6,.int .i64 xl,.bool xd],.int .i64 x]) ?_ rfl ?_
               ·rw [results_cell_tmp rfl]; go_simp
               ·exact HF.out
end Go.Proofs.YtlpgbmaoenncjaaGreatDoor
