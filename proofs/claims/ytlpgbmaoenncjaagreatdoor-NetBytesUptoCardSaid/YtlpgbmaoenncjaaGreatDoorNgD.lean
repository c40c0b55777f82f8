/-
  The walk of net.Get where the value has a message's form. (Written by wip/mkng3.py.)
-/
import Derived.Test.YtlpgbmaoenncjaaGreatDoorNgC
namespace Go.Proofs.YtlpgbmaoenncjaaGreatDoor
open Go.RowKit
set_option linter.unusedVariables false
theorem zB {p:Prop} (h:p):Hid p:=Lib.hid h
def mcl (n0 n1 n2 n3 n5 n6 n7:Int) (k:Nat):List Value:=[.int .i64 (if 0<k then cl n0 else 0),.int .i64 (if 1<k then cl n1 else 0),.int .i64 (if 2<k then cl n2 else 0),.int .i64 (if 3<k then cl n3 else 0),.bool false,.int .i64 (if 4<k then cl n5 else 0),.int .i64 (if 5<k then cl n6 else 0),.slice none 0 0,.int .i64 (if 6<k then cl n7 else 0),.string ⟨#[]⟩,.slice none 0 0]
theorem cl_i64 (n:Int):i64R (cl n):=by unfold i64R cl; omega
theorem own_move {w w':World}{base n size:Nat}{e:TypeId}{v:Value}{xs:List Value}(h:w.ownsRow base e size v n xs) (hk:∀ g,v.ownBlock=some g→w'.heap[g]? = w.heap[g]?):w'.ownsRow base e size v n xs :=
 ⟨h.1,h.2.imp id (fun ⟨g,cap,cur,e1,hb,hh,r⟩=>⟨g,cap,cur,e1,hb,(hk g (by rw [e1]; rfl)).trans hh,r⟩)⟩
theorem msAt_kept {w w':World}{m:Ms}{ar:Option Addr}{nr cr:Nat}{av:Option Addr}{nv cv:Nat}(h:MsAt w m ar nr cr av nv cv) {row:Option Nat}(hg:w.grownBy w' row) (h1:∀ y,ar=some y→row≠some y.block) (h2:∀ y,av=some y→row≠some y.block):MsAt w' m ar nr cr av nv cv :=
 { h with
   recs:=h.recs.kept hg (fun b e=>by cases ar with
    | none=>cases e
    | some y=>cases e; exact h1 y rfl)
   voters:=by
    refine⟨h.voters.1,?_⟩
    rcases h.voters.2 with h0 | ⟨b,off,ha,hc⟩
    ·exact .inl h0
    ·refine .inr ⟨b,off,ha,fun i hi=>?_⟩
     have hci:=hc i hi
     rw [← hci]
     exact World.cell?_of_block (a:=⟨b,off+i,none⟩) (hg.block b (World.block_lt_of_cell? w _ hci) (fun e=>h2 _ ha e.symm)) }
def flg (d0 d1 d2 d3 d5 d6 d7:Bool):Nat→Bool
 | 0=>true
 | 1=>d0
 | 2=>d0&&d1
 | 3=>d0&&d1&&d2
 | 4=>d0&&d1&&d2&&d3
 | 5=>d0&&d1&&d2&&d3&&d5
 | 6=>d0&&d1&&d2&&d3&&d5&&d6
 | _=>d0&&d1&&d2&&d3&&d5&&d6&&d7
set_option maxRecDepth 100000 in
set_option maxHeartbeats 4000000 in
theorem nget_go (s:ByteArray) (w:World) (hm:s.size≤9223372036854775807) (hbad:(getL s).bad=0) (v:V) (hv:(getL s).v=v) (hh:headV v) (x:Ms × Int) (hx:Hid (x=readN v)):Calls Tryz.prog 14 #[.string s] w (RetM w x):=by
 have hmf:∀ fn first cap w,(Instr.makeFunc fn first cap).run Tryz.prog w = .ok (.func fn first cap) w:=fun _ _ _ _=>rfl
 have HG:=zB (get_any s (w.alloc (.cells #[.int .i64 0,.int .i64 0,.int .i64 0,.int .i64 0,.bool false,.int .i64 0,.int .i64 0,.slice none 0 0,.int .i64 0,.string ⟨#[]⟩,.slice none 0 0] 25)) hm)
 have HB0:=zB ((Below.refl w.heap.size w).alloc (Nat.le_refl _) (.cells #[.int .i64 0,.int .i64 0,.int .i64 0,.int .i64 0,.bool false,.int .i64 0,.int .i64 0,.slice none 0 0,.int .i64 0,.string ⟨#[]⟩,.slice none 0 0] 25))
 have HR0:Hid (Blk (w.alloc (.cells #[.int .i64 0,.int .i64 0,.int .i64 0,.int .i64 0,.bool false,.int .i64 0,.int .i64 0,.slice none 0 0,.int .i64 0,.string ⟨#[]⟩,.slice none 0 0] 25)) w.heap.size 25 [.int .i64 0,.int .i64 0,.int .i64 0,.int .i64 0,.bool false,.int .i64 0,.int .i64 0,.slice none 0 0,.int .i64 0,.string ⟨#[]⟩,.slice none 0 0]):=zB (heap_alloc_new w _)
 obtain⟨at_,hat_⟩:∃ b,b=(getL s).at_:=⟨_,rfl⟩
 have HA_:=zB hat_
 have HBA:=zB hbad
 have HHV:=zB hv
 have HH:=zB hh
 clear hbad hv hat_ hh
 go_enter Tryz.func14,Tryz.ntmps14
 go_wp2_with fail
 refine HG.out.mono ?_
 rintro e w1 ⟨cs,rfl,hat,hb1⟩
 dsimp only
 rw [HBA.out,← HA_.out]
 rw [HHV.out] at hat
 obtain⟨vk,vn,vt,vl⟩:=v
 simp only [V.At] at hat
 obtain⟨va,vc,rfl,-,-,hall⟩:=hat
 have HB1:=zB (below_then HB0.out hb1 HB0.out.size)
 have HR1:=zB (HR0.out.keep hb1)
 have HB2:=zB (HB1.out.alloc HB1.out.size (.cells #[.int .i64 vk,.int .i64 vn,.string vt,.slice va vl.length vc] 70))
 have HR2:=zB (HR1.out.alloc (.cells #[.int .i64 vk,.int .i64 vn,.string vt,.slice va vl.length vc] 70))
 have HV2:=zB (Four.new w1 70 (.int .i64 vk) (.int .i64 vn) (.string vt) (.slice va vl.length vc))
 have HS2:Hid ((w1.alloc (.cells #[.int .i64 vk,.int .i64 vn,.string vt,.slice va vl.length vc] 70)).heap.size=w1.heap.size+1):=zB (by simp)
 obtain⟨h1,h2,h3,h4,h5⟩:=HH.out
 simp only [V.k,V.l] at h1 h2
 have HLEN:=zB h2
 obtain⟨b,o,rfl,hS,hel⟩:=elemsV hall (by rw [h2]; decide)
 have hb3:b<w1.heap.size:=hS.2
 have hbW:w.heap.size≤b:=by have:=hS.1; simp at this; omega
 obtain⟨a0,c0,r0,m0_0,m0_1,m0_2,m0_3⟩:=hel 0 (by rw [h2]; decide)
 obtain⟨a1,c1,r1,m1_0,m1_1,m1_2,m1_3⟩:=hel 1 (by rw [h2]; decide)
 obtain⟨a2,c2,r2,m2_0,m2_1,m2_2,m2_3⟩:=hel 2 (by rw [h2]; decide)
 obtain⟨a3,c3,r3,m3_0,m3_1,m3_2,m3_3⟩:=hel 3 (by rw [h2]; decide)
 obtain⟨a4,c4,r4,m4_0,m4_1,m4_2,m4_3⟩:=hel 4 (by rw [h2]; decide)
 obtain⟨a5,c5,r5,m5_0,m5_1,m5_2,m5_3⟩:=hel 5 (by rw [h2]; decide)
 obtain⟨a6,c6,r6,m6_0,m6_1,m6_2,m6_3⟩:=hel 6 (by rw [h2]; decide)
 obtain⟨a7,c7,r7,m7_0,m7_1,m7_2,m7_3⟩:=hel 7 (by rw [h2]; decide)
 obtain⟨a8,c8,r8,m8_0,m8_1,m8_2,m8_3⟩:=hel 8 (by rw [h2]; decide)
 obtain⟨a9,c9,r9,m9_0,m9_1,m9_2,m9_3⟩:=hel 9 (by rw [h2]; decide)
 obtain⟨a10,c10,r10,m10_0,m10_1,m10_2,m10_3⟩:=hel 10 (by rw [h2]; decide)
 clear hel hS HG HB0 HR0 HR1 hb1 HH
 have HX:Hid (x=readN (.mk vk vn vt vl)):=hx
 rw [h2] at HB2 HR2 HV2 HS2
 change (vl.getD 8 zeroV).k=2 at h3
 change (vl.getD 9 zeroV).k=3 at h4
 change (vl.getD 10 zeroV).k=3 at h5
 have hb2:Below w1.heap.size w1 (w1.alloc (.cells #[.int .i64 vk,.int .i64 vn,.string vt,.slice (some ⟨b,o,none⟩) 11 vc] 70)):=(Below.refl w1.heap.size w1).alloc (Nat.le_refl _) _
 have HK2:=zB hb2
 replace m0_0:=zB (cell_keep hb2 m0_0)
 replace m0_1:=zB (cell_keep hb2 m0_1)
 replace m0_2:=zB (cell_keep hb2 m0_2)
 replace m0_3:=zB (cell_keep hb2 m0_3)
 replace m1_0:=zB (cell_keep hb2 m1_0)
 replace m1_1:=zB (cell_keep hb2 m1_1)
 replace m1_2:=zB (cell_keep hb2 m1_2)
 replace m1_3:=zB (cell_keep hb2 m1_3)
 replace m2_0:=zB (cell_keep hb2 m2_0)
 replace m2_1:=zB (cell_keep hb2 m2_1)
 replace m2_2:=zB (cell_keep hb2 m2_2)
 replace m2_3:=zB (cell_keep hb2 m2_3)
 replace m3_0:=zB (cell_keep hb2 m3_0)
 replace m3_1:=zB (cell_keep hb2 m3_1)
 replace m3_2:=zB (cell_keep hb2 m3_2)
 replace m3_3:=zB (cell_keep hb2 m3_3)
 replace m4_0:=zB (cell_keep hb2 m4_0)
 replace m4_1:=zB (cell_keep hb2 m4_1)
 replace m4_2:=zB (cell_keep hb2 m4_2)
 replace m4_3:=zB (cell_keep hb2 m4_3)
 replace m5_0:=zB (cell_keep hb2 m5_0)
 replace m5_1:=zB (cell_keep hb2 m5_1)
 replace m5_2:=zB (cell_keep hb2 m5_2)
 replace m5_3:=zB (cell_keep hb2 m5_3)
 replace m6_0:=zB (cell_keep hb2 m6_0)
 replace m6_1:=zB (cell_keep hb2 m6_1)
 replace m6_2:=zB (cell_keep hb2 m6_2)
 replace m6_3:=zB (cell_keep hb2 m6_3)
 replace m7_0:=zB (cell_keep hb2 m7_0)
 replace m7_1:=zB (cell_keep hb2 m7_1)
 replace m7_2:=zB (cell_keep hb2 m7_2)
 replace m7_3:=zB (cell_keep hb2 m7_3)
 replace m8_0:=zB (cell_keep hb2 m8_0)
 replace m8_1:=zB (cell_keep hb2 m8_1)
 replace m8_2:=zB (cell_keep hb2 m8_2)
 replace m8_3:=zB (cell_keep hb2 m8_3)
 replace m9_0:=zB (cell_keep hb2 m9_0)
 replace m9_1:=zB (cell_keep hb2 m9_1)
 replace m9_2:=zB (cell_keep hb2 m9_2)
 replace m9_3:=zB (cell_keep hb2 m9_3)
 replace m10_0:=zB (cell_keep hb2 m10_0)
 replace m10_1:=zB (cell_keep hb2 m10_1)
 replace m10_2:=zB (cell_keep hb2 m10_2)
 replace m10_3:=zB (cell_keep hb2 m10_3)
 have HALL9:=zB (VAll.move (T:=fun b=>b<w1.heap.size) (fun _ h=>h.2) (fun q h=>hb2.block q h.2) _ _ _ r9)
 have HALL10:=zB (VAll.move (T:=fun b=>b<w1.heap.size) (fun _ h=>h.2) (fun q h=>hb2.block q h.2) _ _ _ r10)
 clear r0 r1 r2 r3 r4 r5 r6 r7 r8 r9 r10 hb2 hall
 have HH1:=zB h1
 subst h1
 rw [h2]
 obtain⟨E0,hE0⟩:∃ y,y=vl.getD 0 zeroV:=⟨_,rfl⟩
 rw [← hE0] at m0_0 m0_1 m0_2 m0_3
 replace hE0:=zB hE0
 obtain⟨E1,hE1⟩:∃ y,y=vl.getD 1 zeroV:=⟨_,rfl⟩
 rw [← hE1] at m1_0 m1_1 m1_2 m1_3
 replace hE1:=zB hE1
 obtain⟨E2,hE2⟩:∃ y,y=vl.getD 2 zeroV:=⟨_,rfl⟩
 rw [← hE2] at m2_0 m2_1 m2_2 m2_3
 replace hE2:=zB hE2
 obtain⟨E3,hE3⟩:∃ y,y=vl.getD 3 zeroV:=⟨_,rfl⟩
 rw [← hE3] at m3_0 m3_1 m3_2 m3_3
 replace hE3:=zB hE3
 obtain⟨E4,hE4⟩:∃ y,y=vl.getD 4 zeroV:=⟨_,rfl⟩
 rw [← hE4] at m4_0 m4_1 m4_2 m4_3
 replace hE4:=zB hE4
 obtain⟨E5,hE5⟩:∃ y,y=vl.getD 5 zeroV:=⟨_,rfl⟩
 rw [← hE5] at m5_0 m5_1 m5_2 m5_3
 replace hE5:=zB hE5
 obtain⟨E6,hE6⟩:∃ y,y=vl.getD 6 zeroV:=⟨_,rfl⟩
 rw [← hE6] at m6_0 m6_1 m6_2 m6_3
 replace hE6:=zB hE6
 obtain⟨E7,hE7⟩:∃ y,y=vl.getD 7 zeroV:=⟨_,rfl⟩
 rw [← hE7] at m7_0 m7_1 m7_2 m7_3
 replace hE7:=zB hE7
 obtain⟨E8,hE8⟩:∃ y,y=vl.getD 8 zeroV:=⟨_,rfl⟩
 rw [← hE8] at m8_0 m8_1 m8_2 m8_3 h3
 replace hE8:=zB hE8
 obtain⟨E9,hE9⟩:∃ y,y=vl.getD 9 zeroV:=⟨_,rfl⟩
 rw [← hE9] at m9_0 m9_1 m9_2 m9_3 h4 HALL9
 replace hE9:=zB hE9
 obtain⟨E10,hE10⟩:∃ y,y=vl.getD 10 zeroV:=⟨_,rfl⟩
 rw [← hE10] at m10_0 m10_1 m10_2 m10_3 h5 HALL10
 replace hE10:=zB hE10
 go_upto_region 4 with fail
 generalize (w1.alloc (.cells #[.int .i64 3,.int .i64 vn,.string vt,.slice (some ⟨b,o,none⟩) 11 vc] 70))=w2 at *
 have hs2:=HS2.out
 have v0:=HV2.out.c0
 have v3:=HV2.out.c3
 have y8:=show w2.cell? ⟨b,o+32,none⟩=some (.int .i64 2) from by have:=m8_0.out; rw [h3] at this; exact this
 have y9:=show w2.cell? ⟨b,o+36,none⟩=some (.int .i64 3) from by have:=m9_0.out; rw [h4] at this; exact this
 have y10:=show w2.cell? ⟨b,o+40,none⟩=some (.int .i64 3) from by have:=m10_0.out; rw [h5] at this; exact this
 have HK3:=zB (And.intro h3 (And.intro h4 h5))
 replace HS2:=zB hs2
 clear h2 h3 h4 h5 hs2
 go_wp2_with fail
 clear v0 v3 y8 y9 y10
 have hb3':Below w2.heap.size w2 ((w2.alloc (.cells #[.int .i64 0,.int .i64 0,.int .i64 0,.int .i64 0,.bool false,.int .i64 0,.int .i64 0,.slice none 0 0,.int .i64 0,.string ⟨#[]⟩,.slice none 0 0] 25)).alloc (.cells #[.bool true] 4)):=((Below.refl _ w2).alloc (Nat.le_refl _) _).alloc (by simp) _
 have HB3:=zB hb3'
 have HM3:Hid (Blk ((w2.alloc (.cells #[.int .i64 0,.int .i64 0,.int .i64 0,.int .i64 0,.bool false,.int .i64 0,.int .i64 0,.slice none 0 0,.int .i64 0,.string ⟨#[]⟩,.slice none 0 0] 25)).alloc (.cells #[.bool true] 4)) w2.heap.size 25 [.int .i64 0,.int .i64 0,.int .i64 0,.int .i64 0,.bool false,.int .i64 0,.int .i64 0,.slice none 0 0,.int .i64 0,.string ⟨#[]⟩,.slice none 0 0]):=zB (Blk.alloc (heap_alloc_new w2 _) _)
 have HF3:Hid (FlagAt ((w2.alloc (.cells #[.int .i64 0,.int .i64 0,.int .i64 0,.int .i64 0,.bool false,.int .i64 0,.int .i64 0,.slice none 0 0,.int .i64 0,.string ⟨#[]⟩,.slice none 0 0] 25)).alloc (.cells #[.bool true] 4)) (w2.heap.size+1) true):=zB (by
  have hz:=heap_alloc_new (w2.alloc (.cells #[.int .i64 0,.int .i64 0,.int .i64 0,.int .i64 0,.bool false,.int .i64 0,.int .i64 0,.slice none 0 0,.int .i64 0,.string ⟨#[]⟩,.slice none 0 0] 25)) (.cells #[.bool true] 4)
  rw [World.size_alloc] at hz
  exact hz)
 have HS3:Hid (((w2.alloc (.cells #[.int .i64 0,.int .i64 0,.int .i64 0,.int .i64 0,.bool false,.int .i64 0,.int .i64 0,.slice none 0 0,.int .i64 0,.string ⟨#[]⟩,.slice none 0 0] 25)).alloc (.cells #[.bool true] 4)).heap.size=w2.heap.size+2):=zB (by simp)
 clear hb3'
 generalize ((w2.alloc (.cells #[.int .i64 0,.int .i64 0,.int .i64 0,.int .i64 0,.bool false,.int .i64 0,.int .i64 0,.slice none 0 0,.int .i64 0,.string ⟨#[]⟩,.slice none 0 0] 25)).alloc (.cells #[.bool true] 4))=w3 at *
 refine (nnumbers_any w2.heap.size w3).mono ?_
 rintro e w4 ⟨rfl,hb4⟩
 dsimp only
 have HB4:=zB (show Below w2.heap.size w2 w4 from HB3.out.trans (Below.lower hb4 HB3.out.size))
 have HM4:=zB (HM3.out.keep hb4)
 have HF4:=zB (show FlagAt w4 (w2.heap.size+1) true from (hb4.block _ (lt_of_block HF3.out)).trans HF3.out)
 have hs4:w2.heap.size+2≤w4.heap.size:=by have:=hb4.size; have:=HS3.out; omega
 clear hb4 HB3 HM3 HF3 HS3
 go_wp2_with fail
 go_loopg [64] 7 (fun gk v wr=>∃ (k:Nat),k≤7∧gk=7 - k∧v = .int .i64 (k:Int)∧Hid (Blk wr w2.heap.size 25 (mcl E0.n E1.n E2.n E3.n E5.n E6.n E7.n k))∧Hid (FlagAt wr (w2.heap.size+1) (flg (decide (E0.k=1)) (decide (E1.k=1)) (decide (E2.k=1)) (decide (E3.k=1)) (decide (E5.k=1)) (decide (E6.k=1)) (decide (E7.k=1)) k))∧Hid (Below w2.heap.size w2 wr))
 case atStart=>exact⟨0,Nat.zero_le _,rfl,rfl,HM4,HF4,HB4⟩
 case round =>
  clear HM4 HF4 HB4
  obtain⟨k,hk,rfl,rfl,hM,hF,hB⟩:=hrel
  have HVr:=zB (show Four wr w1.heap.size _ _ _ _ _ from (hB.out.block _ (by have:=HS2.out; omega)).trans HV2.out)
  by_cases hk7:k<7
  ·have v3:=HVr.out.c3
   rcases (show k=0∨k=1∨k=2∨k=3∨k=4∨k=5∨k=6 by omega) with rfl | rfl | rfl | rfl | rfl | rfl | rfl
   ·rw [show ((0:Nat):Int)=0 from rfl]
    have hix:=ix7_0 w2.heap.size
    have y0:=cell_keep (hB.out) (show w2.cell? ⟨b,o,none⟩=some (.int .i64 E0.k) from m0_0.out)
    have y1:=cell_keep (hB.out) (show w2.cell? ⟨b,o+1,none⟩=some (.int .i64 E0.n) from m0_1.out)
    have y2:=cell_keep (hB.out) (show w2.cell? ⟨b,o+2,none⟩=some (.string E0.s) from m0_2.out)
    have y3:=cell_keep (hB.out) (show w2.cell? ⟨b,o+3,none⟩=some (.slice a0 E0.l.length c0) from m0_3.out)
    go_wp2_with fail
    refine (nread_any E0.k E0.n E0.s a0 E0.l.length c0 (w2.heap.size+1) _ wr hF.out (cl E0.n) (zB rfl) _ (zB rfl)).mono ?_
    rintro e wq ⟨rfl,hf,hg⟩
    dsimp only
    have HMq:=zB (hM.out.kept hg (fun e=>by have:=Option.some.inj e; omega))
    have HBq:=zB (hB.out.grown hg hB.out.size (fun q e=>by have:=Option.some.inj e; omega))
    have HFq:=zB hf
    clear hix y0 y1 y2 y3 v3 hf hg hM hF hB
    have x0:=HMq.out.cell (j:=0) rfl
    have x1:=HMq.out.free 0
    go_wp2_with fail
    clear x0 x1
    go_roundg (7 - 1)
    case rel=>exact⟨1,by omega,rfl,by go_num,zB (HMq.out.set 0 (.int .i64 (cl E0.n))),zB (show FlagAt _ _ _ from (grown_setCell wq w2.heap.size 0 (.int .i64 (cl E0.n))).block _ (lt_of_block HFq.out) (fun e=>by have:=Option.some.inj e; omega) |>.trans HFq.out),zB (HBq.out.grown (grown_setCell wq w2.heap.size 0 (.int .i64 (cl E0.n))) HBq.out.size (fun q e=>by have:=Option.some.inj e; omega))⟩
    case measure=>omega
   ·rw [show ((1:Nat):Int)=1 from rfl]
    have hix:=ix7_1 w2.heap.size
    have y0:=cell_keep (hB.out) (show w2.cell? ⟨b,o+4,none⟩=some (.int .i64 E1.k) from m1_0.out)
    have y1:=cell_keep (hB.out) (show w2.cell? ⟨b,o+5,none⟩=some (.int .i64 E1.n) from m1_1.out)
    have y2:=cell_keep (hB.out) (show w2.cell? ⟨b,o+6,none⟩=some (.string E1.s) from m1_2.out)
    have y3:=cell_keep (hB.out) (show w2.cell? ⟨b,o+7,none⟩=some (.slice a1 E1.l.length c1) from m1_3.out)
    go_wp2_with fail
    refine (nread_any E1.k E1.n E1.s a1 E1.l.length c1 (w2.heap.size+1) _ wr hF.out (cl E1.n) (zB rfl) _ (zB rfl)).mono ?_
    rintro e wq ⟨rfl,hf,hg⟩
    dsimp only
    have HMq:=zB (hM.out.kept hg (fun e=>by have:=Option.some.inj e; omega))
    have HBq:=zB (hB.out.grown hg hB.out.size (fun q e=>by have:=Option.some.inj e; omega))
    have HFq:=zB hf
    clear hix y0 y1 y2 y3 v3 hf hg hM hF hB
    have x0:=HMq.out.cell (j:=1) rfl
    have x1:=HMq.out.free 1
    go_wp2_with fail
    clear x0 x1
    go_roundg (7 - 2)
    case rel=>exact⟨2,by omega,rfl,by go_num,zB (HMq.out.set 1 (.int .i64 (cl E1.n))),zB (show FlagAt _ _ _ from (grown_setCell wq w2.heap.size 1 (.int .i64 (cl E1.n))).block _ (lt_of_block HFq.out) (fun e=>by have:=Option.some.inj e; omega) |>.trans HFq.out),zB (HBq.out.grown (grown_setCell wq w2.heap.size 1 (.int .i64 (cl E1.n))) HBq.out.size (fun q e=>by have:=Option.some.inj e; omega))⟩
    case measure=>omega
   ·rw [show ((2:Nat):Int)=2 from rfl]
    have hix:=ix7_2 w2.heap.size
    have y0:=cell_keep (hB.out) (show w2.cell? ⟨b,o+8,none⟩=some (.int .i64 E2.k) from m2_0.out)
    have y1:=cell_keep (hB.out) (show w2.cell? ⟨b,o+9,none⟩=some (.int .i64 E2.n) from m2_1.out)
    have y2:=cell_keep (hB.out) (show w2.cell? ⟨b,o+10,none⟩=some (.string E2.s) from m2_2.out)
    have y3:=cell_keep (hB.out) (show w2.cell? ⟨b,o+11,none⟩=some (.slice a2 E2.l.length c2) from m2_3.out)
    go_wp2_with fail
    refine (nread_any E2.k E2.n E2.s a2 E2.l.length c2 (w2.heap.size+1) _ wr hF.out (cl E2.n) (zB rfl) _ (zB rfl)).mono ?_
    rintro e wq ⟨rfl,hf,hg⟩
    dsimp only
    have HMq:=zB (hM.out.kept hg (fun e=>by have:=Option.some.inj e; omega))
    have HBq:=zB (hB.out.grown hg hB.out.size (fun q e=>by have:=Option.some.inj e; omega))
    have HFq:=zB hf
    clear hix y0 y1 y2 y3 v3 hf hg hM hF hB
    have x0:=HMq.out.cell (j:=2) rfl
    have x1:=HMq.out.free 2
    go_wp2_with fail
    clear x0 x1
    go_roundg (7 - 3)
    case rel=>exact⟨3,by omega,rfl,by go_num,zB (HMq.out.set 2 (.int .i64 (cl E2.n))),zB (show FlagAt _ _ _ from (grown_setCell wq w2.heap.size 2 (.int .i64 (cl E2.n))).block _ (lt_of_block HFq.out) (fun e=>by have:=Option.some.inj e; omega) |>.trans HFq.out),zB (HBq.out.grown (grown_setCell wq w2.heap.size 2 (.int .i64 (cl E2.n))) HBq.out.size (fun q e=>by have:=Option.some.inj e; omega))⟩
    case measure=>omega
   ·rw [show ((3:Nat):Int)=3 from rfl]
    have hix:=ix7_3 w2.heap.size
    have y0:=cell_keep (hB.out) (show w2.cell? ⟨b,o+12,none⟩=some (.int .i64 E3.k) from m3_0.out)
    have y1:=cell_keep (hB.out) (show w2.cell? ⟨b,o+13,none⟩=some (.int .i64 E3.n) from m3_1.out)
    have y2:=cell_keep (hB.out) (show w2.cell? ⟨b,o+14,none⟩=some (.string E3.s) from m3_2.out)
    have y3:=cell_keep (hB.out) (show w2.cell? ⟨b,o+15,none⟩=some (.slice a3 E3.l.length c3) from m3_3.out)
    go_wp2_with fail
    refine (nread_any E3.k E3.n E3.s a3 E3.l.length c3 (w2.heap.size+1) _ wr hF.out (cl E3.n) (zB rfl) _ (zB rfl)).mono ?_
    rintro e wq ⟨rfl,hf,hg⟩
    dsimp only
    have HMq:=zB (hM.out.kept hg (fun e=>by have:=Option.some.inj e; omega))
    have HBq:=zB (hB.out.grown hg hB.out.size (fun q e=>by have:=Option.some.inj e; omega))
    have HFq:=zB hf
    clear hix y0 y1 y2 y3 v3 hf hg hM hF hB
    have x0:=HMq.out.cell (j:=3) rfl
    have x1:=HMq.out.free 3
    go_wp2_with fail
    clear x0 x1
    go_roundg (7 - 4)
    case rel=>exact⟨4,by omega,rfl,by go_num,zB (HMq.out.set 3 (.int .i64 (cl E3.n))),zB (show FlagAt _ _ _ from (grown_setCell wq w2.heap.size 3 (.int .i64 (cl E3.n))).block _ (lt_of_block HFq.out) (fun e=>by have:=Option.some.inj e; omega) |>.trans HFq.out),zB (HBq.out.grown (grown_setCell wq w2.heap.size 3 (.int .i64 (cl E3.n))) HBq.out.size (fun q e=>by have:=Option.some.inj e; omega))⟩
    case measure=>omega
   ·rw [show ((4:Nat):Int)=4 from rfl]
    have hix:=ix7_4 w2.heap.size
    have y0:=cell_keep (hB.out) (show w2.cell? ⟨b,o+20,none⟩=some (.int .i64 E5.k) from m5_0.out)
    have y1:=cell_keep (hB.out) (show w2.cell? ⟨b,o+21,none⟩=some (.int .i64 E5.n) from m5_1.out)
    have y2:=cell_keep (hB.out) (show w2.cell? ⟨b,o+22,none⟩=some (.string E5.s) from m5_2.out)
    have y3:=cell_keep (hB.out) (show w2.cell? ⟨b,o+23,none⟩=some (.slice a5 E5.l.length c5) from m5_3.out)
    go_wp2_with fail
    refine (nread_any E5.k E5.n E5.s a5 E5.l.length c5 (w2.heap.size+1) _ wr hF.out (cl E5.n) (zB rfl) _ (zB rfl)).mono ?_
    rintro e wq ⟨rfl,hf,hg⟩
    dsimp only
    have HMq:=zB (hM.out.kept hg (fun e=>by have:=Option.some.inj e; omega))
    have HBq:=zB (hB.out.grown hg hB.out.size (fun q e=>by have:=Option.some.inj e; omega))
    have HFq:=zB hf
    clear hix y0 y1 y2 y3 v3 hf hg hM hF hB
    have x0:=HMq.out.cell (j:=5) rfl
    have x1:=HMq.out.free 5
    go_wp2_with fail
    clear x0 x1
    go_roundg (7 - 5)
    case rel=>exact⟨5,by omega,rfl,by go_num,zB (HMq.out.set 5 (.int .i64 (cl E5.n))),zB (show FlagAt _ _ _ from (grown_setCell wq w2.heap.size 5 (.int .i64 (cl E5.n))).block _ (lt_of_block HFq.out) (fun e=>by have:=Option.some.inj e; omega) |>.trans HFq.out),zB (HBq.out.grown (grown_setCell wq w2.heap.size 5 (.int .i64 (cl E5.n))) HBq.out.size (fun q e=>by have:=Option.some.inj e; omega))⟩
    case measure=>omega
   ·rw [show ((5:Nat):Int)=5 from rfl]
    have hix:=ix7_5 w2.heap.size
    have y0:=cell_keep (hB.out) (show w2.cell? ⟨b,o+24,none⟩=some (.int .i64 E6.k) from m6_0.out)
    have y1:=cell_keep (hB.out) (show w2.cell? ⟨b,o+25,none⟩=some (.int .i64 E6.n) from m6_1.out)
    have y2:=cell_keep (hB.out) (show w2.cell? ⟨b,o+26,none⟩=some (.string E6.s) from m6_2.out)
    have y3:=cell_keep (hB.out) (show w2.cell? ⟨b,o+27,none⟩=some (.slice a6 E6.l.length c6) from m6_3.out)
    go_wp2_with fail
    refine (nread_any E6.k E6.n E6.s a6 E6.l.length c6 (w2.heap.size+1) _ wr hF.out (cl E6.n) (zB rfl) _ (zB rfl)).mono ?_
    rintro e wq ⟨rfl,hf,hg⟩
    dsimp only
    have HMq:=zB (hM.out.kept hg (fun e=>by have:=Option.some.inj e; omega))
    have HBq:=zB (hB.out.grown hg hB.out.size (fun q e=>by have:=Option.some.inj e; omega))
    have HFq:=zB hf
    clear hix y0 y1 y2 y3 v3 hf hg hM hF hB
    have x0:=HMq.out.cell (j:=6) rfl
    have x1:=HMq.out.free 6
    go_wp2_with fail
    clear x0 x1
    go_roundg (7 - 6)
    case rel=>exact⟨6,by omega,rfl,by go_num,zB (HMq.out.set 6 (.int .i64 (cl E6.n))),zB (show FlagAt _ _ _ from (grown_setCell wq w2.heap.size 6 (.int .i64 (cl E6.n))).block _ (lt_of_block HFq.out) (fun e=>by have:=Option.some.inj e; omega) |>.trans HFq.out),zB (HBq.out.grown (grown_setCell wq w2.heap.size 6 (.int .i64 (cl E6.n))) HBq.out.size (fun q e=>by have:=Option.some.inj e; omega))⟩
    case measure=>omega
   ·rw [show ((6:Nat):Int)=6 from rfl]
    have hix:=ix7_6 w2.heap.size
    have y0:=cell_keep (hB.out) (show w2.cell? ⟨b,o+28,none⟩=some (.int .i64 E7.k) from m7_0.out)
    have y1:=cell_keep (hB.out) (show w2.cell? ⟨b,o+29,none⟩=some (.int .i64 E7.n) from m7_1.out)
    have y2:=cell_keep (hB.out) (show w2.cell? ⟨b,o+30,none⟩=some (.string E7.s) from m7_2.out)
    have y3:=cell_keep (hB.out) (show w2.cell? ⟨b,o+31,none⟩=some (.slice a7 E7.l.length c7) from m7_3.out)
    go_wp2_with fail
    refine (nread_any E7.k E7.n E7.s a7 E7.l.length c7 (w2.heap.size+1) _ wr hF.out (cl E7.n) (zB rfl) _ (zB rfl)).mono ?_
    rintro e wq ⟨rfl,hf,hg⟩
    dsimp only
    have HMq:=zB (hM.out.kept hg (fun e=>by have:=Option.some.inj e; omega))
    have HBq:=zB (hB.out.grown hg hB.out.size (fun q e=>by have:=Option.some.inj e; omega))
    have HFq:=zB hf
    clear hix y0 y1 y2 y3 v3 hf hg hM hF hB
    have x0:=HMq.out.cell (j:=8) rfl
    have x1:=HMq.out.free 8
    go_wp2_with fail
    clear x0 x1
    go_roundg (7 - 7)
    case rel=>exact⟨7,by omega,rfl,by go_num,zB (HMq.out.set 8 (.int .i64 (cl E7.n))),zB (show FlagAt _ _ _ from (grown_setCell wq w2.heap.size 8 (.int .i64 (cl E7.n))).block _ (lt_of_block HFq.out) (fun e=>by have:=Option.some.inj e; omega) |>.trans HFq.out),zB (HBq.out.grown (grown_setCell wq w2.heap.size 8 (.int .i64 (cl E7.n))) HBq.out.size (fun q e=>by have:=Option.some.inj e; omega))⟩
    case measure=>omega
  ·obtain rfl:k=7:=by omega
   have v3:=HVr.out.c3
   rw [show ((7:Nat):Int)=7 from rfl]
   have y0:=cell_keep (hB.out) (show w2.cell? ⟨b,o+16,none⟩=some (.int .i64 E4.k) from m4_0.out)
   have y1:=cell_keep (hB.out) (show w2.cell? ⟨b,o+17,none⟩=some (.int .i64 E4.n) from m4_1.out)
   have y2:=cell_keep (hB.out) (show w2.cell? ⟨b,o+18,none⟩=some (.string E4.s) from m4_2.out)
   have y3:=cell_keep (hB.out) (show w2.cell? ⟨b,o+19,none⟩=some (.slice a4 E4.l.length c4) from m4_3.out)
   go_wp2_with fail
   refine (nread_any E4.k E4.n E4.s a4 E4.l.length c4 (w2.heap.size+1) _ wr hF.out (cl E4.n) (zB rfl) _ (zB rfl)).mono ?_
   rintro e w5 ⟨rfl,hf,hg⟩
   dsimp only
   have HM5:=zB (hM.out.kept hg (fun e=>by have:=Option.some.inj e; omega))
   have HB5:=zB (hB.out.grown hg hB.out.size (fun q e=>by have:=Option.some.inj e; omega))
   obtain⟨g8,hg8⟩:∃ q,q=((flg (decide (E0.k=1)) (decide (E1.k=1)) (decide (E2.k=1)) (decide (E3.k=1)) (decide (E5.k=1)) (decide (E6.k=1)) (decide (E7.k=1)) 7)&&decide (E4.k=1)):=⟨_,rfl⟩
   rw [← hg8] at hf
   have HG8:=zB hg8
   have HF5:=zB hf
   have HV5:=zB (show Four w5 w1.heap.size _ _ _ _ _ from (HB5.out.block _ (by have:=HS2.out; omega)).trans HV2.out)
   clear y0 y1 y2 y3 v3 hf hg hM hF hB hg8 HVr hk hk7
   have v3:=HV5.out.c3
   have y34:=cell_keep HB5.out (show w2.cell? ⟨b,o+34,none⟩=some (.string E8.s) from m8_2.out)
   have x4:=HM5.out.cell (j:=4) rfl
   have f4:=HM5.out.free 4
   have x9:=HM5.out.cell (j:=9) rfl
   have f9:=HM5.out.free 9
   go_upto_region 19 with fail
   have hm6:=zB (show Blk ((w5.setCell ⟨w2.heap.size,4,none⟩ (.bool (cl E4.n==1))).setCell ⟨w2.heap.size,9,none⟩ (.string E8.s)) w2.heap.size 25 [.int .i64 (cl E0.n),.int .i64 (cl E1.n),.int .i64 (cl E2.n),.int .i64 (cl E3.n),.bool (cl E4.n==1),.int .i64 (cl E5.n),.int .i64 (cl E6.n),.slice none 0 0,.int .i64 (cl E7.n),.string E8.s,.slice none 0 0] from (HM5.out.set 4 _).set 9 _)
   have hg6:=grown_trans (grown_setCell w5 w2.heap.size 4 (.bool (cl E4.n==1))) (grown_setCell (w5.setCell ⟨w2.heap.size,4,none⟩ (.bool (cl E4.n==1))) w2.heap.size 9 (.string E8.s))
   have HF6:=zB (show FlagAt ((w5.setCell ⟨w2.heap.size,4,none⟩ (.bool (cl E4.n==1))).setCell ⟨w2.heap.size,9,none⟩ (.string E8.s)) (w2.heap.size+1) g8 from (hg6.block _ (lt_of_block HF5.out) (fun e=>by have:=Option.some.inj e; omega)).trans HF5.out)
   have HB6:=zB (HB5.out.grown hg6 HB5.out.size (fun q e=>by have:=Option.some.inj e; omega))
   have HS6:=zB (show w2.heap.size+2≤_ from Nat.le_trans (show w2.heap.size+2≤w5.heap.size from by have:=lt_of_block HF5.out; omega) hg6.size)
   obtain⟨okb,hok⟩:∃ y,y=(cl E4.n==1):=⟨_,rfl⟩
   rw [← hok] at hm6 HF6 HB6 HS6 ⊢
   have HOK:=zB hok
   clear v3 y34 x4 f4 x9 f9 HM5 HB5 HF5 HV5 hg6 hok
   generalize (w5.setCell ⟨w2.heap.size,4,none⟩ (.bool okb)).setCell ⟨w2.heap.size,9,none⟩ (.string E8.s)=w6 at *
   have hs6:=HS6.out
   have HV6:=zB (show Four w6 w1.heap.size _ _ _ _ _ from (HB6.out.block _ (by have:=HS2.out; omega)).trans HV2.out)
   have v3:=HV6.out.c3
   have y39:=cell_keep HB6.out (show w2.cell? ⟨b,o+39,none⟩=some (.slice a9 E9.l.length c9) from m9_3.out)
   go_wp2_with fail
   clear v3 y39
   have HLEN9:Hid (E9.l.length≤4000):=zB (by
    have h:=getL_ok s HBA.out
    rw [HHV.out] at h
    exact fld_few h.2.2.1 9 (by rw [HLEN.out]; decide) hE9.out)
   have HLEN10:Hid (E10.l.length≤4000):=zB (by
    have h:=getL_ok s HBA.out
    rw [HHV.out] at h
    exact fld_few h.2.2.1 10 (by rw [HLEN.out]; decide) hE10.out)
   go_loopg [104] E9.l.length (fun gk v wr=>∃ (k:Nat) (va2:Option Addr) (vc2:Nat) (l2:List Int),k≤E9.l.length∧gk=E9.l.length - k∧v = .int .i64 (k:Int)∧Hid (l2=(E9.l.take k).map (fun x=>cl x.n))∧Hid (Blk wr w2.heap.size 25 [.int .i64 (cl E0.n),.int .i64 (cl E1.n),.int .i64 (cl E2.n),.int .i64 (cl E3.n),.bool okb,.int .i64 (cl E5.n),.int .i64 (cl E6.n),.slice none 0 0,.int .i64 (cl E7.n),.string E8.s,.slice va2 l2.length vc2])∧Hid (wr.ownsRow w6.heap.size 3 1 (.slice va2 l2.length vc2) l2.length (i64s l2))∧Hid (FlagAt wr (w2.heap.size+1) (g8&&(E9.l.take k).all isNum))∧Hid (Below w2.heap.size w2 wr)∧Hid (w6.heap.size≤wr.heap.size))
   case atStart=>exact⟨0,none,0,[],Nat.zero_le _,rfl,rfl,zB rfl,hm6,zB (World.ownsRow_nil _ _ _ _),zB (by simpa using HF6.out),HB6,zB (Nat.le_refl _)⟩
   case round =>
    clear hm6 HF6 HB6 HV6
    obtain⟨k,va2,vc2,l2,hk,rfl,rfl,HL2,hM,hO,hF,hB,hS⟩:=hrel
    by_cases hkn:k<E9.l.length
    ·have hki:(k:Int)<(E9.l.length:Int):=by omega
     have HKN:=zB hkn
     have hl9:=HLEN9.out
     obtain⟨b9,o9,cs9,rfl,hSb,hat9,hc9⟩:=HALL9.out.at 0 E9.l k hkn
     rw [Nat.zero_add] at hc9
     have HLT:Hid (l2++[cl E9.l[k].n]=(E9.l.take (k+1)).map (fun x=>cl x.n)):=zB (by rw [HL2.out,List.take_add_one,List.getElem?_eq_getElem hkn,List.map_append]; rfl)
     have HFT:Hid ((E9.l.take (k+1)).all isNum=((E9.l.take k).all isNum&&isNum E9.l[k])):=zB (by rw [List.take_add_one,List.getElem?_eq_getElem hkn,List.all_append]; simp <;> rfl)
     have HN2:Hid (l2.length≤1000000):=zB (by rw [HL2.out,List.length_map,List.length_take]; have:=HLEN9.out; omega)
     generalize E9.l[k]=x9 at *
     obtain⟨xk,xn,xs,xl⟩:=x9
     simp only [V.At] at hat9
     obtain⟨xa,xc,rfl,-,-,-⟩:=hat9
     have y0:=cell_keep hB.out (hc9 0 _ rfl)
     have y1:=cell_keep hB.out (hc9 1 _ rfl)
     have y2:=cell_keep hB.out (hc9 2 _ rfl)
     have y3:=cell_keep hB.out (hc9 3 _ rfl)
     simp only [Nat.add_zero] at y0
     clear hc9
     have hbq:Below wr.heap.size wr (wr.alloc (.cells #[.int .i64 xk,.int .i64 xn,.string xs,.slice xa xl.length xc] 70)):=(Below.refl _ wr).alloc (Nat.le_refl _) _
     have HMq:=zB (hM.out.keep hbq)
     have HOq:=zB (own_under hO.out hbq)
     have HFq:=zB (show FlagAt (wr.alloc (.cells #[.int .i64 xk,.int .i64 xn,.string xs,.slice xa xl.length xc] 70)) _ _ from (hbq.block _ (lt_of_block hF.out)).trans hF.out)
     have HBq:=zB (hB.out.trans (Below.lower hbq hB.out.size))
     have HXq:Hid (Blk (wr.alloc (.cells #[.int .i64 xk,.int .i64 xn,.string xs,.slice xa xl.length xc] 70)) wr.heap.size 70 [.int .i64 xk,.int .i64 xn,.string xs,.slice xa xl.length xc]):=zB (heap_alloc_new wr _)
     have HSq:Hid ((wr.alloc (.cells #[.int .i64 xk,.int .i64 xn,.string xs,.slice xa xl.length xc] 70)).heap.size=wr.heap.size+1):=zB (by simp)
     have HOL:=zB hO.out.lt
     have hsr:=hS.out
     clear hbq hM hO hF hB hS
     go_wp2_with fail
     clear y0 y1 y2 y3
     generalize (wr.alloc (.cells #[.int .i64 xk,.int .i64 xn,.string xs,.slice xa xl.length xc] 70))=wq at *
     obtain⟨gq,hgq⟩:∃ q,q=(g8&&(E9.l.take k).all isNum):=⟨_,rfl⟩
     rw [← hgq] at HFq
     have HGQ:=zB hgq
     clear hgq
     refine wp_region_lastE (regOf Tryz.f14 22) [some 108,some 109,some 110,some 111,some 112,some 113,some 114,some 115] 8 (ngvT w2.heap.size wr.heap.size w6.heap.size xk xn xs xa xl.length xc gq va2 vc2 [.int .i64 (cl E0.n),.int .i64 (cl E1.n),.int .i64 (cl E2.n),.int .i64 (cl E3.n),.bool okb,.int .i64 (cl E5.n),.int .i64 (cl E6.n),.slice none 0 0,.int .i64 (cl E7.n),.string E8.s,.slice va2 l2.length vc2] l2 w2 wq) (fun e w'=>(Below w2.heap.size w2 w'∧wq.heap.size≤w'.heap.size∧Blk w' w2.heap.size 25 [.int .i64 (cl E0.n),.int .i64 (cl E1.n),.int .i64 (cl E2.n),.int .i64 (cl E3.n),.bool okb,.int .i64 (cl E5.n),.int .i64 (cl E6.n),.slice none 0 0,.int .i64 (cl E7.n),.string E8.s,.slice va2 l2.length vc2]∧Blk w' wr.heap.size 70 [.int .i64 xk,.int .i64 xn,.string xs,.slice xa xl.length xc]∧(FlagAt w' (w2.heap.size+1) gq∨FlagAt w' (w2.heap.size+1) (gq&&decide (xk=1))))∧(e 6=none→w'.ownsRow w6.heap.size 3 1 (.slice va2 l2.length vc2) l2.length (i64s l2))) ngvD (by kernel_rfl) (by kernel_rfl) (by kernel_rfl) (by kernel_rfl) (by kernel_rfl) (by kernel_rfl) (by kernel_rfl) ⟨⟨HBq.out.drew,Nat.le_refl _,HMq.out,HXq.out,.inl HFq.out⟩,fun _=>own_under HOq.out ((Below.refl _ _).drew)⟩
      (ngv_steps w2.heap.size wr.heap.size w6.heap.size xk xn xs xa xl.length xc gq va2 vc2 [.int .i64 (cl E0.n),.int .i64 (cl E1.n),.int .i64 (cl E2.n),.int .i64 (cl E3.n),.bool okb,.int .i64 (cl E5.n),.int .i64 (cl E6.n),.slice none 0 0,.int .i64 (cl E7.n),.string E8.s,.slice va2 l2.length vc2] l2 w2 wq (Nat.le_refl _) (by omega) (by have:=HSq.out; omega) (by omega) (by have:=HSq.out; omega) (fun e=>by have:=(HOL.out _ e.symm).2; omega) rfl HN2.out (by kernel_rfl) (by kernel_rfl) (by kernel_rfl) (by kernel_rfl) (by kernel_rfl)) ?_
     intro oL hoL eL vs w9 hn hallL hCw9 hT KL hKL
     replace hn:vs.length=8:=hn
     obtain⟨v0,vs1,rfl,hn1⟩:=len_cons hn
     obtain⟨v1,vs2,rfl,hn2⟩:=len_cons hn1
     obtain⟨v2,vs3,rfl,hn3⟩:=len_cons hn2
     obtain⟨v3,vs4,rfl,hn4⟩:=len_cons hn3
     obtain⟨v4,vs5,rfl,hn5⟩:=len_cons hn4
     obtain⟨v5,vs6,rfl,hn6⟩:=len_cons hn5
     obtain⟨v6,vs7,rfl,hn7⟩:=len_cons hn6
     obtain⟨v7,vs8,rfl,hn8⟩:=len_cons hn7
     obtain rfl:=List.eq_nil_of_length_eq_zero hn8
     clear hn hn1 hn2 hn3 hn4 hn5 hn6 hn7 hn8
     obtain rfl:v0 = .pointer (some ⟨w2.heap.size,10,none⟩):=hT 0 v0 rfl (by kernel_rfl)
     obtain rfl:v1 = .slice va2 l2.length vc2:=hT 1 v1 rfl (by kernel_rfl)
     obtain rfl:v2 = .func (.func 43) #[] #[.pointer (some ⟨w2.heap.size+1,0,none⟩)]:=hT 2 v2 rfl (by kernel_rfl)
     obtain rfl:v3 = .agg #[.int .i64 xk,.int .i64 xn,.string xs,.slice xa xl.length xc]:=hT 3 v3 rfl (by kernel_rfl)
     have t4:=zB (hT 4 v4 rfl (by kernel_rfl))
     have t6:=zB (hT 6 v6 rfl (by kernel_rfl))
     obtain rfl:v7 = .pointer (some ⟨w2.heap.size,10,none⟩):=hT 7 v7 rfl (by kernel_rfl)
     clear hT
     have hoL1:=opIs hoL (p:=.store 23 (.tmp 115) (.tmp 114)) (by kernel_rfl)
     have hgL:=guardIs hoL (p:=none) (by kernel_rfl)
     have hdL:oL.dst=none:=by have:=(show ((regOf Tryz.f14 22)[8]?).map (·.dst)=some (none) by kernel_rfl); rw [hoL] at this; simpa using this
     rw [if_pos (wanted_free hgL)]
     rw [hdL] at hKL
     simp only [puts,Act.put,List.setIfInBounds_toArray,List.set_cons_succ,List.set_cons_zero] at hKL ⊢
     obtain⟨hC9,-⟩:=hCw9
     obtain⟨a3,c3,e11,hown⟩:=t6.out
     subst e11
     obtain⟨hB9,hS9,hM9,-,-⟩:=hC9
     have hf9:=t4.out.2
     have e3:=hM9.cell (j:=10) rfl
     have k3:=hM9.free 10
     unfold Oper.wp
     rw [show (execOp _ oL).run Tryz.prog w9 = .ok .skip (w9.setCell ⟨w2.heap.size,10,none⟩ (.slice a3 (l2.length+1) c3)) by unfold execOp; simp only [hoL1]; simp [go_sem,e3,k3]]
     show KL (Act.put _ oL.dst undef) _
     rw [hdL]
     refine hKL undef _ ?_
     have hg:=grown_setCell w9 w2.heap.size 10 (.slice a3 (l2.length+1) c3)
     obtain⟨l3,hl3⟩:∃ l3,l3=l2++[cl xn]:=⟨_,rfl⟩
     have hll:l2.length+1=l3.length:=by rw [hl3]; simp
     have HM10:=zB (show Blk (w9.setCell ⟨w2.heap.size,10,none⟩ (.slice a3 (l2.length+1) c3)) w2.heap.size 25 [.int .i64 (cl E0.n),.int .i64 (cl E1.n),.int .i64 (cl E2.n),.int .i64 (cl E3.n),.bool okb,.int .i64 (cl E5.n),.int .i64 (cl E6.n),.slice none 0 0,.int .i64 (cl E7.n),.string E8.s,.slice a3 (l2.length+1) c3] from hM9.set 10 _)
     have HO10:=zB (own_kept hown hg (show w2.heap.size<w6.heap.size by have:=HS6.out; omega))
     have HF10:=zB (show FlagAt (w9.setCell ⟨w2.heap.size,10,none⟩ (.slice a3 (l2.length+1) c3)) _ _ from (hg.block _ (lt_of_block hf9) (fun e=>by have:=Option.some.inj e; omega)).trans hf9)
     have HB10:=zB (hB9.grown hg hB9.size (fun q e=>by have:=Option.some.inj e; omega))
     have HS10:=zB (show w6.heap.size≤(w9.setCell ⟨w2.heap.size,10,none⟩ (.slice a3 (l2.length+1) c3)).heap.size from Nat.le_trans (show w6.heap.size≤wq.heap.size by have:=HSq.out; omega) (Nat.le_trans hS9 hg.size))
     rw [← hl3] at HO10
     rw [hll] at HM10 HO10 HF10 HB10 HS10 ⊢
     have HL3:=zB hl3
     clear e3 k3 hown t4 t6 hKL hoL hoL1 hgL hdL hallL hg hf9 hB9 hS9 hM9 hll hl3 HMq HOq HFq HBq HXq HSq HOL hsr
     generalize w9.setCell ⟨w2.heap.size,10,none⟩ (.slice a3 l3.length c3)=w10 at *
     go_wp2_with fail
     have hkn9:=HKN.out
     go_roundg (E9.l.length - (k+1))
     case rel=>exact⟨k+1,a3,c3,l3,by have:=HKN.out; omega,rfl,by go_num,zB (by rw [HL3.out]; exact HLT.out),HM10,HO10,zB (by rw [HFT.out,← Bool.and_assoc,← HGQ.out]; exact HF10.out),HB10,HS10⟩
     case measure=>omega
    ·obtain rfl:k=E9.l.length:=by omega
     have HVO:Hid (l2=E9.l.map (fun x=>cl x.n)):=zB (by rw [HL2.out,List.take_length])
     have hf7:=hF.out
     rw [List.take_length] at hf7
     obtain⟨g9,hg9⟩:∃ q,q=(g8&&E9.l.all isNum):=⟨_,rfl⟩
     rw [← hg9] at hf7
     have HG9:=zB hg9
     obtain⟨w7,hw7⟩:∃ y,y=wr:=⟨_,rfl⟩
     subst hw7
     have HF7:=zB hf7
     have HV7:=zB (show Four w7 w1.heap.size _ _ _ _ _ from (hB.out.block _ (by have:=HS2.out; omega)).trans HV2.out)
     have v3:=HV7.out.c3
     have y43:=cell_keep hB.out (show w2.cell? ⟨b,o+43,none⟩=some (.slice a10 E10.l.length c10) from m10_3.out)
     have hs7:=hS.out
     clear HL2 hF hf7 hg9 hk hkn
     go_wp2_with fail
     clear v3 y43 HV7
     go_loopg [123] E10.l.length (fun gk v wr=>∃ (k:Nat) (va3:Option Addr) (vc3:Nat) (l3:List Rc),k≤E10.l.length∧gk=E10.l.length - k∧v = .int .i64 (k:Int)∧Hid (l3=(E10.l.take k).map recCut)∧Hid (Blk wr w2.heap.size 25 [.int .i64 (cl E0.n),.int .i64 (cl E1.n),.int .i64 (cl E2.n),.int .i64 (cl E3.n),.bool okb,.int .i64 (cl E5.n),.int .i64 (cl E6.n),.slice va3 l3.length vc3,.int .i64 (cl E7.n),.string E8.s,.slice va2 l2.length vc2])∧Hid (wr.ownsRow w7.heap.size 67 3 (.slice va3 l3.length vc3) l3.length (rcE.cells l3))∧Hid (FlagAt wr (w2.heap.size+1) (g9&&(E10.l.take k).all recTwo))∧Hid (Below w2.heap.size w2 wr)∧Hid (w7.heap.size≤wr.heap.size)∧Hid (∀ q,q<w7.heap.size→q≠w2.heap.size→q≠w2.heap.size+1→wr.heap[q]? = w7.heap[q]?)∧Hid (∀ y∈E10.l.take k,recNum y))
     case atStart=>exact⟨0,none,0,[],Nat.zero_le _,rfl,rfl,zB rfl,hM,zB (World.ownsRow_nil _ _ _ _),zB (by simpa using HF7.out),hB,zB (Nat.le_refl _),zB (fun _ _ _ _=>rfl),zB (fun y hy=>by simp at hy)⟩
     case round =>
      have HO2:=hO
      clear hM HF7 hO hB hS
      obtain⟨k,va3,vc3,l3,hk,rfl,rfl,HL3,hM,hO,hF,hB,hS,hQ,hA⟩:=hrel
      by_cases hkn:k<E10.l.length
      ·have hki:(k:Int)<(E10.l.length:Int):=by omega
       have HKN:=zB hkn
       have hl9:=HLEN10.out
       obtain⟨b9,o9,cs9,rfl,hSb,hat9,hc9⟩:=HALL10.out.at 0 E10.l k hkn
       rw [Nat.zero_add] at hc9
       have HMEM:=zB (List.getElem_mem hkn)
       have HLT:Hid (l3++[recCut E10.l[k]]=(E10.l.take (k+1)).map recCut):=zB (by rw [HL3.out,List.take_add_one,List.getElem?_eq_getElem hkn,List.map_append]; rfl)
       have HFT:Hid ((E10.l.take (k+1)).all recTwo=((E10.l.take k).all recTwo&&recTwo E10.l[k])):=zB (by rw [List.take_add_one,List.getElem?_eq_getElem hkn,List.all_append]; simp <;> rfl)
       have HAT:Hid (recNum E10.l[k]→∀ y∈E10.l.take (k+1),recNum y):=zB (fun hr y hy=>by
        rw [List.take_add_one,List.getElem?_eq_getElem hkn,List.mem_append] at hy
        rcases hy with hy | hy
        ·exact hA.out y hy
        ·rw [Option.toList_some,List.mem_singleton] at hy; rw [hy]; exact hr)
       have HN3:Hid (l3.length≤1000000):=zB (by rw [HL3.out,List.length_map,List.length_take]; have:=HLEN10.out; omega)
       generalize E10.l[k]=x9 at *
       obtain⟨xk,xn,xs,xl⟩:=x9
       simp only [V.At] at hat9
       obtain⟨xa,xc,rfl,-,-,hall9⟩:=hat9
       have y0:=cell_keep hB.out (hc9 0 _ rfl)
       have y1:=cell_keep hB.out (hc9 1 _ rfl)
       have y2:=cell_keep hB.out (hc9 2 _ rfl)
       have y3:=cell_keep hB.out (hc9 3 _ rfl)
       simp only [Nat.add_zero] at y0
       clear hc9
       have hbq:Below wr.heap.size wr (wr.alloc (.cells #[.int .i64 xk,.int .i64 xn,.string xs,.slice xa xl.length xc] 70)):=(Below.refl _ wr).alloc (Nat.le_refl _) _
       have HMq:=zB (hM.out.keep hbq)
       have HOq:=zB (own_under hO.out hbq)
       have HFq:=zB (show FlagAt (wr.alloc (.cells #[.int .i64 xk,.int .i64 xn,.string xs,.slice xa xl.length xc] 70)) _ _ from (hbq.block _ (lt_of_block hF.out)).trans hF.out)
       have HBq:=zB (hB.out.trans (Below.lower hbq hB.out.size))
       have HXq:Hid (Blk (wr.alloc (.cells #[.int .i64 xk,.int .i64 xn,.string xs,.slice xa xl.length xc] 70)) wr.heap.size 70 [.int .i64 xk,.int .i64 xn,.string xs,.slice xa xl.length xc]):=zB (heap_alloc_new wr _)
       have HSq:Hid ((wr.alloc (.cells #[.int .i64 xk,.int .i64 xn,.string xs,.slice xa xl.length xc] 70)).heap.size=wr.heap.size+1):=zB (by simp)
       have HQq:=zB (fun q (h1:q<w7.heap.size) (h2:q≠w2.heap.size) (h3:q≠w2.heap.size+1)=>(hbq.block q (Nat.lt_of_lt_of_le h1 hS.out)).trans (hQ.out q h1 h2 h3))
       have HOL:=zB hO.out.lt
       have HALX:=zB hall9
       have hsr:=hS.out
       clear hbq hM hO hF hB hS hQ hall9
       go_upto_region 27 with fail
       clear y0 y1 y2 y3
       generalize (wr.alloc (.cells #[.int .i64 xk,.int .i64 xn,.string xs,.slice xa xl.length xc] 70))=wq at *
       have HRq:=zB (show Blk wq w.heap.size _ _ from (HBq.out.block _ (by have:=HR2.out.lt; have:=HB2.out.size; omega)).trans HR2.out)
       have x0:=HXq.out.cell (j:=0) rfl
       have x3:=HXq.out.cell (j:=3) rfl
       have HBW:=zB (HB2.out.trans (Below.lower HBq.out HB2.out.size))
       by_cases hl3:xl.length=3
       ·obtain⟨b8,o8,rfl,hS8,hel⟩:=elemsV HALX.out (by rw [hl3]; decide)
        obtain⟨z0,zc0,-,m0,m1,m2,m3⟩:=hel 0 (by rw [hl3]; decide)
        obtain⟨z1,zc1,-,m4,m5,m6,m7⟩:=hel 1 (by rw [hl3]; decide)
        obtain⟨z2,zc2,-,m8,m9,m10,m11⟩:=hel 2 (by rw [hl3]; decide)
        simp only [Nat.zero_mul,Nat.one_mul,Nat.add_zero,Nat.reduceMul] at m0 m1 m2 m3 m4 m5 m6 m7 m8 m9 m10 m11
        rw [hl3] at x3 HXq
        have hb8:b8<w2.heap.size:=by have:=HS2.out; omega
        have HFLD:Hid (recNum (.mk xk xn xs xl)↔(xk=3∧(xl.getD 2 zeroV).k=2)):=zB ⟨fun h=>⟨h.1,h.2.2⟩,fun h=>⟨h.1,hl3,h.2⟩⟩
        have y8:=cell_keep HBq.out m8
        by_cases hk:xk=3∧(xl.getD 2 zeroV).k=2
        ·have hrn:=HFLD.out.2 hk
         obtain⟨rfl,hk2⟩:=hk
         rw [hk2] at y8
         have HAT2:=zB (HAT.out hrn)
         rw [hl3]
         clear HX hx hel HFLD HAT hk2 HRq HBW hrn
         go_wp2_with fail
         clear x0 x3 y8
         obtain⟨gq,hgq⟩:∃ q,q=(g9&&(E10.l.take k).all recTwo):=⟨_,rfl⟩
         rw [← hgq] at HFq
         have HGQ:=zB hgq
         clear hgq
         obtain⟨G0,hG0⟩:∃ y,y=xl.getD 0 zeroV:=⟨_,rfl⟩
         obtain⟨G1,hG1⟩:∃ y,y=xl.getD 1 zeroV:=⟨_,rfl⟩
         obtain⟨G2,hG2⟩:∃ y,y=xl.getD 2 zeroV:=⟨_,rfl⟩
         rw [← hG0] at m0 m1 m2 m3
         rw [← hG1] at m4 m5 m6 m7
         rw [← hG2] at m8 m9 m10 m11
         have HRC:Hid (recCut (.mk 3 xn xs xl)=⟨cl G0.n,cl G1.n,G2.s⟩):=zB (by rw [hG0,hG1,hG2]; rfl)
         have HRT:Hid (recTwo (.mk 3 xn xs xl)=(decide (G0.k=1)&&decide (G1.k=1))):=zB (by rw [hG0,hG1]; rfl)
         clear hG0 hG1 hG2 hl3
         refine wp_region_lastE (regOf Tryz.f14 29) [some 145,some 146,some 147,some 148,some 149,some 150,some 151,some 152,some 153,some 154,some 155,some 156,some 157,some 158,some 159,some 160,some 161,some 162,some 163,some 164,some 165,some 166,some 167] 23 (ngrT w2.heap.size wr.heap.size w7.heap.size b8 o8 3 xn xs xc G0.k G0.n G0.s z0 G0.l.length zc0 G1.k G1.n G1.s z1 G1.l.length zc1 G2.s gq va3 vc3 [.int .i64 (cl E0.n),.int .i64 (cl E1.n),.int .i64 (cl E2.n),.int .i64 (cl E3.n),.bool okb,.int .i64 (cl E5.n),.int .i64 (cl E6.n),.slice va3 l3.length vc3,.int .i64 (cl E7.n),.string E8.s,.slice va2 l2.length vc2] l3 w2 wq) (fun e w'=>(Below w2.heap.size w2 w'∧wq.heap.size≤w'.heap.size∧Blk w' w2.heap.size 25 [.int .i64 (cl E0.n),.int .i64 (cl E1.n),.int .i64 (cl E2.n),.int .i64 (cl E3.n),.bool okb,.int .i64 (cl E5.n),.int .i64 (cl E6.n),.slice va3 l3.length vc3,.int .i64 (cl E7.n),.string E8.s,.slice va2 l2.length vc2]∧Blk w' wr.heap.size 70 [.int .i64 3,.int .i64 xn,.string xs,.slice (some ⟨b8,o8,none⟩) 3 xc]∧(∃ gb,FlagAt w' (w2.heap.size+1) gb∧(gb=true→gq=true)∧((gq&&(decide (G0.k=1)&&decide (G1.k=1)))=true→gb=true))∧(∀ q,q<w7.heap.size→q≠w2.heap.size→q≠w2.heap.size+1→w'.heap[q]? = wq.heap[q]?))∧(e 21=none→w'.ownsRow w7.heap.size 67 3 (.slice va3 l3.length vc3) l3.length (rcE.cells l3))) ngrD (by kernel_rfl) (by kernel_rfl) (by kernel_rfl) (by kernel_rfl) (by kernel_rfl) (by kernel_rfl) (by kernel_rfl) ⟨⟨HBq.out.drew,Nat.le_refl _,HMq.out,HXq.out,⟨gq,HFq.out,fun h=>h,fun h=>by revert h; cases gq <;> simp⟩,fun _ _ _ _=>rfl⟩,fun _=>own_under HOq.out ((Below.refl _ _).drew)⟩
          (ngr_steps w2.heap.size wr.heap.size w7.heap.size b8 o8 3 xn xs xc G0.k G0.n G0.s z0 G0.l.length zc0 G1.k G1.n G1.s z1 G1.l.length zc1 G2.s gq va3 vc3 [.int .i64 (cl E0.n),.int .i64 (cl E1.n),.int .i64 (cl E2.n),.int .i64 (cl E3.n),.bool okb,.int .i64 (cl E5.n),.int .i64 (cl E6.n),.slice va3 l3.length vc3,.int .i64 (cl E7.n),.string E8.s,.slice va2 l2.length vc2] l3 w2 wq (Nat.le_refl _) (by omega) (by have:=HSq.out; omega) (by omega) (by have:=HSq.out; omega) (fun e=>by have:=(HOL.out _ e.symm).2; omega) rfl HN3.out hb8 m0 m1 m2 m3 m4 m5 m6 m7 m10 (by kernel_rfl) (by kernel_rfl) (by kernel_rfl) (by kernel_rfl) (by kernel_rfl)) ?_
         intro oL hoL eL vs w9 hn hallL hCw9 hT KL hKL
         replace hn:vs.length=23:=hn
         obtain⟨v0,vs1,rfl,hn1⟩:=len_cons hn
         obtain⟨v1,vs2,rfl,hn2⟩:=len_cons hn1
         obtain⟨v2,vs3,rfl,hn3⟩:=len_cons hn2
         obtain⟨v3,vs4,rfl,hn4⟩:=len_cons hn3
         obtain⟨v4,vs5,rfl,hn5⟩:=len_cons hn4
         obtain⟨v5,vs6,rfl,hn6⟩:=len_cons hn5
         obtain⟨v6,vs7,rfl,hn7⟩:=len_cons hn6
         obtain⟨v7,vs8,rfl,hn8⟩:=len_cons hn7
         obtain⟨v8,vs9,rfl,hn9⟩:=len_cons hn8
         obtain⟨v9,vs10,rfl,hn10⟩:=len_cons hn9
         obtain⟨v10,vs11,rfl,hn11⟩:=len_cons hn10
         obtain⟨v11,vs12,rfl,hn12⟩:=len_cons hn11
         obtain⟨v12,vs13,rfl,hn13⟩:=len_cons hn12
         obtain⟨v13,vs14,rfl,hn14⟩:=len_cons hn13
         obtain⟨v14,vs15,rfl,hn15⟩:=len_cons hn14
         obtain⟨v15,vs16,rfl,hn16⟩:=len_cons hn15
         obtain⟨v16,vs17,rfl,hn17⟩:=len_cons hn16
         obtain⟨v17,vs18,rfl,hn18⟩:=len_cons hn17
         obtain⟨v18,vs19,rfl,hn19⟩:=len_cons hn18
         obtain⟨v19,vs20,rfl,hn20⟩:=len_cons hn19
         obtain⟨v20,vs21,rfl,hn21⟩:=len_cons hn20
         obtain⟨v21,vs22,rfl,hn22⟩:=len_cons hn21
         obtain⟨v22,vs23,rfl,hn23⟩:=len_cons hn22
         obtain rfl:=List.eq_nil_of_length_eq_zero hn23
         clear hn hn1 hn2 hn3 hn4 hn5 hn6 hn7 hn8 hn9 hn10 hn11 hn12 hn13 hn14 hn15 hn16 hn17 hn18 hn19 hn20 hn21 hn22 hn23
         obtain rfl:v0 = .pointer (some ⟨w2.heap.size,7,none⟩):=hT 0 v0 rfl (by kernel_rfl)
         obtain rfl:v1 = .slice va3 l3.length vc3:=hT 1 v1 rfl (by kernel_rfl)
         obtain rfl:v2 = .func (.func 43) #[] #[.pointer (some ⟨w2.heap.size+1,0,none⟩)]:=hT 2 v2 rfl (by kernel_rfl)
         obtain rfl:v3 = .pointer (some ⟨wr.heap.size,3,none⟩):=hT 3 v3 rfl (by kernel_rfl)
         obtain rfl:v4 = .slice (some ⟨b8,o8,none⟩) 3 xc:=hT 4 v4 rfl (by kernel_rfl)
         obtain rfl:v5 = .pointer (some ⟨b8,o8,none⟩):=hT 5 v5 rfl (by kernel_rfl)
         obtain rfl:v6 = .agg #[.int .i64 G0.k,.int .i64 G0.n,.string G0.s,.slice z0 G0.l.length zc0]:=hT 6 v6 rfl (by kernel_rfl)
         have t7:=zB (hT 7 v7 rfl (by kernel_rfl))
         obtain rfl:v8 = .func (.func 43) #[] #[.pointer (some ⟨w2.heap.size+1,0,none⟩)]:=hT 8 v8 rfl (by kernel_rfl)
         obtain rfl:v9 = .pointer (some ⟨wr.heap.size,3,none⟩):=hT 9 v9 rfl (by kernel_rfl)
         obtain rfl:v10 = .slice (some ⟨b8,o8,none⟩) 3 xc:=hT 10 v10 rfl (by kernel_rfl)
         obtain rfl:v11 = .pointer (some ⟨b8,o8+4,none⟩):=hT 11 v11 rfl (by kernel_rfl)
         obtain rfl:v12 = .agg #[.int .i64 G1.k,.int .i64 G1.n,.string G1.s,.slice z1 G1.l.length zc1]:=hT 12 v12 rfl (by kernel_rfl)
         have t13:=zB (hT 13 v13 rfl (by kernel_rfl))
         obtain rfl:v14 = .pointer (some ⟨wr.heap.size,3,none⟩):=hT 14 v14 rfl (by kernel_rfl)
         obtain rfl:v15 = .slice (some ⟨b8,o8,none⟩) 3 xc:=hT 15 v15 rfl (by kernel_rfl)
         obtain rfl:v16 = .pointer (some ⟨b8,o8+8,none⟩):=hT 16 v16 rfl (by kernel_rfl)
         obtain rfl:v17 = .pointer (some ⟨b8,o8+10,none⟩):=hT 17 v17 rfl (by kernel_rfl)
         obtain rfl:v18 = .string G2.s:=hT 18 v18 rfl (by kernel_rfl)
         obtain rfl:v19 = .agg #[.int .i64 (cl G0.n),.int .i64 (cl G1.n),.string G2.s]:=hT 19 v19 rfl (by kernel_rfl)
         have t21:=zB (hT 21 v21 rfl (by kernel_rfl))
         obtain rfl:v22 = .pointer (some ⟨w2.heap.size,7,none⟩):=hT 22 v22 rfl (by kernel_rfl)
         clear hT
         have hoL1:=opIs hoL (p:=.store 22 (.tmp 167) (.tmp 166)) (by kernel_rfl)
         have hgL:=guardIs hoL (p:=none) (by kernel_rfl)
         have hdL:oL.dst=none:=by have:=(show ((regOf Tryz.f14 29)[23]?).map (·.dst)=some (none) by kernel_rfl); rw [hoL] at this; simpa using this
         rw [if_pos (wanted_free hgL)]
         rw [hdL] at hKL
         simp only [puts,Act.put,List.setIfInBounds_toArray,List.set_cons_succ,List.set_cons_zero] at hKL ⊢
         obtain⟨hC9,-⟩:=hCw9
         obtain⟨a3,c3,e11,hown⟩:=t21.out
         subst e11
         obtain⟨hB9,hS9,hM9,-,⟨gz,hfz,hz1,hz2⟩,hQ9⟩:=hC9
         obtain⟨-,g7,hf7,hi7⟩:=t7.out
         obtain⟨-,g13,hf13,hi13⟩:=t13.out
         obtain rfl:=flag_inj hfz hf7
         obtain rfl:=flag_inj hfz hf13
         have hgz:gz=(gq&&(decide (G0.k=1)&&decide (G1.k=1))):=by
          cases hgz:gz with
          | true=>rw [hz1 hgz,hi7 hgz,hi13 hgz]; rfl
          | false =>
            cases hq:(gq&&(decide (G0.k=1)&&decide (G1.k=1))) with
            | false=>rfl
            | true=>rw [hz2 hq] at hgz; cases hgz
         have e3:=hM9.cell (j:=7) rfl
         have k3:=hM9.free 7
         unfold Oper.wp
         rw [show (execOp _ oL).run Tryz.prog w9 = .ok .skip (w9.setCell ⟨w2.heap.size,7,none⟩ (.slice a3 (l3.length+1) c3)) by unfold execOp; simp only [hoL1]; simp [go_sem,e3,k3]]
         show KL (Act.put _ oL.dst undef) _
         rw [hdL]
         refine hKL undef _ ?_
         have hg:=grown_setCell w9 w2.heap.size 7 (.slice a3 (l3.length+1) c3)
         obtain⟨l4,hl4⟩:∃ l4,l4=l3++[⟨cl G0.n,cl G1.n,G2.s⟩]:=⟨_,rfl⟩
         have hll:l3.length+1=l4.length:=by rw [hl4]; simp
         have HM10:=zB (show Blk (w9.setCell ⟨w2.heap.size,7,none⟩ (.slice a3 (l3.length+1) c3)) w2.heap.size 25 [.int .i64 (cl E0.n),.int .i64 (cl E1.n),.int .i64 (cl E2.n),.int .i64 (cl E3.n),.bool okb,.int .i64 (cl E5.n),.int .i64 (cl E6.n),.slice a3 (l3.length+1) c3,.int .i64 (cl E7.n),.string E8.s,.slice va2 l2.length vc2] from hM9.set 7 _)
         have HO10:=zB (own_kept hown hg (show w2.heap.size<w7.heap.size by have:=HS6.out; omega))
         have HF10:=zB (show FlagAt (w9.setCell ⟨w2.heap.size,7,none⟩ (.slice a3 (l3.length+1) c3)) _ _ from (hg.block _ (lt_of_block hfz) (fun e=>by have:=Option.some.inj e; omega)).trans hfz)
         have HB10:=zB (hB9.grown hg hB9.size (fun q e=>by have:=Option.some.inj e; omega))
         have HS10:=zB (show w7.heap.size≤(w9.setCell ⟨w2.heap.size,7,none⟩ (.slice a3 (l3.length+1) c3)).heap.size from Nat.le_trans (show w7.heap.size≤wq.heap.size by have:=HSq.out; omega) (Nat.le_trans hS9 hg.size))
         have HQ10:=zB (fun q (h1:q<w7.heap.size) (h2:q≠w2.heap.size) (h3:q≠w2.heap.size+1)=>(hg.block q (by have:=HSq.out; omega) (fun e=>h2 (Option.some.inj e))).trans ((hQ9 q h1 h2 h3).trans (HQq.out q h1 h2 h3)))
         rw [← hl4] at HO10
         rw [hll] at HM10 HO10 HF10 HB10 HS10 HQ10 ⊢
         rw [hgz] at HF10
         have HL4:=zB hl4
         clear e3 k3 hown t7 t13 t21 hKL hoL hoL1 hgL hdL hallL hg hfz hB9 hS9 hM9 hQ9 hll hl4 HMq HOq HFq HBq HXq HSq HQq HOL hsr hgz hz1 hz2 hf7 hi7 hf13 hi13
         generalize w9.setCell ⟨w2.heap.size,7,none⟩ (.slice a3 l4.length c3)=w10 at *
         go_wp2_with fail
         have hkn9:=HKN.out
         go_roundg (E10.l.length - (k+1))
         case rel=>exact⟨k+1,a3,c3,l4,by have:=HKN.out; omega,rfl,by go_num,zB (by rw [HL4.out,← HRC.out]; exact HLT.out),HM10,HO10,zB (by rw [HFT.out,HRT.out,← Bool.and_assoc g9,← HGQ.out]; exact HF10.out),HB10,HS10,HQ10,HAT2⟩
         case measure=>omega
        ·have hno:¬ recNum (.mk xk xn xs xl):=fun h=>hk (HFLD.out.1 h)
         have HZ9:Hid (x=(Ms.zero,1)):=zB (by rw [HX.out]; unfold readN; rw [if_neg (fun h=>hno (h.2.1 _ (by show _∈(vl.getD 10 zeroV).l; rw [← hE10.out]; exact HMEM.out)))])
         have HNK:=zB hk
         have q0:=HRq.out.cell (j:=0) rfl
         have f0:=HRq.out.free 0
         have q1:=HRq.out.cell (j:=1) rfl
         have f1:=HRq.out.free 1
         have q2:=HRq.out.cell (j:=2) rfl
         have f2:=HRq.out.free 2
         have q3:=HRq.out.cell (j:=3) rfl
         have f3:=HRq.out.free 3
         have q4:=HRq.out.cell (j:=4) rfl
         have f4:=HRq.out.free 4
         have q5:=HRq.out.cell (j:=5) rfl
         have f5:=HRq.out.free 5
         have q6:=HRq.out.cell (j:=6) rfl
         have f6:=HRq.out.free 6
         have q7:=HRq.out.cell (j:=7) rfl
         have f7:=HRq.out.free 7
         have q8:=HRq.out.cell (j:=8) rfl
         have f8:=HRq.out.free 8
         have q9:=HRq.out.cell (j:=9) rfl
         have f9:=HRq.out.free 9
         have q10:=HRq.out.cell (j:=10) rfl
         have f10:=HRq.out.free 10
         clear HX hx hno HMEM HLT HFT HAT hel hk HFLD
         generalize (xl.getD 2 zeroV).k=k2 at *
         rw [hl3]
         clear hl3
         go_wp2_with fail
         all_goals first
          | (exfalso; have hk:=HNK.out; (try simp only [bne_eq_false_iff_eq] at *); omega)
          | (
            (try simp only [Exit.inBlock,Exit.then])
            have hz9:=blk_eleven HRq.out (.int .i64 0) (.int .i64 0) (.int .i64 0) (.int .i64 0) (.bool false) (.int .i64 0) (.int .i64 0) (.slice none 0 0) (.int .i64 0) (.string ⟨#[]⟩) (.slice none 0 0)
            have hg9:=grown_eleven (wq) w.heap.size (.int .i64 0) (.int .i64 0) (.int .i64 0) (.int .i64 0) (.bool false) (.int .i64 0) (.int .i64 0) (.slice none 0 0) (.int .i64 0) (.string ⟨#[]⟩) (.slice none 0 0)
            have HB9:=zB (HBW.out.grown hg9 HBW.out.size (fun q e=>by have:=Option.some.inj e; omega))
            refine bodyPost_ret (v:=.tuple #[.agg #[.int .i64 0,.int .i64 0,.int .i64 0,.int .i64 0,.bool false,.int .i64 0,.int .i64 0,.slice none 0 0,.int .i64 0,.string ⟨#[]⟩,.slice none 0 0],.int .i64 1]) ?_ rfl ?_
            ·exact results_row_tmp (p:=2) (u:=3) rfl _ _ w.heap.size 25 _ (0,0) _ rfl hz9 Tryz.underlying25 rfl (by kernel_rfl)
            ·rw [HZ9.out]; exact retM_zero _ HB9.out
            )
       ·have b3:((xl.length:Int) != 3)=true:=by simp; omega
        have hno:¬ recNum (.mk xk xn xs xl):=fun h=>hl3 h.2.1
        have HZ9:Hid (x=(Ms.zero,1)):=zB (by rw [HX.out]; unfold readN; rw [if_neg (fun h=>hno (h.2.1 _ (by show _∈(vl.getD 10 zeroV).l; rw [← hE10.out]; exact HMEM.out)))])
        have q0:=HRq.out.cell (j:=0) rfl
        have f0:=HRq.out.free 0
        have q1:=HRq.out.cell (j:=1) rfl
        have f1:=HRq.out.free 1
        have q2:=HRq.out.cell (j:=2) rfl
        have f2:=HRq.out.free 2
        have q3:=HRq.out.cell (j:=3) rfl
        have f3:=HRq.out.free 3
        have q4:=HRq.out.cell (j:=4) rfl
        have f4:=HRq.out.free 4
        have q5:=HRq.out.cell (j:=5) rfl
        have f5:=HRq.out.free 5
        have q6:=HRq.out.cell (j:=6) rfl
        have f6:=HRq.out.free 6
        have q7:=HRq.out.cell (j:=7) rfl
        have f7:=HRq.out.free 7
        have q8:=HRq.out.cell (j:=8) rfl
        have f8:=HRq.out.free 8
        have q9:=HRq.out.cell (j:=9) rfl
        have f9:=HRq.out.free 9
        have q10:=HRq.out.cell (j:=10) rfl
        have f10:=HRq.out.free 10
        clear HX hx hno hl3 HMEM HLT HFT HAT
        go_wp2_with fail
        all_goals (
         (try simp only [Exit.inBlock,Exit.then])
         have hz9:=blk_eleven HRq.out (.int .i64 0) (.int .i64 0) (.int .i64 0) (.int .i64 0) (.bool false) (.int .i64 0) (.int .i64 0) (.slice none 0 0) (.int .i64 0) (.string ⟨#[]⟩) (.slice none 0 0)
         have hg9:=grown_eleven (wq) w.heap.size (.int .i64 0) (.int .i64 0) (.int .i64 0) (.int .i64 0) (.bool false) (.int .i64 0) (.int .i64 0) (.slice none 0 0) (.int .i64 0) (.string ⟨#[]⟩) (.slice none 0 0)
         have HB9:=zB (HBW.out.grown hg9 HBW.out.size (fun q e=>by have:=Option.some.inj e; omega))
         refine bodyPost_ret (v:=.tuple #[.agg #[.int .i64 0,.int .i64 0,.int .i64 0,.int .i64 0,.bool false,.int .i64 0,.int .i64 0,.slice none 0 0,.int .i64 0,.string ⟨#[]⟩,.slice none 0 0],.int .i64 1]) ?_ rfl ?_
         ·exact results_row_tmp (p:=2) (u:=3) rfl _ _ w.heap.size 25 _ (0,0) _ rfl hz9 Tryz.underlying25 rfl (by kernel_rfl)
         ·rw [HZ9.out]; exact retM_zero _ HB9.out
         )
      ·obtain rfl:k=E10.l.length:=by omega
       have HL:=zB (show l3=E10.l.map recCut from by rw [HL3.out,List.take_length])
       have hf:=hF.out
       rw [List.take_length] at hf
       have hall:=hA.out
       rw [List.take_length] at hall
       obtain⟨ga,hga⟩:∃ q,q=(g9&&E10.l.all recTwo):=⟨_,rfl⟩
       rw [← hga] at hf
       have HF:=zB hf
       have HMC:Hid (msCut (V.mk 3 vn vt vl)=(⟨cl E0.n,cl E1.n,cl E2.n,cl E3.n,okb,cl E5.n,cl E6.n,l3,cl E7.n,E8.s,l2⟩:Ms)):=zB (by
        have e4:okb=decide (cl E4.n=1):=by rw [HOK.out]; by_cases h:cl E4.n=1 <;> simp [h]
        rw [HL.out,HVO.out,e4,hE0.out,hE1.out,hE2.out,hE3.out,hE4.out,hE5.out,hE6.out,hE7.out,hE8.out,hE9.out,hE10.out]; rfl)
       have HNUM:Hid (msNum (V.mk 3 vn vt vl)↔(ga=true∧0≤cl E4.n∧cl E4.n≤1∧mayM (⟨cl E0.n,cl E1.n,cl E2.n,cl E3.n,okb,cl E5.n,cl E6.n,l3,cl E7.n,E8.s,l2⟩:Ms)=true)):=zB (by
        have h1:headV (V.mk 3 vn vt vl):=⟨rfl,HLEN.out,by have:=HK3.out.1; rw [hE8.out] at this; exact this,by have:=HK3.out.2.1; rw [hE9.out] at this; exact this,by have:=HK3.out.2.2; rw [hE10.out] at this; exact this⟩
        have h2:ga=(goodV8 (V.mk 3 vn vt vl)&&(fld (V.mk 3 vn vt vl) 9).l.all isNum&&(fld (V.mk 3 vn vt vl) 10).l.all recTwo):=by rw [hga,HG9.out,HG8.out,hE0.out,hE1.out,hE2.out,hE3.out,hE4.out,hE5.out,hE6.out,hE7.out,hE9.out,hE10.out]; rfl
        have h3:∀ y∈(fld (V.mk 3 vn vt vl) 10).l,recNum y:=by intro y hy; exact hall y (by rw [hE10.out]; exact hy)
        have h4:fld (V.mk 3 vn vt vl) 4=E4:=hE4.out.symm
        unfold msNum
        rw [← h2,h4,HMC.out]
        exact⟨fun h=>⟨h.2.2.1,h.2.2.2.1,h.2.2.2.2.1,h.2.2.2.2.2⟩,fun h=>⟨h1,h3,h.1,h.2.1,h.2.2.1,h.2.2.2⟩⟩)
       have HMS:Hid (MsAt wr (⟨cl E0.n,cl E1.n,cl E2.n,cl E3.n,okb,cl E5.n,cl E6.n,l3,cl E7.n,E8.s,l2⟩:Ms) va3 l3.length vc3 va2 l2.length vc2):=zB (by
        have hp:=getL_ok s HBA.out
        rw [HHV.out] at hp
        have hpl:=hp.2.2.2.2
        have hmem:∀ j,j<11→(putL (vl.getD j zeroV)).length≤131072:=fun j hj=>Nat.le_trans (mem_len (fld_mem (v:=(V.mk 3 vn vt vl)) (i:=j) (by show j<vl.length; rw [HLEN.out]; exact hj))) (Nat.le_trans (all_len (V.mk 3 vn vt vl) rfl) hpl)
        obtain⟨a,c,he,hn,hsl,-,-,-⟩:=Enc.own_sl (E:=rcE) hO.out
        cases he
        refine⟨hsl,?_,?_,?_,?_,?_,?_,?_⟩
        ·exact SlAt.ofOwn (own_move HO2.out (fun g hg=>hQ.out g (HO2.out.lt g hg).2 (by have:=(HO2.out.lt g hg).1; omega) (by have:=(HO2.out.lt g hg).1; omega)))
        ·show l3.length≤_; rw [HL.out,List.length_map]; have:=HLEN10.out; omega
        ·show l2.length≤_; rw [HVO.out,List.length_map]; have:=HLEN9.out; omega
        ·intro r hr
         rw [HL.out] at hr
         obtain⟨y,hy,rfl⟩:=List.mem_map.1 hr
         have hn:=hall y hy
         refine⟨?_,cl_i64 _,cl_i64 _⟩
         have h1:=txt_len (fld y 2) hn.2.2
         have h2:=mem_len (fld_mem (v:=y) (i:=2) (by rw [hn.2.1]; decide))
         have h3:=all_len y hn.1
         have h4:=mem_len hy
         have h5:=all_len E10 HK3.out.2.2
         have h6:=hmem 10 (by decide)
         rw [← hE10.out] at h6
         show (fld y 2).s.size≤maxLen
         unfold maxLen
         omega
        ·have h1:=txt_len E8 HK3.out.1
         have h6:=hmem 8 (by decide)
         rw [← hE8.out] at h6
         show E8.s.size≤maxLen
         unfold maxLen
         omega
        ·exact⟨cl_i64 _,cl_i64 _,cl_i64 _,cl_i64 _,cl_i64 _,cl_i64 _,cl_i64 _⟩
        ·intro y hy
         rw [HVO.out] at hy
         obtain⟨z,-,rfl⟩:=List.mem_map.1 hy
         exact cl_i64 _)
       have HVA3:Hid (∀ y,va3=some y→w7.heap.size≤y.block):=zB (by
        obtain⟨a,c,he,hn,-,hsl,-,-⟩:=Enc.own_sl (E:=rcE) hO.out
        cases he
        exact hsl)
       have HVA2:Hid (∀ y,va2=some y→w6.heap.size≤y.block):=zB (by
        obtain⟨a,n,c,he,-,hsl,-⟩:=own_slice HO2.out
        cases he
        exact hsl)
       have hmay:=zB (show Calls Tryz.prog 32 #[.agg #[.int .i64 (cl E0.n),.int .i64 (cl E1.n),.int .i64 (cl E2.n),.int .i64 (cl E3.n),.bool okb,.int .i64 (cl E5.n),.int .i64 (cl E6.n),.slice va3 l3.length vc3,.int .i64 (cl E7.n),.string E8.s,.slice va2 l2.length vc2]] wr _ from eMay_any (⟨cl E0.n,cl E1.n,cl E2.n,cl E3.n,okb,cl E5.n,cl E6.n,l3,cl E7.n,E8.s,l2⟩:Ms) va3 l3.length vc3 va2 l2.length vc2 wr HMS.out (mayM (⟨cl E0.n,cl E1.n,cl E2.n,cl E3.n,okb,cl E5.n,cl E6.n,l3,cl E7.n,E8.s,l2⟩:Ms)) (zB rfl))
       have HRr:=zB (show Blk wr w.heap.size _ _ from (hB.out.block _ (by have:=HR2.out.lt; have:=HB2.out.size; omega)).trans HR2.out)
       have HBW:=zB (HB2.out.trans (Below.lower hB.out HB2.out.size))
       have gx:=(Lib.cell_of_heap HF.out 0).trans (show _=some (Value.bool ga) from rfl)
       have hltw:w.heap.size<w2.heap.size:=by have:=HR2.out.lt; exact this
       by_cases hc:ga=true∧0≤cl E4.n∧cl E4.n≤1
       ·obtain⟨rfl,hc1,hc2⟩:=hc
        have HC:=zB (And.intro hc1 hc2)
        obtain⟨M,hM4⟩:∃ M,M=cl E4.n:=⟨_,rfl⟩
        rw [← hM4] at hc1 hc2 ⊢
        clear hga hf hall hM4 hF hA
        have x0:=hM.out.cell (j:=0) rfl
        have x1:=hM.out.cell (j:=1) rfl
        have x2:=hM.out.cell (j:=2) rfl
        have x3:=hM.out.cell (j:=3) rfl
        have x4:=hM.out.cell (j:=4) rfl
        have x5:=hM.out.cell (j:=5) rfl
        have x6:=hM.out.cell (j:=6) rfl
        have x7:=hM.out.cell (j:=7) rfl
        have x8:=hM.out.cell (j:=8) rfl
        have x9:=hM.out.cell (j:=9) rfl
        have x10:=hM.out.cell (j:=10) rfl
        go_wp2_with fail
        refine hmay.out.mono ?_
        rintro e wz ⟨rfl,hbz⟩
        dsimp only
        have HBz:=zB (HBW.out.trans (Below.lower hbz HBW.out.size))
        have HRz:=zB (HRr.out.keep hbz)
        have HMz:=zB (hM.out.keep hbz)
        have HSz:=zB (HMS.out.keep hbz)
        clear x0 x1 x2 x3 x4 x5 x6 x7 x8 x9 x10 gx hbz hmay
        have HNUM2:=HNUM
        cases hmm:mayM (⟨cl E0.n,cl E1.n,cl E2.n,cl E3.n,okb,cl E5.n,cl E6.n,l3,cl E7.n,E8.s,l2⟩:Ms) with
        | false =>
          have HZ9:Hid (x=(Ms.zero,1)):=zB (by rw [HX.out]; unfold readN; rw [if_neg (fun h=>by have:=(HNUM.out.1 h).2.2.2; rw [hmm] at this; cases this)])
          clear HX hx HNUM HNUM2 hmm HMC
          have q0:=HRz.out.cell (j:=0) rfl
          have f0:=HRz.out.free 0
          have q1:=HRz.out.cell (j:=1) rfl
          have f1:=HRz.out.free 1
          have q2:=HRz.out.cell (j:=2) rfl
          have f2:=HRz.out.free 2
          have q3:=HRz.out.cell (j:=3) rfl
          have f3:=HRz.out.free 3
          have q4:=HRz.out.cell (j:=4) rfl
          have f4:=HRz.out.free 4
          have q5:=HRz.out.cell (j:=5) rfl
          have f5:=HRz.out.free 5
          have q6:=HRz.out.cell (j:=6) rfl
          have f6:=HRz.out.free 6
          have q7:=HRz.out.cell (j:=7) rfl
          have f7:=HRz.out.free 7
          have q8:=HRz.out.cell (j:=8) rfl
          have f8:=HRz.out.free 8
          have q9:=HRz.out.cell (j:=9) rfl
          have f9:=HRz.out.free 9
          have q10:=HRz.out.cell (j:=10) rfl
          have f10:=HRz.out.free 10
          go_wp2_with fail
          (try simp only [Exit.inBlock,Exit.then])
          have hz9:=blk_eleven HRz.out (.int .i64 0) (.int .i64 0) (.int .i64 0) (.int .i64 0) (.bool false) (.int .i64 0) (.int .i64 0) (.slice none 0 0) (.int .i64 0) (.string ⟨#[]⟩) (.slice none 0 0)
          have hg9:=grown_eleven (wz) w.heap.size (.int .i64 0) (.int .i64 0) (.int .i64 0) (.int .i64 0) (.bool false) (.int .i64 0) (.int .i64 0) (.slice none 0 0) (.int .i64 0) (.string ⟨#[]⟩) (.slice none 0 0)
          have HB9:=zB (HBz.out.grown hg9 HBz.out.size (fun q e=>by have:=Option.some.inj e; omega))
          refine bodyPost_ret (v:=.tuple #[.agg #[.int .i64 0,.int .i64 0,.int .i64 0,.int .i64 0,.bool false,.int .i64 0,.int .i64 0,.slice none 0 0,.int .i64 0,.string ⟨#[]⟩,.slice none 0 0],.int .i64 1]) ?_ rfl ?_
          ·exact results_row_tmp (p:=2) (u:=3) rfl _ _ w.heap.size 25 _ (0,0) _ rfl hz9 Tryz.underlying25 rfl (by kernel_rfl)
          ·rw [HZ9.out]; exact retM_zero _ HB9.out
        | true =>
          have HZ9:Hid (x=((⟨cl E0.n,cl E1.n,cl E2.n,cl E3.n,okb,cl E5.n,cl E6.n,l3,cl E7.n,E8.s,l2⟩:Ms),0)):=zB (by rw [HX.out]; unfold readN; rw [if_pos (HNUM.out.2 ⟨by first | rfl | trivial,HC.out.1,HC.out.2,hmm⟩),HMC.out])
          clear HX hx HNUM HNUM2 hmm HMC
          have q0:=HRz.out.cell (j:=0) rfl
          have f0:=HRz.out.free 0
          have x0:=HMz.out.cell (j:=0) rfl
          have q1:=HRz.out.cell (j:=1) rfl
          have f1:=HRz.out.free 1
          have x1:=HMz.out.cell (j:=1) rfl
          have q2:=HRz.out.cell (j:=2) rfl
          have f2:=HRz.out.free 2
          have x2:=HMz.out.cell (j:=2) rfl
          have q3:=HRz.out.cell (j:=3) rfl
          have f3:=HRz.out.free 3
          have x3:=HMz.out.cell (j:=3) rfl
          have q4:=HRz.out.cell (j:=4) rfl
          have f4:=HRz.out.free 4
          have x4:=HMz.out.cell (j:=4) rfl
          have q5:=HRz.out.cell (j:=5) rfl
          have f5:=HRz.out.free 5
          have x5:=HMz.out.cell (j:=5) rfl
          have q6:=HRz.out.cell (j:=6) rfl
          have f6:=HRz.out.free 6
          have x6:=HMz.out.cell (j:=6) rfl
          have q7:=HRz.out.cell (j:=7) rfl
          have f7:=HRz.out.free 7
          have x7:=HMz.out.cell (j:=7) rfl
          have q8:=HRz.out.cell (j:=8) rfl
          have f8:=HRz.out.free 8
          have x8:=HMz.out.cell (j:=8) rfl
          have q9:=HRz.out.cell (j:=9) rfl
          have f9:=HRz.out.free 9
          have x9:=HMz.out.cell (j:=9) rfl
          have q10:=HRz.out.cell (j:=10) rfl
          have f10:=HRz.out.free 10
          have x10:=HMz.out.cell (j:=10) rfl
          go_wp2_with fail
          clear x0 x1 x2 x3 x4 x5 x6 x7 x8 x9 x10
          (try simp only [Exit.inBlock,Exit.then])
          have hz9:=blk_eleven HRz.out (.int .i64 (cl E0.n)) (.int .i64 (cl E1.n)) (.int .i64 (cl E2.n)) (.int .i64 (cl E3.n)) (.bool okb) (.int .i64 (cl E5.n)) (.int .i64 (cl E6.n)) (.slice va3 l3.length vc3) (.int .i64 (cl E7.n)) (.string E8.s) (.slice va2 l2.length vc2)
          have hg9:=grown_eleven (wz) w.heap.size (.int .i64 (cl E0.n)) (.int .i64 (cl E1.n)) (.int .i64 (cl E2.n)) (.int .i64 (cl E3.n)) (.bool okb) (.int .i64 (cl E5.n)) (.int .i64 (cl E6.n)) (.slice va3 l3.length vc3) (.int .i64 (cl E7.n)) (.string E8.s) (.slice va2 l2.length vc2)
          have HB9:=zB (HBz.out.grown hg9 HBz.out.size (fun q e=>by have:=Option.some.inj e; omega))
          refine bodyPost_ret (v:=.tuple #[.agg #[.int .i64 (cl E0.n),.int .i64 (cl E1.n),.int .i64 (cl E2.n),.int .i64 (cl E3.n),.bool okb,.int .i64 (cl E5.n),.int .i64 (cl E6.n),.slice va3 l3.length vc3,.int .i64 (cl E7.n),.string E8.s,.slice va2 l2.length vc2],.int .i64 0]) ?_ rfl ?_
          ·exact results_row_tmp (p:=2) (u:=3) rfl _ _ w.heap.size 25 _ (0,0) _ rfl hz9 Tryz.underlying25 rfl (by kernel_rfl)
          ·rw [HZ9.out]; exact⟨va3,l3.length,vc3,va2,l2.length,vc2,rfl,msAt_kept HSz.out hg9 (fun y e he=>by have:=HVA3.out y e; have:=Option.some.inj he; have:=HS6.out; omega) (fun y e he=>by have:=HVA2.out y e; have:=Option.some.inj he; have:=HS6.out; omega),HB9.out,fun y e=>(by have:=HVA3.out y e; have:=HS6.out; omega),fun y e=>(by have:=HVA2.out y e; have:=HS6.out; omega)⟩
       ·have HZ9:Hid (x=(Ms.zero,1)):=zB (by rw [HX.out]; unfold readN; rw [if_neg (fun h=>hc ⟨(HNUM.out.1 h).1,(HNUM.out.1 h).2.1,(HNUM.out.1 h).2.2.1⟩)])
        have HC:=zB hc
        obtain⟨M,hM4⟩:∃ M,M=cl E4.n:=⟨_,rfl⟩
        rw [← hM4] at HC ⊢
        have q0:=HRr.out.cell (j:=0) rfl
        have f0:=HRr.out.free 0
        have q1:=HRr.out.cell (j:=1) rfl
        have f1:=HRr.out.free 1
        have q2:=HRr.out.cell (j:=2) rfl
        have f2:=HRr.out.free 2
        have q3:=HRr.out.cell (j:=3) rfl
        have f3:=HRr.out.free 3
        have q4:=HRr.out.cell (j:=4) rfl
        have f4:=HRr.out.free 4
        have q5:=HRr.out.cell (j:=5) rfl
        have f5:=HRr.out.free 5
        have q6:=HRr.out.cell (j:=6) rfl
        have f6:=HRr.out.free 6
        have q7:=HRr.out.cell (j:=7) rfl
        have f7:=HRr.out.free 7
        have q8:=HRr.out.cell (j:=8) rfl
        have f8:=HRr.out.free 8
        have q9:=HRr.out.cell (j:=9) rfl
        have f9:=HRr.out.free 9
        have q10:=HRr.out.cell (j:=10) rfl
        have f10:=HRr.out.free 10
        clear HX hx HNUM HMC hga hf hall hM4 hF hA hc hmay HMS
        cases ga
        ·go_wp2_with fail
         all_goals (
          (try simp only [Exit.inBlock,Exit.then])
          have hz9:=blk_eleven HRr.out (.int .i64 0) (.int .i64 0) (.int .i64 0) (.int .i64 0) (.bool false) (.int .i64 0) (.int .i64 0) (.slice none 0 0) (.int .i64 0) (.string ⟨#[]⟩) (.slice none 0 0)
          have hg9:=grown_eleven (wr) w.heap.size (.int .i64 0) (.int .i64 0) (.int .i64 0) (.int .i64 0) (.bool false) (.int .i64 0) (.int .i64 0) (.slice none 0 0) (.int .i64 0) (.string ⟨#[]⟩) (.slice none 0 0)
          have HB9:=zB (HBW.out.grown hg9 HBW.out.size (fun q e=>by have:=Option.some.inj e; omega))
          refine bodyPost_ret (v:=.tuple #[.agg #[.int .i64 0,.int .i64 0,.int .i64 0,.int .i64 0,.bool false,.int .i64 0,.int .i64 0,.slice none 0 0,.int .i64 0,.string ⟨#[]⟩,.slice none 0 0],.int .i64 1]) ?_ rfl ?_
          ·exact results_row_tmp (p:=2) (u:=3) rfl _ _ w.heap.size 25 _ (0,0) _ rfl hz9 Tryz.underlying25 rfl (by kernel_rfl)
          ·rw [HZ9.out]; exact retM_zero _ HB9.out
          )
        ·by_cases hM0:M<0
         ·clear HC
          go_wp2_with fail
          all_goals (
           (try simp only [Exit.inBlock,Exit.then])
           have hz9:=blk_eleven HRr.out (.int .i64 0) (.int .i64 0) (.int .i64 0) (.int .i64 0) (.bool false) (.int .i64 0) (.int .i64 0) (.slice none 0 0) (.int .i64 0) (.string ⟨#[]⟩) (.slice none 0 0)
           have hg9:=grown_eleven (wr) w.heap.size (.int .i64 0) (.int .i64 0) (.int .i64 0) (.int .i64 0) (.bool false) (.int .i64 0) (.int .i64 0) (.slice none 0 0) (.int .i64 0) (.string ⟨#[]⟩) (.slice none 0 0)
           have HB9:=zB (HBW.out.grown hg9 HBW.out.size (fun q e=>by have:=Option.some.inj e; omega))
           refine bodyPost_ret (v:=.tuple #[.agg #[.int .i64 0,.int .i64 0,.int .i64 0,.int .i64 0,.bool false,.int .i64 0,.int .i64 0,.slice none 0 0,.int .i64 0,.string ⟨#[]⟩,.slice none 0 0],.int .i64 1]) ?_ rfl ?_
           ·exact results_row_tmp (p:=2) (u:=3) rfl _ _ w.heap.size 25 _ (0,0) _ rfl hz9 Tryz.underlying25 rfl (by kernel_rfl)
           ·rw [HZ9.out]; exact retM_zero _ HB9.out
           )
         ·have hM1:1<M:=by have:=HC.out; simp at this; omega
          have hM2:0≤M:=by omega
          clear HC hM0
          go_wp2_with fail
          all_goals (
           (try simp only [Exit.inBlock,Exit.then])
           have hz9:=blk_eleven HRr.out (.int .i64 0) (.int .i64 0) (.int .i64 0) (.int .i64 0) (.bool false) (.int .i64 0) (.int .i64 0) (.slice none 0 0) (.int .i64 0) (.string ⟨#[]⟩) (.slice none 0 0)
           have hg9:=grown_eleven (wr) w.heap.size (.int .i64 0) (.int .i64 0) (.int .i64 0) (.int .i64 0) (.bool false) (.int .i64 0) (.int .i64 0) (.slice none 0 0) (.int .i64 0) (.string ⟨#[]⟩) (.slice none 0 0)
           have HB9:=zB (HBW.out.grown hg9 HBW.out.size (fun q e=>by have:=Option.some.inj e; omega))
           refine bodyPost_ret (v:=.tuple #[.agg #[.int .i64 0,.int .i64 0,.int .i64 0,.int .i64 0,.bool false,.int .i64 0,.int .i64 0,.slice none 0 0,.int .i64 0,.string ⟨#[]⟩,.slice none 0 0],.int .i64 1]) ?_ rfl ?_
           ·exact results_row_tmp (p:=2) (u:=3) rfl _ _ w.heap.size 25 _ (0,0) _ rfl hz9 Tryz.underlying25 rfl (by kernel_rfl)
           ·rw [HZ9.out]; exact retM_zero _ HB9.out
           )
