/-
  The walk of wal.anew: a state is written anew.
-/
import Derived.Test.YtlpgbmaoenncjaaGreatDoorWsE
import Derived.Test.YtlpgbmaoenncjaaGreatDoorWsC
import Derived.Test.YtlpgbmaoenncjaaGreatDoorWsA
namespace Go.Proofs.YtlpgbmaoenncjaaGreatDoor
open Go.RowKit
set_option linter.unusedVariables false
set_option maxRecDepth 100000
theorem infoStep:(Tryz.prog.info? 96).map (fun i=>(i.zero,i.size,i.bytes))=some (some (.agg #[.string ⟨#[]⟩,.string ⟨#[]⟩,.string ⟨#[]⟩]),3,48):=by kernel_rfl
theorem hasB_not (d:Dk) (nm:ByteArray):hasB d nm=false↔atL d.files nm<0:=by
 unfold hasB
 rw [decide_eq_false_iff_not]
 omega
set_option maxHeartbeats 3000000 in
theorem wanew_any (a:Option Addr) (n c:Nat) (d:Dk) (h:Hd) (ar:Option Addr) (nr cr:Nat) (av:Option Addr) (nv cv:Nat) (w:World) (hd:DkAt w a n c d) (H:HdAt w h ar nr cr av nv cv) (htab:Lib.TabIs Tryz.prog w "internal/strconv.uint64pow10" .u64 Lib.pow10Tab) (hr:rightH h=true)
 (HSTEPS:Hid (∀ (a:Option Addr) (n c:Nat) (d:Dk) (sa:Option Addr) (ns cs:Nat) (L:List Stp) (W:World),DkAt W a n c d→stE.Sl W sa ns L→(∀ s∈L,StOk s)→ns≤1000000→Calls Tryz.prog 56 #[d.val a n c,.slice sa ns cs] W (RetDk W (stepsS d L)))) :
 Calls Tryz.prog 53 #[d.val a n c,h.val ar nr cr av nv cv] w (RetDk w (anewS d h)):=by
 have HT:=Lib.hid (Lib.tabBelow_of_tabIs htab)
 obtain⟨i0,hi,hz0,hz1,hz2⟩:=info_parts infoStep
 have HHS:Hid (∀ W,Below w.heap.size w W→Calls Tryz.prog 51 #[d.val a n c,.string newN] W fun e w'=>e = .returned (.bool (hasB d newN))∧Below W.heap.size W w') :=
  Lib.hid fun W hb=>has_any a n c d newN W (hd.keep hb) _ (Lib.hid rfl)
 have HWH:Hid (∀ W,Below w.heap.size w W→Calls Tryz.prog 100 #[h.val ar nr cr av nv cv] W fun e w'=>e = .returned (.string (wholeB (putH h).1))∧Below W.heap.size W w') :=
  Lib.hid fun W hb=>wall_any h ar nr cr av nv cv W (H.keep hb) (HT.out _ hb) hr
 have hz:(wholeB (putH h).1).size≤2097152:=Nat.le_trans (wholeB_size (putH_size hr)) (by decide)
 obtain⟨r,hr0⟩:∃ r,r=anewS d h:=⟨_,rfl⟩
 rw [← hr0]
 unfold anewS threeS at hr0
 generalize wholeB (putH h).1=WB at *
 have hkb:=hasB_not d newN
 obtain⟨k,hk⟩:∃ k,k=hasB d newN:=⟨_,rfl⟩
 rw [← hk] at HHS hkb
 have HZ:=Lib.hid hz
 have HR:Hid (r=stepsS d (if k=false then [⟨1,⟨#[108,111,103,46,110,101,119]⟩,WB⟩,⟨2,⟨#[108,111,103,46,110,101,119]⟩,⟨#[]⟩⟩,⟨3,⟨#[108,111,103,46,110,101,119]⟩,⟨#[108,111,103]⟩⟩] else ⟨4,⟨#[108,111,103,46,110,101,119]⟩,⟨#[]⟩⟩ :: [⟨1,⟨#[108,111,103,46,110,101,119]⟩,WB⟩,⟨2,⟨#[108,111,103,46,110,101,119]⟩,⟨#[]⟩⟩,⟨3,⟨#[108,111,103,46,110,101,119]⟩,⟨#[108,111,103]⟩⟩])):=Lib.hid (by
  rw [hr0]
  cases k with
  | false=>rw [if_pos (hkb.1 rfl),if_pos rfl]; rfl
  | true=>rw [if_neg (fun e=>by have:=hkb.2 e; cases this),if_neg (by decide)]; rfl)
 have hst:=an_start w [.int .i64 h.term,.int .i64 h.vote,.int .i64 h.base,.int .i64 h.bt,.slice ar nr cr,.string h.snap,.slice av nv cv] hd
 have HS:=Lib.hid hst
 clear hd H htab hr hz hr0 hk hst hkb
 obtain⟨tm,vo,ba,bt,rs,sn,vs⟩:=h
 unfold Hd.val Dk.val newN at *
 dsimp only at *
 obtain⟨rm,fl,lf,dn⟩:=d
 dsimp only at *
 have x0:=HS.out.hd.cell (j:=0) rfl; have x1:=HS.out.hd.cell (j:=1) rfl; have x2:=HS.out.hd.cell (j:=2) rfl; have x3:=HS.out.hd.cell (j:=3) rfl; have x4:=HS.out.hd.cell (j:=4) rfl; have x5:=HS.out.hd.cell (j:=5) rfl; have x6:=HS.out.hd.cell (j:=6) rfl
 go_enter Tryz.func53,Tryz.ntmps53
 go_wp2_with fail
 refine (HWH.out _ HS.out.bel).mono ?_
 rintro e w1 ⟨rfl,hb1⟩
 have HS1:=Lib.hid (HS.out.keep hb1)
 have hb2:Below w1.heap.size w1 (w1.alloc (.cells #[.string ⟨#[119,114,105,116,101]⟩,.string ⟨#[108,111,103,46,110,101,119]⟩,.string WB,.string ⟨#[115,121,110,99]⟩,.string ⟨#[108,111,103,46,110,101,119]⟩,.string ⟨#[]⟩,.string ⟨#[114,101,110,97,109,101]⟩,.string ⟨#[108,111,103,46,110,101,119]⟩,.string ⟨#[108,111,103]⟩] 151)):=(Below.refl _ w1).alloc (Nat.le_refl _) _
 have HS2:=Lib.hid (HS1.out.keep hb2)
 have HL2:Hid (stE.Sl (w1.alloc (.cells #[.string ⟨#[119,114,105,116,101]⟩,.string ⟨#[108,111,103,46,110,101,119]⟩,.string WB,.string ⟨#[115,121,110,99]⟩,.string ⟨#[108,111,103,46,110,101,119]⟩,.string ⟨#[]⟩,.string ⟨#[114,101,110,97,109,101]⟩,.string ⟨#[108,111,103,46,110,101,119]⟩,.string ⟨#[108,111,103]⟩] 151)) (some ⟨w1.heap.size,0,none⟩) 3 [⟨1,⟨#[108,111,103,46,110,101,119]⟩,WB⟩,⟨2,⟨#[108,111,103,46,110,101,119]⟩,⟨#[]⟩⟩,⟨3,⟨#[108,111,103,46,110,101,119]⟩,⟨#[108,111,103]⟩⟩]):=Lib.hid (by
  have hz:=heap_alloc_new w1 (.cells #[.string ⟨#[119,114,105,116,101]⟩,.string ⟨#[108,111,103,46,110,101,119]⟩,.string WB,.string ⟨#[115,121,110,99]⟩,.string ⟨#[108,111,103,46,110,101,119]⟩,.string ⟨#[]⟩,.string ⟨#[114,101,110,97,109,101]⟩,.string ⟨#[108,111,103,46,110,101,119]⟩,.string ⟨#[108,111,103]⟩] 151)
  refine⟨rfl,.inr ⟨w1.heap.size,0,rfl,fun i hi j u hu=>?_⟩⟩
  have key:∀ m,(w1.alloc (.cells #[.string ⟨#[119,114,105,116,101]⟩,.string ⟨#[108,111,103,46,110,101,119]⟩,.string WB,.string ⟨#[115,121,110,99]⟩,.string ⟨#[108,111,103,46,110,101,119]⟩,.string ⟨#[]⟩,.string ⟨#[114,101,110,97,109,101]⟩,.string ⟨#[108,111,103,46,110,101,119]⟩,.string ⟨#[108,111,103]⟩] 151)).cell? ⟨w1.heap.size,m,none⟩=(#[.string ⟨#[119,114,105,116,101]⟩,.string ⟨#[108,111,103,46,110,101,119]⟩,.string WB,.string ⟨#[115,121,110,99]⟩,.string ⟨#[108,111,103,46,110,101,119]⟩,.string ⟨#[]⟩,.string ⟨#[114,101,110,97,109,101]⟩,.string ⟨#[108,111,103,46,110,101,119]⟩,.string ⟨#[108,111,103]⟩]:Array Value)[m]?:=fun m=>Lib.cell_of_heap hz m
  rw [Nat.zero_add,key]
  match i,hi with
  | 0,_ =>
    match j with
    | 0=>exact hu
    | 1=>exact hu
    | 2=>exact hu
    | j+3=>simp [stE] at hu
  | 1,_ =>
    match j with
    | 0=>exact hu
    | 1=>exact hu
    | 2=>exact hu
    | j+3=>simp [stE] at hu
  | 2,_ =>
    match j with
    | 0=>exact hu
    | 1=>exact hu
    | 2=>exact hu
    | j+3=>simp [stE] at hu)
 clear x0 x1 x2 x3 x4 x5 x6 HWH HS HS1 hb1 hb2
 go_upto_region 3 with fail
 generalize w1.alloc (.cells #[.string ⟨#[119,114,105,116,101]⟩,.string ⟨#[108,111,103,46,110,101,119]⟩,.string WB,.string ⟨#[115,121,110,99]⟩,.string ⟨#[108,111,103,46,110,101,119]⟩,.string ⟨#[]⟩,.string ⟨#[114,101,110,97,109,101]⟩,.string ⟨#[108,111,103,46,110,101,119]⟩,.string ⟨#[108,111,103]⟩] 151)=w2 at *
 generalize w1.heap.size=sb at *
 have q0:=HS2.out.box.c0; have q1:=HS2.out.box.c1; have q2:=HS2.out.box.c2; have q3:=HS2.out.box.c3
 dsimp only at q0 q1 q2 q3
 go_wp2_with fail
 refine (HHS.out _ HS2.out.bel).mono ?_
 rintro e w3 ⟨rfl,hb3⟩
 have HS3:=Lib.hid (HS2.out.keep hb3)
 have HL3:=Lib.hid (HL2.out.keep hb3)
 clear q0 q1 q2 q3 HS2 HL2 hb3 HHS
 go_upto_if 16 with fail
 go_cut [5,7] (fun v5 v7 wx=>v5 = .int .i64 0∧∃ (sa:Option Addr) (ns cs:Nat) (L:List Stp),v7 = .slice sa ns cs∧ns≤4∧Hid (AnSt w wx [.int .i64 tm,.int .i64 vo,.int .i64 ba,.int .i64 bt,.slice ar nr cr,.string sn,.slice av nv cv] ⟨rm,fl,lf,dn⟩ a n c)∧Hid (stE.Sl wx sa ns L)∧Hid (∀ s∈L,StOk s)∧Hid (r=stepsS ⟨rm,fl,lf,dn⟩ L))
 case first =>
  have hok3:∀ s∈([⟨1,⟨#[108,111,103,46,110,101,119]⟩,WB⟩,⟨2,⟨#[108,111,103,46,110,101,119]⟩,⟨#[]⟩⟩,⟨3,⟨#[108,111,103,46,110,101,119]⟩,⟨#[108,111,103]⟩⟩]:List Stp),StOk s:=by
   have:=HZ.out
   intro s hs
   simp only [List.mem_cons,List.mem_nil_iff,or_false] at hs
   rcases hs with rfl | rfl | rfl
   ·exact⟨⟨show (1:Int)≤1 by decide,show (1:Int)≤4 by decide⟩,show newN.size≤maxLen by decide,this⟩
   ·exact⟨by decide,by decide,by decide⟩
   ·exact⟨by decide,by decide,by decide⟩
  have HOK:=Lib.hid hok3
  have hrr:r=_:=HR.out
  clear hok3
  cases k with
  | false =>
    rw [if_pos rfl] at hrr
    go_wp2_with fail
    go_meet
    exact⟨rfl,_,_,_,_,rfl,by decide,HS3,HL3,HOK,Lib.hid hrr⟩
  | true =>
    rw [if_neg (by decide)] at hrr
    have HRR:=Lib.hid hrr
    have hown:=World.ownsRow_lit (base:=w3.heap.size) (e:=96) (size:=3) w3 #[.string ⟨#[114,101,109,111,118,101]⟩,.string ⟨#[108,111,103,46,110,101,119]⟩,.string ⟨#[]⟩] 1 (Nat.le_refl _) (by decide) rfl
    have hbo:Below w3.heap.size w3 (w3.alloc (.cells #[.string ⟨#[114,101,109,111,118,101]⟩,.string ⟨#[108,111,103,46,110,101,119]⟩,.string ⟨#[]⟩] 96)):=(Below.refl _ w3).alloc (Nat.le_refl _) _
    have HO:=Lib.hid (show (w3.alloc (.cells #[.string ⟨#[114,101,109,111,118,101]⟩,.string ⟨#[108,111,103,46,110,101,119]⟩,.string ⟨#[]⟩] 96)).ownsRow w3.heap.size 96 3 (.slice (some ⟨w3.heap.size,0,none⟩) 1 1) 1 (stE.cells [⟨4,⟨#[108,111,103,46,110,101,119]⟩,⟨#[]⟩⟩]) from hown)
    have HLo:=Lib.hid (HL3.out.keep hbo)
    have HBO:=Lib.hid hbo
    clear hown hbo hrr HR
    go_wp2_with (at_builtin; refine Enc.wpList_app (E:=stE) _ rfl _ _ 97 rfl w3.heap.size 96 i0 _ 48 Tryz.underlying97 hi hz0 hz1 hz2 rfl _ 1 [⟨4,⟨#[108,111,103,46,110,101,119]⟩,⟨#[]⟩⟩] HO.out rfl (some ⟨sb,0,none⟩) 3 3 [⟨1,⟨#[108,111,103,46,110,101,119]⟩,WB⟩,⟨2,⟨#[108,111,103,46,110,101,119]⟩,⟨#[]⟩⟩,⟨3,⟨#[108,111,103,46,110,101,119]⟩,⟨#[108,111,103]⟩⟩] rfl HLo.out (fun e=>by cases e) (by decide) (by decide) HBO.out.size ?_)
    intro v' w4 hown' hgrow
    have HB4:=Lib.hid (HBO.out.grown hgrow HBO.out.size (fun k e=>Nat.le_of_eq (Option.some.inj e)))
    have HS4:=Lib.hid (HS3.out.keep HB4.out)
    obtain⟨a4,c4,rfl,-,hsl4,-,-,-⟩:=Enc.own_sl (E:=stE) hown'
    have HL4:=Lib.hid hsl4
    clear hown' hgrow HO HLo HBO HB4 hsl4
    go_wp2_with fail
    go_meet
    refine⟨rfl,_,_,_,_,rfl,by decide,HS4,HL4,Lib.hid (fun s hs=>?_),HRR⟩
    rcases List.mem_cons.1 hs with rfl | h
    ·exact⟨by decide,by decide,by decide⟩
    ·exact HOK.out s h
 obtain⟨rfl,sa,ns,cs,L,rfl,hns,HS5,HL5,HOK,HRR⟩:=hcut
 have hcall:=Lib.hid (HSTEPS.out a n c ⟨rm,fl,lf,dn⟩ sa ns cs L wc HS5.out.at_ HL5.out HOK.out (by omega))
 have q0:=HS5.out.box.c0; have q1:=HS5.out.box.c1; have q2:=HS5.out.box.c2; have q3:=HS5.out.box.c3
 dsimp only at q0 q1 q2 q3
 clear HS3 HL3
 go_wp2_with fail
 refine hcall.out.mono ?_
 rintro e w6 ⟨a6,n6,c6,rfl,hd6,hb6⟩
 have HS6:=Lib.hid (HS5.out.keep hb6)
 rw [← HRR.out] at hd6
 rw [← HRR.out]
 obtain⟨⟨xr,xf,xl,xd⟩,x⟩:=r
 have HF:=Lib.hid (HS6.out.ret hd6 x)
 unfold Dk.val
 dsimp only at *
 have o0:=HS6.out.out.c0; have o1:=HS6.out.out.c1; have o2:=HS6.out.out.c2; have o3:=HS6.out.out.c3
 have g0:=HS6.out.out.free 0; have g1:=HS6.out.out.free 1; have g2:=HS6.out.out.free 2; have g3:=HS6.out.out.free 3
 clear q0 q1 q2 q3 hcall hd6 hb6 HS5 HL5 HOK HRR
 go_wp2_with fail
 refine bodyPost_ret (v:=.tuple #[.agg #[.int .i64 xr,.slice a6 n6 c6,.int .i64 xl,.bool xd],.int .i64 x]) ?_ rfl ?_
 ·rw [results_cell_tmp rfl]; go_simp
 ·exact HF.out
end Go.Proofs.YtlpgbmaoenncjaaGreatDoor
