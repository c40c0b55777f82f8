/-
  The walk of wal.Open. (Written by wip/mkwoe.py.)
-/
import Derived.Test.YtlpgbmaoenncjaaGreatDoorWoD
import Derived.Test.YtlpgbmaoenncjaaGreatDoorWyAll
import Derived.Test.YtlpgbmaoenncjaaGreatDoorWsM
namespace Go.Proofs.YtlpgbmaoenncjaaGreatDoor
open Go.RowKit
set_option linter.unusedVariables false
set_option maxRecDepth 100000
def OpenP (w:World) (o:Opn) (e:Ending) (w':World):Prop :=
 ∃ (a:Option Addr) (n c:Nat) (ar:Option Addr) (nr cr:Nat) (av:Option Addr) (nv cv:Nat),e = .returned (.tuple #[o.d.val a n c,o.h.val ar nr cr av nv cv,.int .i64 o.bad])∧DkAt w' a n c o.d∧HdAt w' o.h ar nr cr av nv cv∧Below w.heap.size w w'∧(∀ q,ar=some q→w.heap.size≤q.block)∧(∀ q,av=some q→w.heap.size≤q.block)
structure OpSt (w W:World) (d:Dk) (a:Option Addr) (n c:Nat):Prop where
 bel:Below w.heap.size w W
 db:Blk W w.heap.size 38 [.int .i64 d.room,.slice a n c,.int .i64 d.left,.bool d.down]
 rd:Blk W (w.heap.size+1) 38 [.int .i64 0,.slice none 0 0,.int .i64 0,.bool false]
 rh:Blk W (w.heap.size+1+1) 42 [.int .i64 0,.int .i64 0,.int .i64 0,.int .i64 0,.slice none 0 0,.string ⟨#[]⟩,.slice none 0 0]
theorem OpSt.keep {w W W':World}{d:Dk}{a:Option Addr}{n c:Nat}(h:OpSt w W d a n c) (hb:Below W.heap.size W W'):OpSt w W' d a n c :=
 ⟨below_then h.bel hb h.bel.size,h.db.keep hb,h.rd.keep hb,h.rh.keep hb⟩
theorem op_start (w:World) (d:Dk) (a:Option Addr) (n c:Nat):OpSt w (((w.alloc (.cells #[.int .i64 d.room,.slice a n c,.int .i64 d.left,.bool d.down] 38)).alloc (.cells #[.int .i64 0,.slice none 0 0,.int .i64 0,.bool false] 38)).alloc (.cells #[.int .i64 0,.int .i64 0,.int .i64 0,.int .i64 0,.slice none 0 0,.string ⟨#[]⟩,.slice none 0 0] 42)) d a n c:=by
 have h:=Blk.both w (.cells #[.int .i64 d.room,.slice a n c,.int .i64 d.left,.bool d.down] 38) (.cells #[.int .i64 0,.slice none 0 0,.int .i64 0,.bool false] 38) 38 38 [.int .i64 d.room,.slice a n c,.int .i64 d.left,.bool d.down] [.int .i64 0,.slice none 0 0,.int .i64 0,.bool false] rfl rfl
 have h2:=heap_alloc_new ((w.alloc (.cells #[.int .i64 d.room,.slice a n c,.int .i64 d.left,.bool d.down] 38)).alloc (.cells #[.int .i64 0,.slice none 0 0,.int .i64 0,.bool false] 38)) (.cells #[.int .i64 0,.int .i64 0,.int .i64 0,.int .i64 0,.slice none 0 0,.string ⟨#[]⟩,.slice none 0 0] 42)
 rw [World.size_alloc,World.size_alloc] at h2
 refine⟨(((Below.refl w.heap.size w).alloc (Nat.le_refl _) _).alloc (by simp) _).alloc (by simp; omega) _,h.1.alloc _,h.2.alloc _,h2⟩
theorem blk_four {w:World}{g:Nat}{t:TypeId}{a0 a1 a2 a3:Value}(h:Blk w g t [a0,a1,a2,a3]) (b0 b1 b2 b3:Value) :
 Blk ((((w.setCell ⟨g,0,none⟩ b0).setCell ⟨g,1,none⟩ b1).setCell ⟨g,2,none⟩ b2).setCell ⟨g,3,none⟩ b3) g t [b0,b1,b2,b3]:=(((h.set 0 b0).set 1 b1).set 2 b2).set 3 b3
theorem results_cct {fn:Func}{p q u:Tmp}{t1 t2:TypeId}(h:fn.results=#[.cell p t1,.cell q t2,.tmp u]) (tmps:Array Value) (P:Program) (w:World) :
 (results fn tmps).run P w=((asAddr (tmps.getD p undef)).run P w).andThen fun a w₁=>((loadVar t1 a).run P w₁).andThen fun v w₂=>((asAddr (tmps.getD q undef)).run P w₂).andThen fun b w₃=>((loadVar t2 b).run P w₃).andThen fun x w₄=>.ok (.tuple #[v,x,tmps.getD u undef]) w₄:=by
 simp only [results,h]
 simp [Sem.run_bind,Result.andThen]
theorem results_three {P:Program}{fn:Func}{p q u:Tmp}{t1 t2:TypeId}(h:fn.results=#[.cell p t1,.cell q t2,.tmp u]) (tmps:Array Value) (w:World) (g1 g2:Nat) (T1 T2:TypeId) (cs ds:Array Value) {k1 k2:TypeDesc}(f1 f2:Nat × Nat)
 (hp:tmps.getD p undef = .pointer (some ⟨g1,0,none⟩)) (hq:tmps.getD q undef = .pointer (some ⟨g2,0,none⟩)) (hg1:w.heap[g1]? = some (.cells cs T1 f1)) (hg2:w.heap[g2]? = some (.cells ds T2 f2))
 (hu1:P.underlying t1=some k1) (hu2:P.underlying t2=some k2) (hd1:(match k1 with | .struct _ | .array _ _=>true | _=>false)=true) (hd2:(match k2 with | .struct _ | .array _ _=>true | _=>false)=true) (hi1:(P.info? t1).map (·.size)=some cs.size) (hi2:(P.info? t2).map (·.size)=some ds.size) :
 (results fn tmps).run P w = .ok (.tuple #[.agg cs,.agg ds,tmps.getD u undef]) w:=by
 rw [results_cct h]
 simp only [hp,hq,asAddr,Sem.run_pure,Result.andThen_ok,run_loadVar_row w g1 T1 t1 cs f1 k1 hg1 hu1 hd1 hi1,run_loadVar_row w g2 T2 t2 ds f2 k2 hg2 hu2 hd2 hi2]
theorem open_zero {w w':World}{d:Dk}{a:Option Addr}{n c:Nat}{o:Opn}{b:Int}(hd:DkAt w' a n c d) (hb:Below w.heap.size w w') (ho:o=⟨d,Hd.zero,b⟩):OpenP w o (.returned (.tuple #[.agg #[.int .i64 d.room,.slice a n c,.int .i64 d.left,.bool d.down],.agg #[.int .i64 0,.int .i64 0,.int .i64 0,.int .i64 0,.slice none 0 0,.string ⟨#[]⟩,.slice none 0 0],.int .i64 b])) w':=by
 subst ho
 exact⟨a,n,c,none,0,0,none,0,0,rfl,hd,hdAt_zero w',hb,fun q e=>(by cases e),fun q e=>(by cases e)⟩
theorem open_good {w w5 w8 w9:World}{d:Dk}{a:Option Addr}{n c:Nat}{z:Hd}{ar:Option Addr}{nr cr:Nat}{av:Option Addr}{nv cv:Nat}{o:Opn}(hd:DkAt w9 a n c d) (hb:Below w.heap.size w w9) (hh:HdAt w5 z ar nr cr av nv cv) (g1:w5.grownBy w8 (some (w.heap.size+1))) (g2:w8.grownBy w9 (some (w.heap.size+1+1)))
 (hf:(∀ q,ar=some q→w.heap.size+1+1<q.block)∧(∀ q,av=some q→w.heap.size+1+1<q.block)) (ho:o=⟨d,z,0⟩):OpenP w o (.returned (.tuple #[.agg #[.int .i64 d.room,.slice a n c,.int .i64 d.left,.bool d.down],.agg #[.int .i64 z.term,.int .i64 z.vote,.int .i64 z.base,.int .i64 z.bt,.slice ar nr cr,.string z.snap,.slice av nv cv],.int .i64 0])) w9:=by
 subst ho
 exact⟨a,n,c,ar,nr,cr,av,nv,cv,rfl,hd,hdAt_kept (hdAt_kept hh g1 (fun q e he=>by have h1:=hf.1 q e; have:=Option.some.inj he; omega) (fun q e he=>by have h1:=hf.2 q e; have:=Option.some.inj he; omega)) g2 (fun q e he=>by have h1:=hf.1 q e; have:=Option.some.inj he; omega) (fun q e he=>by have h1:=hf.2 q e; have:=Option.some.inj he; omega),hb,fun q e=>(by have:=hf.1 q e; omega),fun q e=>(by have:=hf.2 q e; omega)⟩
theorem apart_four {x y:Int}{a:Option Addr}{n c:Nat}{b:Bool}:∀ i s u,([.int .i64 x,.slice a n c,.int .i64 y,.bool b]:List Value)[i]? = some (Value.string s)→([.int .i64 x,.slice a n c,.int .i64 y,.bool b]:List Value)[i+1]? = some (Value.string u)→False:=by
 intro i s u h1 h2
 rcases i with _ | _ | _ | _ | i <;> simp at h1
theorem apart_seven {x0 x1 x2 x3:Int}{a:Option Addr}{n c:Nat}{t:ByteArray}{a':Option Addr}{n' c':Nat}:∀ i s u,([.int .i64 x0,.int .i64 x1,.int .i64 x2,.int .i64 x3,.slice a n c,.string t,.slice a' n' c']:List Value)[i]? = some (Value.string s)→([.int .i64 x0,.int .i64 x1,.int .i64 x2,.int .i64 x3,.slice a n c,.string t,.slice a' n' c']:List Value)[i+1]? = some (Value.string u)→False:=by
 intro i s u h1 h2
 rcases i with _ | _ | _ | _ | _ | _ | _ | i <;> simp at h1 h2
theorem dk_apart {w w':World}{d:Dk}{a:Option Addr}{n c:Nat}(hd:DkAt w a n c d) {g:Nat}{t:TypeId}{cs:List Value}(hg:Blk w g t cs) (hcs:∀ i s u,cs[i]? = some (Value.string s)→cs[i+1]? = some (Value.string u)→False) (hgr:w.grownBy w' (some g)):DkAt w' a n c d:=by
 refine { hd with sl:=?_ }
 rcases hd.sl.2 with h0 | ⟨b,off,rfl,hc⟩
 ·exact⟨hd.sl.1,.inl h0⟩
 ·by_cases hl:d.files=[]
  ·exact⟨hd.sl.1,.inl hl⟩
  ·refine hd.sl.kept hgr (fun q e e2=>?_)
   obtain⟨f,r,hf⟩:=List.exists_cons_of_ne_nil hl
   have h0:0<d.files.length:=by rw [hf]; simp
   have e3:b=q:=by simpa using e
   have e4:g=q:=Option.some.inj e2
   subst e3; subst e4
   have k0:=hc 0 h0 0 _ rfl
   have k1:=hc 0 h0 1 _ rfl
   rw [hg.cellAt] at k0 k1
   exact hcs _ _ _ k0 k1
set_option maxHeartbeats 4000000 in
theorem wopen_any (a:Option Addr) (n c:Nat) (d:Dk) (w:World) (hd:DkAt w a n c d) (hlog:(logOf d).size≤4000000) (htab:Lib.TabIs Tryz.prog w "internal/strconv.uint64pow10" .u64 Lib.pow10Tab) (o:Opn) (ho:Hid (o=openS d)) :
 Calls Tryz.prog 24 #[d.val a n c] w (OpenP w o):=by
 have HT:=Lib.hid (Lib.tabBelow_of_tabIs htab)
 have HST:=Lib.hid (op_start w d a n c)
 have HD:=Lib.hid hd
 have HLOG:=Lib.hid hlog
 obtain⟨rt,hrt⟩:∃ r,r=rightD d:=⟨_,rfl⟩
 have HRT:Hid (∀ W,Below w.heap.size w W→Calls Tryz.prog 50 #[d.val a n c] W fun e w'=>e = .returned (.bool rt)∧Below W.heap.size W w'):=Lib.hid (fun W hW=>dkRight_any a n c d W (hd.keep hW) rt (Lib.hid hrt))
 obtain⟨rb,hrb⟩:∃ r,r=readD d logN:=⟨_,rfl⟩
 have HRD:Hid (∀ W,Below w.heap.size w W→Calls Tryz.prog 63 #[d.val a n c,.string logN] W fun e w'=>e = .returned (.tuple #[.string rb.1,.int .i64 rb.2])∧Below W.heap.size W w'):=Lib.hid (fun W hW=>read_any a n c d logN W (hd.keep hW) (by decide) rb.1 rb.2 (Lib.hid hrb))
 have HRR:=Lib.hid (And.intro hrt hrb)
 clear hd hlog htab hrt hrb
 unfold Dk.val logN at *
 go_enter Tryz.func24,Tryz.ntmps24
 go_upto_region 1 with fail
 generalize (((w.alloc (.cells #[.int .i64 d.room,.slice a n c,.int .i64 d.left,.bool d.down] 38)).alloc (.cells #[.int .i64 0,.slice none 0 0,.int .i64 0,.bool false] 38)).alloc (.cells #[.int .i64 0,.int .i64 0,.int .i64 0,.int .i64 0,.slice none 0 0,.string ⟨#[]⟩,.slice none 0 0] 42))=w0 at *
 have d0:=HST.out.db.cell (j:=0) rfl; have d1:=HST.out.db.cell (j:=1) rfl; have d2:=HST.out.db.cell (j:=2) rfl; have d3:=HST.out.db.cell (j:=3) rfl
 go_wp2_with fail
 refine (HRT.out _ HST.out.bel).mono ?_
 rintro e w1 ⟨rfl,hb1⟩
 have HST1:=Lib.hid (HST.out.keep hb1)
 clear d0 d1 d2 d3 HST hb1 HRT
 cases rt with
 | false =>
   have HO:Hid (o=⟨d,Hd.zero,1⟩):=Lib.hid (ho.out.trans (open_wrong HRR.out.1.symm))
   have d0:=HST1.out.db.cell (j:=0) rfl
   have x0:=HST1.out.rd.cell (j:=0) rfl
   have y0:=HST1.out.rd.free 0
   have d1:=HST1.out.db.cell (j:=1) rfl
   have x1:=HST1.out.rd.cell (j:=1) rfl
   have y1:=HST1.out.rd.free 1
   have d2:=HST1.out.db.cell (j:=2) rfl
   have x2:=HST1.out.rd.cell (j:=2) rfl
   have y2:=HST1.out.rd.free 2
   have d3:=HST1.out.db.cell (j:=3) rfl
   have x3:=HST1.out.rd.cell (j:=3) rfl
   have y3:=HST1.out.rd.free 3
   have p0:=HST1.out.rh.cell (j:=0) rfl
   have f0:=HST1.out.rh.free 0
   have p1:=HST1.out.rh.cell (j:=1) rfl
   have f1:=HST1.out.rh.free 1
   have p2:=HST1.out.rh.cell (j:=2) rfl
   have f2:=HST1.out.rh.free 2
   have p3:=HST1.out.rh.cell (j:=3) rfl
   have f3:=HST1.out.rh.free 3
   have p4:=HST1.out.rh.cell (j:=4) rfl
   have f4:=HST1.out.rh.free 4
   have p5:=HST1.out.rh.cell (j:=5) rfl
   have f5:=HST1.out.rh.free 5
   have p6:=HST1.out.rh.cell (j:=6) rfl
   have f6:=HST1.out.rh.free 6
   go_wp2_with fail
   (try simp only [Exit.inBlock,Exit.then])
   have hz1:=blk_four HST1.out.rd (.int .i64 d.room) (.slice a n c) (.int .i64 d.left) (.bool d.down)
   have hg1:=grown_four w1 (w.heap.size+1) (.int .i64 d.room) (.slice a n c) (.int .i64 d.left) (.bool d.down)
   have hr1:Blk ((((w1.setCell ⟨w.heap.size+1,0,none⟩ (.int .i64 d.room)).setCell ⟨w.heap.size+1,1,none⟩ (.slice a n c)).setCell ⟨w.heap.size+1,2,none⟩ (.int .i64 d.left)).setCell ⟨w.heap.size+1,3,none⟩ (.bool d.down)) (w.heap.size+1+1) 42 [.int .i64 0,.int .i64 0,.int .i64 0,.int .i64 0,.slice none 0 0,.string ⟨#[]⟩,.slice none 0 0]:=HST1.out.rh.kept hg1 (fun e=>by have:=Option.some.inj e; omega)
   have hz2:=blk_seven hr1 (.int .i64 0) (.int .i64 0) (.int .i64 0) (.int .i64 0) (.slice none 0 0) (.string ⟨#[]⟩) (.slice none 0 0)
   have hg2:=grown_seven ((((w1.setCell ⟨w.heap.size+1,0,none⟩ (.int .i64 d.room)).setCell ⟨w.heap.size+1,1,none⟩ (.slice a n c)).setCell ⟨w.heap.size+1,2,none⟩ (.int .i64 d.left)).setCell ⟨w.heap.size+1,3,none⟩ (.bool d.down)) (w.heap.size+1+1) (.int .i64 0) (.int .i64 0) (.int .i64 0) (.int .i64 0) (.slice none 0 0) (.string ⟨#[]⟩) (.slice none 0 0)
   have hz3:=hz1.kept hg2 (fun e=>by have:=Option.some.inj e; omega)
   have hb1:Below w.heap.size w ((((w1.setCell ⟨w.heap.size+1,0,none⟩ (.int .i64 d.room)).setCell ⟨w.heap.size+1,1,none⟩ (.slice a n c)).setCell ⟨w.heap.size+1,2,none⟩ (.int .i64 d.left)).setCell ⟨w.heap.size+1,3,none⟩ (.bool d.down)):=HST1.out.bel.grown hg1 HST1.out.bel.size (fun q e=>by have:=Option.some.inj e; omega)
   have HB9:=Lib.hid (hb1.grown hg2 hb1.size (fun q e=>by have:=Option.some.inj e; omega))
   have HG1:=Lib.hid hg1
   have HG2:=Lib.hid hg2
   refine bodyPost_ret (v:=.tuple #[.agg #[.int .i64 d.room,.slice a n c,.int .i64 d.left,.bool d.down],.agg #[.int .i64 0,.int .i64 0,.int .i64 0,.int .i64 0,.slice none 0 0,.string ⟨#[]⟩,.slice none 0 0],.int .i64 1]) ?_ rfl ?_
   ·exact results_three (p:=2) (q:=3) (u:=4) rfl _ _ (w.heap.size+1) (w.heap.size+1+1) 38 42 _ _ _ _ rfl rfl hz3 hz2 Tryz.underlying38 Tryz.underlying42 rfl rfl (by kernel_rfl) (by kernel_rfl)
   ·exact open_zero (HD.out.keep HB9.out) HB9.out HO.out
 | true =>
   obtain⟨rm,fl,lf,dn⟩:=d
   cases dn with
   | true =>
     have HO:Hid (o=⟨⟨rm,fl,lf,true⟩,Hd.zero,132⟩):=Lib.hid (ho.out.trans (open_down HRR.out.1.symm rfl))
     clear HRR ho
     have d0:=HST1.out.db.cell (j:=0) rfl
     have x0:=HST1.out.rd.cell (j:=0) rfl
     have y0:=HST1.out.rd.free 0
     have d1:=HST1.out.db.cell (j:=1) rfl
     have x1:=HST1.out.rd.cell (j:=1) rfl
     have y1:=HST1.out.rd.free 1
     have d2:=HST1.out.db.cell (j:=2) rfl
     have x2:=HST1.out.rd.cell (j:=2) rfl
     have y2:=HST1.out.rd.free 2
     have d3:=HST1.out.db.cell (j:=3) rfl
     have x3:=HST1.out.rd.cell (j:=3) rfl
     have y3:=HST1.out.rd.free 3
     have p0:=HST1.out.rh.cell (j:=0) rfl
     have f0:=HST1.out.rh.free 0
     have p1:=HST1.out.rh.cell (j:=1) rfl
     have f1:=HST1.out.rh.free 1
     have p2:=HST1.out.rh.cell (j:=2) rfl
     have f2:=HST1.out.rh.free 2
     have p3:=HST1.out.rh.cell (j:=3) rfl
     have f3:=HST1.out.rh.free 3
     have p4:=HST1.out.rh.cell (j:=4) rfl
     have f4:=HST1.out.rh.free 4
     have p5:=HST1.out.rh.cell (j:=5) rfl
     have f5:=HST1.out.rh.free 5
     have p6:=HST1.out.rh.cell (j:=6) rfl
     have f6:=HST1.out.rh.free 6
     go_wp2_with fail
     (try simp only [Exit.inBlock,Exit.then])
     have hz1:=blk_four HST1.out.rd (.int .i64 rm) (.slice a n c) (.int .i64 lf) (.bool true)
     have hg1:=grown_four w1 (w.heap.size+1) (.int .i64 rm) (.slice a n c) (.int .i64 lf) (.bool true)
     have hr1:Blk ((((w1.setCell ⟨w.heap.size+1,0,none⟩ (.int .i64 rm)).setCell ⟨w.heap.size+1,1,none⟩ (.slice a n c)).setCell ⟨w.heap.size+1,2,none⟩ (.int .i64 lf)).setCell ⟨w.heap.size+1,3,none⟩ (.bool true)) (w.heap.size+1+1) 42 [.int .i64 0,.int .i64 0,.int .i64 0,.int .i64 0,.slice none 0 0,.string ⟨#[]⟩,.slice none 0 0]:=HST1.out.rh.kept hg1 (fun e=>by have:=Option.some.inj e; omega)
     have hz2:=blk_seven hr1 (.int .i64 0) (.int .i64 0) (.int .i64 0) (.int .i64 0) (.slice none 0 0) (.string ⟨#[]⟩) (.slice none 0 0)
     have hg2:=grown_seven ((((w1.setCell ⟨w.heap.size+1,0,none⟩ (.int .i64 rm)).setCell ⟨w.heap.size+1,1,none⟩ (.slice a n c)).setCell ⟨w.heap.size+1,2,none⟩ (.int .i64 lf)).setCell ⟨w.heap.size+1,3,none⟩ (.bool true)) (w.heap.size+1+1) (.int .i64 0) (.int .i64 0) (.int .i64 0) (.int .i64 0) (.slice none 0 0) (.string ⟨#[]⟩) (.slice none 0 0)
     have hz3:=hz1.kept hg2 (fun e=>by have:=Option.some.inj e; omega)
     have hb1:Below w.heap.size w ((((w1.setCell ⟨w.heap.size+1,0,none⟩ (.int .i64 rm)).setCell ⟨w.heap.size+1,1,none⟩ (.slice a n c)).setCell ⟨w.heap.size+1,2,none⟩ (.int .i64 lf)).setCell ⟨w.heap.size+1,3,none⟩ (.bool true)):=HST1.out.bel.grown hg1 HST1.out.bel.size (fun q e=>by have:=Option.some.inj e; omega)
     have HB9:=Lib.hid (hb1.grown hg2 hb1.size (fun q e=>by have:=Option.some.inj e; omega))
     have HG1:=Lib.hid hg1
     have HG2:=Lib.hid hg2
     refine bodyPost_ret (v:=.tuple #[.agg #[.int .i64 rm,.slice a n c,.int .i64 lf,.bool true],.agg #[.int .i64 0,.int .i64 0,.int .i64 0,.int .i64 0,.slice none 0 0,.string ⟨#[]⟩,.slice none 0 0],.int .i64 132]) ?_ rfl ?_
     ·exact results_three (p:=2) (q:=3) (u:=4) rfl _ _ (w.heap.size+1) (w.heap.size+1+1) 38 42 _ _ _ _ rfl rfl hz3 hz2 Tryz.underlying38 Tryz.underlying42 rfl rfl (by kernel_rfl) (by kernel_rfl)
     ·exact open_zero (d:=⟨rm,fl,lf,true⟩) (HD.out.keep HB9.out) HB9.out HO.out
   | false =>
     have d0:=HST1.out.db.cell (j:=0) rfl; have d1:=HST1.out.db.cell (j:=1) rfl; have d2:=HST1.out.db.cell (j:=2) rfl; have d3:=HST1.out.db.cell (j:=3) rfl
     have hrd:=read_log HRR.out.1.symm rfl
     have HRL:Hid (rb=if atL fl logN<0 then (⟨#[]⟩,60) else (logOf ⟨rm,fl,lf,false⟩,0)):=Lib.hid (HRR.out.2.trans hrd)
     have HRG:Hid (rightD ⟨rm,fl,lf,false⟩=true):=Lib.hid HRR.out.1.symm
     clear hrd HRR
     go_wp2_with fail
     refine (HRD.out _ HST1.out.bel).mono ?_
     rintro e w2 ⟨rfl,hb2⟩
     have HST2:=Lib.hid (HST1.out.keep hb2)
     obtain⟨r1,r2⟩:=rb
     dsimp only
     clear d0 d1 d2 d3 HRD hb2 HST1
     by_cases hat:atL fl logN<0
     ·have hrl:=HRL.out
      rw [if_pos hat] at hrl
      obtain⟨rfl,rfl⟩:=Prod.mk.inj hrl
      have HO:Hid (o=⟨(⟨rm,fl,lf,false⟩:Dk),Hd.zero,0⟩):=Lib.hid (ho.out.trans (open_bare HRG.out rfl hat))
      clear HRL hrl ho hat
      have d0:=HST2.out.db.cell (j:=0) rfl
      have x0:=HST2.out.rd.cell (j:=0) rfl
      have y0:=HST2.out.rd.free 0
      have d1:=HST2.out.db.cell (j:=1) rfl
      have x1:=HST2.out.rd.cell (j:=1) rfl
      have y1:=HST2.out.rd.free 1
      have d2:=HST2.out.db.cell (j:=2) rfl
      have x2:=HST2.out.rd.cell (j:=2) rfl
      have y2:=HST2.out.rd.free 2
      have d3:=HST2.out.db.cell (j:=3) rfl
      have x3:=HST2.out.rd.cell (j:=3) rfl
      have y3:=HST2.out.rd.free 3
      have p0:=HST2.out.rh.cell (j:=0) rfl
      have f0:=HST2.out.rh.free 0
      have p1:=HST2.out.rh.cell (j:=1) rfl
      have f1:=HST2.out.rh.free 1
      have p2:=HST2.out.rh.cell (j:=2) rfl
      have f2:=HST2.out.rh.free 2
      have p3:=HST2.out.rh.cell (j:=3) rfl
      have f3:=HST2.out.rh.free 3
      have p4:=HST2.out.rh.cell (j:=4) rfl
      have f4:=HST2.out.rh.free 4
      have p5:=HST2.out.rh.cell (j:=5) rfl
      have f5:=HST2.out.rh.free 5
      have p6:=HST2.out.rh.cell (j:=6) rfl
      have f6:=HST2.out.rh.free 6
      go_wp2_with fail
      (try simp only [Exit.inBlock,Exit.then])
      have hz1:=blk_four HST2.out.rd (.int .i64 rm) (.slice a n c) (.int .i64 lf) (.bool false)
      have hg1:=grown_four w2 (w.heap.size+1) (.int .i64 rm) (.slice a n c) (.int .i64 lf) (.bool false)
      have hr1:Blk ((((w2.setCell ⟨w.heap.size+1,0,none⟩ (.int .i64 rm)).setCell ⟨w.heap.size+1,1,none⟩ (.slice a n c)).setCell ⟨w.heap.size+1,2,none⟩ (.int .i64 lf)).setCell ⟨w.heap.size+1,3,none⟩ (.bool false)) (w.heap.size+1+1) 42 [.int .i64 0,.int .i64 0,.int .i64 0,.int .i64 0,.slice none 0 0,.string ⟨#[]⟩,.slice none 0 0]:=HST2.out.rh.kept hg1 (fun e=>by have:=Option.some.inj e; omega)
      have hz2:=blk_seven hr1 (.int .i64 0) (.int .i64 0) (.int .i64 0) (.int .i64 0) (.slice none 0 0) (.string ⟨#[]⟩) (.slice none 0 0)
      have hg2:=grown_seven ((((w2.setCell ⟨w.heap.size+1,0,none⟩ (.int .i64 rm)).setCell ⟨w.heap.size+1,1,none⟩ (.slice a n c)).setCell ⟨w.heap.size+1,2,none⟩ (.int .i64 lf)).setCell ⟨w.heap.size+1,3,none⟩ (.bool false)) (w.heap.size+1+1) (.int .i64 0) (.int .i64 0) (.int .i64 0) (.int .i64 0) (.slice none 0 0) (.string ⟨#[]⟩) (.slice none 0 0)
      have hz3:=hz1.kept hg2 (fun e=>by have:=Option.some.inj e; omega)
      have hb1:Below w.heap.size w ((((w2.setCell ⟨w.heap.size+1,0,none⟩ (.int .i64 rm)).setCell ⟨w.heap.size+1,1,none⟩ (.slice a n c)).setCell ⟨w.heap.size+1,2,none⟩ (.int .i64 lf)).setCell ⟨w.heap.size+1,3,none⟩ (.bool false)):=HST2.out.bel.grown hg1 HST2.out.bel.size (fun q e=>by have:=Option.some.inj e; omega)
      have HB9:=Lib.hid (hb1.grown hg2 hb1.size (fun q e=>by have:=Option.some.inj e; omega))
      have HG1:=Lib.hid hg1
      have HG2:=Lib.hid hg2
      refine bodyPost_ret (v:=.tuple #[.agg #[.int .i64 rm,.slice a n c,.int .i64 lf,.bool false],.agg #[.int .i64 0,.int .i64 0,.int .i64 0,.int .i64 0,.slice none 0 0,.string ⟨#[]⟩,.slice none 0 0],.int .i64 0]) ?_ rfl ?_
      ·exact results_three (p:=2) (q:=3) (u:=4) rfl _ _ (w.heap.size+1) (w.heap.size+1+1) 38 42 _ _ _ _ rfl rfl hz3 hz2 Tryz.underlying38 Tryz.underlying42 rfl rfl (by kernel_rfl) (by kernel_rfl)
      ·exact open_zero (d:=⟨rm,fl,lf,false⟩) (HD.out.keep HB9.out) HB9.out HO.out
     ·have hrl:=HRL.out
      rw [if_neg hat] at hrl
      obtain⟨hr1,rfl⟩:=Prod.mk.inj hrl
      have HAT:=Lib.hid hat
      have HR1:=Lib.hid hr1
      have hs4:r1.size≤4000000:=by rw [hr1]; exact HLOG.out
      clear hr1 hrl HRL hat
      have hbs:=bodsB_small r1
      have HSC:=Lib.hid (frScan_any r1 w2 hs4 _ (Lib.hid rfl))
      obtain⟨tk,htk⟩:∃ t,t=taken (bodies r1.data.toList):=⟨_,rfl⟩
      have HTK:=Lib.hid htk
      have HBS:=Lib.hid hbs
      have HS4:=Lib.hid hs4
      obtain⟨bl,hbl⟩:∃ l,l=bodsB r1:=⟨_,rfl⟩
      have HBL:=Lib.hid hbl
      have hpost:∀ e w',ScanP w2 r1.data.toList e w'→∃ a2 n2 c2,e = .returned (.tuple #[.slice a2 n2 c2,.int .i64 (tk:Int)])∧SlAt w' a2 n2 (strs bl)∧Below w2.heap.size w2 w'∧n2≤c2:=by
       rintro e w' ⟨a2,n2,c2,rfl,h1,h2,-,h3⟩
       rw [htk,hbl]
       exact⟨a2,n2,c2,rfl,h1,h2,h3⟩
      replace HSC:=Lib.hid (HSC.out.mono hpost)
      clear hpost htk hbl hbs hs4
      go_wp2_with fail
      refine HSC.out.mono ?_
      rintro e w3 ⟨a2,n2,c2,rfl,hsl,hb3,hc2⟩
      dsimp only
      have HST3:=Lib.hid (HST2.out.keep hb3)
      have hn2:n2=bl.length:=by have:=hsl.1; rw [strs_length] at this; exact this
      obtain⟨xh,hxh⟩:∃ x,x=heldS bl:=⟨_,rfl⟩
      have HXH:=Lib.hid hxh
      have HHE:=Lib.hid (wheld_any a2 n2 c2 bl w3 hsl hc2 (by rw [hn2,HBL.out]; have:=HBS.out.1; have:=HS4.out; omega) (by rw [HBL.out]; have:=HBS.out.2.1; have:=HS4.out; omega) (fun y hy=>by rw [HBL.out] at hy; have:=HBS.out.2.2 y hy; have:=HS4.out; omega) (HT.out _ HST3.out.bel) xh (Lib.hid hxh))
      clear hsl hb3 hc2 hn2 hxh HSC HST2
      go_wp2_with fail
      refine HHE.out.mono ?_
      rintro e w4 ⟨z,ar,nr,cr,av,nv,cv,ok,rfl,hb4,hok,hsome⟩
      unfold Hd.val
      dsimp only
      have HST4:=Lib.hid (HST3.out.keep hb4)
      have hb5:Below w4.heap.size w4 (w4.alloc (.cells #[.int .i64 z.term,.int .i64 z.vote,.int .i64 z.base,.int .i64 z.bt,.slice ar nr cr,.string z.snap,.slice av nv cv] 42)):=(Below.refl _ w4).alloc (Nat.le_refl _) _
      have HST5:=Lib.hid (HST4.out.keep hb5)
      have HB5:Hid (Blk (w4.alloc (.cells #[.int .i64 z.term,.int .i64 z.vote,.int .i64 z.base,.int .i64 z.bt,.slice ar nr cr,.string z.snap,.slice av nv cv] 42)) w4.heap.size 42 [.int .i64 z.term,.int .i64 z.vote,.int .i64 z.base,.int .i64 z.bt,.slice ar nr cr,.string z.snap,.slice av nv cv]):=Lib.hid (heap_alloc_new w4 _)
      have HOK:=Lib.hid hok
      have HSM:Hid (∀ y,xh=some y→z=y∧HdAt (w4.alloc (.cells #[.int .i64 z.term,.int .i64 z.vote,.int .i64 z.base,.int .i64 z.bt,.slice ar nr cr,.string z.snap,.slice av nv cv] 42)) y ar nr cr av nv cv∧(∀ q,ar=some q→w.heap.size+1+1<q.block)∧(∀ q,av=some q→w.heap.size+1+1<q.block)):=Lib.hid (fun y hy=>by
       obtain⟨h1,h2,h3,h4⟩:=hsome y hy
       have h5:=lt_of_block HST3.out.rh
       exact⟨h1,h2.keep hb5,fun q e=>by have:=h3 q e; omega,fun q e=>by have:=h4 q e; omega⟩)
      have HPW:Hid (w.heap.size+1+1<w4.heap.size):=Lib.hid (lt_of_block HST4.out.rh)
      clear HHE hb4 hb5 hok hsome HST3 HST4
      go_upto_region 10 with fail
      generalize (w4.alloc (.cells #[.int .i64 z.term,.int .i64 z.vote,.int .i64 z.base,.int .i64 z.bt,.slice ar nr cr,.string z.snap,.slice av nv cv] 42))=w5 at *
      have HNA:Hid (¬ atL fl logN<0):=Lib.hid (by have:=HAT.out; omega)
      cases xh with
      | none =>
        obtain rfl:ok=false:=HOK.out
        have HO:Hid (o=⟨(⟨rm,fl,lf,false⟩:Dk),Hd.zero,61⟩):=Lib.hid (ho.out.trans (open_rot HRG.out rfl HNA.out (by rw [← HR1.out,← HBL.out]; exact HXH.out.symm)))
        clear HSM HXH ho HBL HR1 HOK
        have d0:=HST5.out.db.cell (j:=0) rfl
        have x0:=HST5.out.rd.cell (j:=0) rfl
        have y0:=HST5.out.rd.free 0
        have d1:=HST5.out.db.cell (j:=1) rfl
        have x1:=HST5.out.rd.cell (j:=1) rfl
        have y1:=HST5.out.rd.free 1
        have d2:=HST5.out.db.cell (j:=2) rfl
        have x2:=HST5.out.rd.cell (j:=2) rfl
        have y2:=HST5.out.rd.free 2
        have d3:=HST5.out.db.cell (j:=3) rfl
        have x3:=HST5.out.rd.cell (j:=3) rfl
        have y3:=HST5.out.rd.free 3
        have p0:=HST5.out.rh.cell (j:=0) rfl
        have f0:=HST5.out.rh.free 0
        have p1:=HST5.out.rh.cell (j:=1) rfl
        have f1:=HST5.out.rh.free 1
        have p2:=HST5.out.rh.cell (j:=2) rfl
        have f2:=HST5.out.rh.free 2
        have p3:=HST5.out.rh.cell (j:=3) rfl
        have f3:=HST5.out.rh.free 3
        have p4:=HST5.out.rh.cell (j:=4) rfl
        have f4:=HST5.out.rh.free 4
        have p5:=HST5.out.rh.cell (j:=5) rfl
        have f5:=HST5.out.rh.free 5
        have p6:=HST5.out.rh.cell (j:=6) rfl
        have f6:=HST5.out.rh.free 6
        go_wp2_with fail
        (try simp only [Exit.inBlock,Exit.then])
        have hz1:=blk_four HST5.out.rd (.int .i64 rm) (.slice a n c) (.int .i64 lf) (.bool false)
        have hg1:=grown_four w5 (w.heap.size+1) (.int .i64 rm) (.slice a n c) (.int .i64 lf) (.bool false)
        have hr1:Blk ((((w5.setCell ⟨w.heap.size+1,0,none⟩ (.int .i64 rm)).setCell ⟨w.heap.size+1,1,none⟩ (.slice a n c)).setCell ⟨w.heap.size+1,2,none⟩ (.int .i64 lf)).setCell ⟨w.heap.size+1,3,none⟩ (.bool false)) (w.heap.size+1+1) 42 [.int .i64 0,.int .i64 0,.int .i64 0,.int .i64 0,.slice none 0 0,.string ⟨#[]⟩,.slice none 0 0]:=HST5.out.rh.kept hg1 (fun e=>by have:=Option.some.inj e; omega)
        have hz2:=blk_seven hr1 (.int .i64 0) (.int .i64 0) (.int .i64 0) (.int .i64 0) (.slice none 0 0) (.string ⟨#[]⟩) (.slice none 0 0)
        have hg2:=grown_seven ((((w5.setCell ⟨w.heap.size+1,0,none⟩ (.int .i64 rm)).setCell ⟨w.heap.size+1,1,none⟩ (.slice a n c)).setCell ⟨w.heap.size+1,2,none⟩ (.int .i64 lf)).setCell ⟨w.heap.size+1,3,none⟩ (.bool false)) (w.heap.size+1+1) (.int .i64 0) (.int .i64 0) (.int .i64 0) (.int .i64 0) (.slice none 0 0) (.string ⟨#[]⟩) (.slice none 0 0)
        have hz3:=hz1.kept hg2 (fun e=>by have:=Option.some.inj e; omega)
        have hb1:Below w.heap.size w ((((w5.setCell ⟨w.heap.size+1,0,none⟩ (.int .i64 rm)).setCell ⟨w.heap.size+1,1,none⟩ (.slice a n c)).setCell ⟨w.heap.size+1,2,none⟩ (.int .i64 lf)).setCell ⟨w.heap.size+1,3,none⟩ (.bool false)):=HST5.out.bel.grown hg1 HST5.out.bel.size (fun q e=>by have:=Option.some.inj e; omega)
        have HB9:=Lib.hid (hb1.grown hg2 hb1.size (fun q e=>by have:=Option.some.inj e; omega))
        have HG1:=Lib.hid hg1
        have HG2:=Lib.hid hg2
        refine bodyPost_ret (v:=.tuple #[.agg #[.int .i64 rm,.slice a n c,.int .i64 lf,.bool false],.agg #[.int .i64 0,.int .i64 0,.int .i64 0,.int .i64 0,.slice none 0 0,.string ⟨#[]⟩,.slice none 0 0],.int .i64 61]) ?_ rfl ?_
        ·exact results_three (p:=2) (q:=3) (u:=4) rfl _ _ (w.heap.size+1) (w.heap.size+1+1) 38 42 _ _ _ _ rfl rfl hz3 hz2 Tryz.underlying38 Tryz.underlying42 rfl rfl (by kernel_rfl) (by kernel_rfl)
        ·exact open_zero (d:=⟨rm,fl,lf,false⟩) (HD.out.keep HB9.out) HB9.out HO.out
      | some h =>
        obtain rfl:ok=true:=HOK.out
        obtain⟨rfl,hh5,hfa,hfv⟩:=HSM.out h rfl
        have HO:Hid (o=if tk=r1.size then ⟨(⟨rm,fl,lf,false⟩:Dk),z,0⟩ else if (anewS (⟨rm,fl,lf,false⟩:Dk) z).2=0 then ⟨(anewS (⟨rm,fl,lf,false⟩:Dk) z).1,z,0⟩ else ⟨(anewS (⟨rm,fl,lf,false⟩:Dk) z).1,Hd.zero,(anewS (⟨rm,fl,lf,false⟩:Dk) z).2⟩):=Lib.hid (by
         have h1:=open_held HRG.out rfl HNA.out (h:=z) (by rw [← HR1.out,← HBL.out]; exact HXH.out.symm)
         rw [ho.out,HTK.out,HR1.out]
         exact h1)
        have HHD5:=Lib.hid hh5
        have HFR:=Lib.hid (And.intro hfa hfv)
        have HRZ:Hid (rightH z=true):=Lib.hid (heldS_right HXH.out.symm)
        clear HSM HXH ho HOK hh5 hfa hfv HTK
        by_cases hend:tk=r1.size
        ·have hendI:(tk:Int)=(r1.size:Int):=by omega
         have HO2:Hid (o=⟨(⟨rm,fl,lf,false⟩:Dk),z,0⟩):=Lib.hid (by rw [HO.out,if_pos hend])
         clear HO hend
         go_upto_region 16 with fail
         have d0:=HST5.out.db.cell (j:=0) rfl
         have x0:=HST5.out.rd.cell (j:=0) rfl
         have y0:=HST5.out.rd.free 0
         have d1:=HST5.out.db.cell (j:=1) rfl
         have x1:=HST5.out.rd.cell (j:=1) rfl
         have y1:=HST5.out.rd.free 1
         have d2:=HST5.out.db.cell (j:=2) rfl
         have x2:=HST5.out.rd.cell (j:=2) rfl
         have y2:=HST5.out.rd.free 2
         have d3:=HST5.out.db.cell (j:=3) rfl
         have x3:=HST5.out.rd.cell (j:=3) rfl
         have y3:=HST5.out.rd.free 3
         have p0:=HST5.out.rh.cell (j:=0) rfl
         have f0:=HST5.out.rh.free 0
         have z0:=HB5.out.cell (j:=0) rfl
         have p1:=HST5.out.rh.cell (j:=1) rfl
         have f1:=HST5.out.rh.free 1
         have z1:=HB5.out.cell (j:=1) rfl
         have p2:=HST5.out.rh.cell (j:=2) rfl
         have f2:=HST5.out.rh.free 2
         have z2:=HB5.out.cell (j:=2) rfl
         have p3:=HST5.out.rh.cell (j:=3) rfl
         have f3:=HST5.out.rh.free 3
         have z3:=HB5.out.cell (j:=3) rfl
         have p4:=HST5.out.rh.cell (j:=4) rfl
         have f4:=HST5.out.rh.free 4
         have z4:=HB5.out.cell (j:=4) rfl
         have p5:=HST5.out.rh.cell (j:=5) rfl
         have f5:=HST5.out.rh.free 5
         have z5:=HB5.out.cell (j:=5) rfl
         have p6:=HST5.out.rh.cell (j:=6) rfl
         have f6:=HST5.out.rh.free 6
         have z6:=HB5.out.cell (j:=6) rfl
         have n1:w.heap.size+1≠w4.heap.size:=by have:=HPW.out; omega
         have n2:w.heap.size+1+1≠w4.heap.size:=by have:=HPW.out; omega
         have n3:w4.heap.size≠w.heap.size+1:=by have:=HPW.out; omega
         have n4:w4.heap.size≠w.heap.size+1+1:=by have:=HPW.out; omega
         generalize w4.heap.size=pb at *
         go_region
         have hz1:=blk_four HST5.out.rd (.int .i64 rm) (.slice a n c) (.int .i64 lf) (.bool false)
         have hg1:=grown_four w5 (w.heap.size+1) (.int .i64 rm) (.slice a n c) (.int .i64 lf) (.bool false)
         have hr1:Blk ((((w5.setCell ⟨w.heap.size+1,0,none⟩ (.int .i64 rm)).setCell ⟨w.heap.size+1,1,none⟩ (.slice a n c)).setCell ⟨w.heap.size+1,2,none⟩ (.int .i64 lf)).setCell ⟨w.heap.size+1,3,none⟩ (.bool false)) (w.heap.size+1+1) 42 [.int .i64 0,.int .i64 0,.int .i64 0,.int .i64 0,.slice none 0 0,.string ⟨#[]⟩,.slice none 0 0]:=HST5.out.rh.kept hg1 (fun e=>by have:=Option.some.inj e; omega)
         have hz2:=blk_seven hr1 (.int .i64 z.term) (.int .i64 z.vote) (.int .i64 z.base) (.int .i64 z.bt) (.slice ar nr cr) (.string z.snap) (.slice av nv cv)
         have hg2:=grown_seven ((((w5.setCell ⟨w.heap.size+1,0,none⟩ (.int .i64 rm)).setCell ⟨w.heap.size+1,1,none⟩ (.slice a n c)).setCell ⟨w.heap.size+1,2,none⟩ (.int .i64 lf)).setCell ⟨w.heap.size+1,3,none⟩ (.bool false)) (w.heap.size+1+1) (.int .i64 z.term) (.int .i64 z.vote) (.int .i64 z.base) (.int .i64 z.bt) (.slice ar nr cr) (.string z.snap) (.slice av nv cv)
         have hz3:=hz1.kept hg2 (fun e=>by have:=Option.some.inj e; omega)
         have hb1:Below w.heap.size w ((((w5.setCell ⟨w.heap.size+1,0,none⟩ (.int .i64 rm)).setCell ⟨w.heap.size+1,1,none⟩ (.slice a n c)).setCell ⟨w.heap.size+1,2,none⟩ (.int .i64 lf)).setCell ⟨w.heap.size+1,3,none⟩ (.bool false)):=HST5.out.bel.grown hg1 HST5.out.bel.size (fun q e=>by have:=Option.some.inj e; omega)
         have HB9:Hid (Below w.heap.size w (((((((((((w5.setCell ⟨w.heap.size+1,0,none⟩ (.int .i64 rm)).setCell ⟨w.heap.size+1,1,none⟩ (.slice a n c)).setCell ⟨w.heap.size+1,2,none⟩ (.int .i64 lf)).setCell ⟨w.heap.size+1,3,none⟩ (.bool false)).setCell ⟨w.heap.size+1+1,0,none⟩ (.int .i64 z.term)).setCell ⟨w.heap.size+1+1,1,none⟩ (.int .i64 z.vote)).setCell ⟨w.heap.size+1+1,2,none⟩ (.int .i64 z.base)).setCell ⟨w.heap.size+1+1,3,none⟩ (.int .i64 z.bt)).setCell ⟨w.heap.size+1+1,4,none⟩ (.slice ar nr cr)).setCell ⟨w.heap.size+1+1,5,none⟩ (.string z.snap)).setCell ⟨w.heap.size+1+1,6,none⟩ (.slice av nv cv)).drew):=Lib.hid (hb1.grown hg2 hb1.size (fun q e=>by have:=Option.some.inj e; omega)).drew
         have HG1:=Lib.hid hg1
         have HG2:Hid (((((w5.setCell ⟨w.heap.size+1,0,none⟩ (.int .i64 rm)).setCell ⟨w.heap.size+1,1,none⟩ (.slice a n c)).setCell ⟨w.heap.size+1,2,none⟩ (.int .i64 lf)).setCell ⟨w.heap.size+1,3,none⟩ (.bool false)).grownBy (((((((((((w5.setCell ⟨w.heap.size+1,0,none⟩ (.int .i64 rm)).setCell ⟨w.heap.size+1,1,none⟩ (.slice a n c)).setCell ⟨w.heap.size+1,2,none⟩ (.int .i64 lf)).setCell ⟨w.heap.size+1,3,none⟩ (.bool false)).setCell ⟨w.heap.size+1+1,0,none⟩ (.int .i64 z.term)).setCell ⟨w.heap.size+1+1,1,none⟩ (.int .i64 z.vote)).setCell ⟨w.heap.size+1+1,2,none⟩ (.int .i64 z.base)).setCell ⟨w.heap.size+1+1,3,none⟩ (.int .i64 z.bt)).setCell ⟨w.heap.size+1+1,4,none⟩ (.slice ar nr cr)).setCell ⟨w.heap.size+1+1,5,none⟩ (.string z.snap)).setCell ⟨w.heap.size+1+1,6,none⟩ (.slice av nv cv)).drew (some (w.heap.size+1+1))):=Lib.hid (grown_drewN hg2 1)
         have HZ3:Hid (Blk (((((((((((w5.setCell ⟨w.heap.size+1,0,none⟩ (.int .i64 rm)).setCell ⟨w.heap.size+1,1,none⟩ (.slice a n c)).setCell ⟨w.heap.size+1,2,none⟩ (.int .i64 lf)).setCell ⟨w.heap.size+1,3,none⟩ (.bool false)).setCell ⟨w.heap.size+1+1,0,none⟩ (.int .i64 z.term)).setCell ⟨w.heap.size+1+1,1,none⟩ (.int .i64 z.vote)).setCell ⟨w.heap.size+1+1,2,none⟩ (.int .i64 z.base)).setCell ⟨w.heap.size+1+1,3,none⟩ (.int .i64 z.bt)).setCell ⟨w.heap.size+1+1,4,none⟩ (.slice ar nr cr)).setCell ⟨w.heap.size+1+1,5,none⟩ (.string z.snap)).setCell ⟨w.heap.size+1+1,6,none⟩ (.slice av nv cv)).drew (w.heap.size+1) 38 [.int .i64 rm,.slice a n c,.int .i64 lf,.bool false]):=Lib.hid (Blk.drewN hz3 1)
         have HZ2:Hid (Blk (((((((((((w5.setCell ⟨w.heap.size+1,0,none⟩ (.int .i64 rm)).setCell ⟨w.heap.size+1,1,none⟩ (.slice a n c)).setCell ⟨w.heap.size+1,2,none⟩ (.int .i64 lf)).setCell ⟨w.heap.size+1,3,none⟩ (.bool false)).setCell ⟨w.heap.size+1+1,0,none⟩ (.int .i64 z.term)).setCell ⟨w.heap.size+1+1,1,none⟩ (.int .i64 z.vote)).setCell ⟨w.heap.size+1+1,2,none⟩ (.int .i64 z.base)).setCell ⟨w.heap.size+1+1,3,none⟩ (.int .i64 z.bt)).setCell ⟨w.heap.size+1+1,4,none⟩ (.slice ar nr cr)).setCell ⟨w.heap.size+1+1,5,none⟩ (.string z.snap)).setCell ⟨w.heap.size+1+1,6,none⟩ (.slice av nv cv)).drew (w.heap.size+1+1) 42 [.int .i64 z.term,.int .i64 z.vote,.int .i64 z.base,.int .i64 z.bt,.slice ar nr cr,.string z.snap,.slice av nv cv]):=Lib.hid (Blk.drewN hz2 1)
         have HOUT:Hid (OpenP w o (.returned (.tuple #[.agg #[.int .i64 rm,.slice a n c,.int .i64 lf,.bool false],.agg #[.int .i64 z.term,.int .i64 z.vote,.int .i64 z.base,.int .i64 z.bt,.slice ar nr cr,.string z.snap,.slice av nv cv],.int .i64 0])) (((((((((((w5.setCell ⟨w.heap.size+1,0,none⟩ (.int .i64 rm)).setCell ⟨w.heap.size+1,1,none⟩ (.slice a n c)).setCell ⟨w.heap.size+1,2,none⟩ (.int .i64 lf)).setCell ⟨w.heap.size+1,3,none⟩ (.bool false)).setCell ⟨w.heap.size+1+1,0,none⟩ (.int .i64 z.term)).setCell ⟨w.heap.size+1+1,1,none⟩ (.int .i64 z.vote)).setCell ⟨w.heap.size+1+1,2,none⟩ (.int .i64 z.base)).setCell ⟨w.heap.size+1+1,3,none⟩ (.int .i64 z.bt)).setCell ⟨w.heap.size+1+1,4,none⟩ (.slice ar nr cr)).setCell ⟨w.heap.size+1+1,5,none⟩ (.string z.snap)).setCell ⟨w.heap.size+1+1,6,none⟩ (.slice av nv cv)).drew):=Lib.hid (open_good (d:=⟨rm,fl,lf,false⟩) (HD.out.keep HB9.out) HB9.out HHD5.out HG1.out HG2.out HFR.out HO2.out)
         clear hz1 hg1 hr1 hz2 hg2 hz3 hb1 HB9 HG1 HG2 d0 x0 y0 d1 x1 y1 d2 x2 y2 d3 x3 y3 p0 f0 z0 p1 f1 z1 p2 f2 z2 p3 f3 z3 p4 f4 z4 p5 f5 z5 p6 f6 z6
         generalize (((((((((((w5.setCell ⟨w.heap.size+1,0,none⟩ (.int .i64 rm)).setCell ⟨w.heap.size+1,1,none⟩ (.slice a n c)).setCell ⟨w.heap.size+1,2,none⟩ (.int .i64 lf)).setCell ⟨w.heap.size+1,3,none⟩ (.bool false)).setCell ⟨w.heap.size+1+1,0,none⟩ (.int .i64 z.term)).setCell ⟨w.heap.size+1+1,1,none⟩ (.int .i64 z.vote)).setCell ⟨w.heap.size+1+1,2,none⟩ (.int .i64 z.base)).setCell ⟨w.heap.size+1+1,3,none⟩ (.int .i64 z.bt)).setCell ⟨w.heap.size+1+1,4,none⟩ (.slice ar nr cr)).setCell ⟨w.heap.size+1+1,5,none⟩ (.string z.snap)).setCell ⟨w.heap.size+1+1,6,none⟩ (.slice av nv cv)).drew=w9 at *
         go_wp2_with fail
         (try simp only [Exit.inBlock,Exit.then])
         refine bodyPost_ret (v:=.tuple #[.agg #[.int .i64 rm,.slice a n c,.int .i64 lf,.bool false],.agg #[.int .i64 z.term,.int .i64 z.vote,.int .i64 z.base,.int .i64 z.bt,.slice ar nr cr,.string z.snap,.slice av nv cv],.int .i64 0]) ?_ rfl ?_
         ·exact results_three (p:=2) (q:=3) (u:=4) rfl _ _ (w.heap.size+1) (w.heap.size+1+1) 38 42 _ _ _ _ rfl rfl HZ3.out HZ2.out Tryz.underlying38 Tryz.underlying42 rfl rfl (by kernel_rfl) (by kernel_rfl)
         ·exact HOUT.out
        ·have hendI:¬ ((tk:Int)=(r1.size:Int)):=by omega
         have HO2:Hid (o=if (anewS (⟨rm,fl,lf,false⟩:Dk) z).2=0 then ⟨(anewS (⟨rm,fl,lf,false⟩:Dk) z).1,z,0⟩ else ⟨(anewS (⟨rm,fl,lf,false⟩:Dk) z).1,Hd.zero,(anewS (⟨rm,fl,lf,false⟩:Dk) z).2⟩):=Lib.hid (by rw [HO.out,if_neg hend])
         have hcall:=Lib.hid (anew_all a n c ⟨rm,fl,lf,false⟩ z ar nr cr av nv cv w5 (HD.out.keep HST5.out.bel) HHD5.out (HT.out _ HST5.out.bel) HRZ.out)
         obtain⟨X,hX⟩:∃ X,X=anewS ⟨rm,fl,lf,false⟩ z:=⟨_,rfl⟩
         rw [← hX] at hcall HO2
         clear hX HO hend
         obtain⟨⟨xr,xf,xl,xd⟩,xe⟩:=X
         unfold Dk.val Hd.val at hcall
         dsimp only at hcall HO2
         have d0:=HST5.out.db.cell (j:=0) rfl; have d1:=HST5.out.db.cell (j:=1) rfl; have d2:=HST5.out.db.cell (j:=2) rfl; have d3:=HST5.out.db.cell (j:=3) rfl
         have z0:=HB5.out.cell (j:=0) rfl; have z1:=HB5.out.cell (j:=1) rfl; have z2:=HB5.out.cell (j:=2) rfl; have z3:=HB5.out.cell (j:=3) rfl; have z4:=HB5.out.cell (j:=4) rfl; have z5:=HB5.out.cell (j:=5) rfl; have z6:=HB5.out.cell (j:=6) rfl
         dsimp only at d0 d1 d2 d3
         go_wp2_with fail
         refine hcall.out.mono ?_
         rintro e w6 ⟨a6,n6,c6,rfl,hd6,hb6⟩
         unfold Dk.val
         dsimp only at hd6 ⊢
         have HST6:=Lib.hid (HST5.out.keep hb6)
         have HB6:=Lib.hid (HB5.out.keep hb6)
         have HHD6:=Lib.hid (HHD5.out.keep hb6)
         have HDX6:=Lib.hid hd6
         clear d0 d1 d2 d3 z0 z1 z2 z3 z4 z5 z6 hcall HST5 HB5 HHD5 hb6 hd6
         have d0:=HST6.out.db.cell (j:=0) rfl; have d1:=HST6.out.db.cell (j:=1) rfl; have d2:=HST6.out.db.cell (j:=2) rfl; have d3:=HST6.out.db.cell (j:=3) rfl
         have f0:=HST6.out.db.free 0; have f1:=HST6.out.db.free 1; have f2:=HST6.out.db.free 2; have f3:=HST6.out.db.free 3
         go_upto_region 14 with fail
         have hg7:=grown_four w6 w.heap.size (.int .i64 xr) (.slice a6 n6 c6) (.int .i64 xl) (.bool xd)
         have hb7:=blk_four HST6.out.db (.int .i64 xr) (.slice a6 n6 c6) (.int .i64 xl) (.bool xd)
         have HPW2:=HPW.out
         have HST7:Hid (OpSt w ((((w6.setCell ⟨w.heap.size,0,none⟩ (.int .i64 xr)).setCell ⟨w.heap.size,1,none⟩ (.slice a6 n6 c6)).setCell ⟨w.heap.size,2,none⟩ (.int .i64 xl)).setCell ⟨w.heap.size,3,none⟩ (.bool xd)) ⟨xr,xf,xl,xd⟩ a6 n6 c6):=Lib.hid ⟨HST6.out.bel.grown hg7 HST6.out.bel.size (fun q e=>Nat.le_of_eq (Option.some.inj e)),hb7,HST6.out.rd.kept hg7 (fun e=>by have:=Option.some.inj e; omega),HST6.out.rh.kept hg7 (fun e=>by have:=Option.some.inj e; omega)⟩
         have HB7:=Lib.hid (HB6.out.kept hg7 (fun e=>by have:=Option.some.inj e; omega))
         have HDX7:=Lib.hid (dk_apart HDX6.out HST6.out.db apart_four hg7)
         have HHD7:=Lib.hid (hdAt_kept HHD6.out hg7 (fun q e he=>by have h1:=HFR.out.1 q e; have:=Option.some.inj he; omega) (fun q e he=>by have h1:=HFR.out.2 q e; have:=Option.some.inj he; omega))
         clear d0 d1 d2 d3 f0 f1 f2 f3 hg7 hb7 HST6 HB6 HDX6 HHD6 hendI
         generalize ((((w6.setCell ⟨w.heap.size,0,none⟩ (.int .i64 xr)).setCell ⟨w.heap.size,1,none⟩ (.slice a6 n6 c6)).setCell ⟨w.heap.size,2,none⟩ (.int .i64 xl)).setCell ⟨w.heap.size,3,none⟩ (.bool xd))=w7 at *
         by_cases hxe:xe=0
         ·subst hxe
          have HO3:Hid (o=⟨⟨xr,xf,xl,xd⟩,z,0⟩):=Lib.hid (HO2.out.trans (if_pos rfl))
          clear HO2
          go_upto_region 16 with fail
          have d0:=HST7.out.db.cell (j:=0) rfl
          have x0:=HST7.out.rd.cell (j:=0) rfl
          have y0:=HST7.out.rd.free 0
          have d1:=HST7.out.db.cell (j:=1) rfl
          have x1:=HST7.out.rd.cell (j:=1) rfl
          have y1:=HST7.out.rd.free 1
          have d2:=HST7.out.db.cell (j:=2) rfl
          have x2:=HST7.out.rd.cell (j:=2) rfl
          have y2:=HST7.out.rd.free 2
          have d3:=HST7.out.db.cell (j:=3) rfl
          have x3:=HST7.out.rd.cell (j:=3) rfl
          have y3:=HST7.out.rd.free 3
          have p0:=HST7.out.rh.cell (j:=0) rfl
          have f0:=HST7.out.rh.free 0
          have z0:=HB7.out.cell (j:=0) rfl
          have p1:=HST7.out.rh.cell (j:=1) rfl
          have f1:=HST7.out.rh.free 1
          have z1:=HB7.out.cell (j:=1) rfl
          have p2:=HST7.out.rh.cell (j:=2) rfl
          have f2:=HST7.out.rh.free 2
          have z2:=HB7.out.cell (j:=2) rfl
          have p3:=HST7.out.rh.cell (j:=3) rfl
          have f3:=HST7.out.rh.free 3
          have z3:=HB7.out.cell (j:=3) rfl
          have p4:=HST7.out.rh.cell (j:=4) rfl
          have f4:=HST7.out.rh.free 4
          have z4:=HB7.out.cell (j:=4) rfl
          have p5:=HST7.out.rh.cell (j:=5) rfl
          have f5:=HST7.out.rh.free 5
          have z5:=HB7.out.cell (j:=5) rfl
          have p6:=HST7.out.rh.cell (j:=6) rfl
          have f6:=HST7.out.rh.free 6
          have z6:=HB7.out.cell (j:=6) rfl
          dsimp only at d0 d1 d2 d3
          have n1:w.heap.size+1≠w4.heap.size:=by have:=HPW.out; omega
          have n2:w.heap.size+1+1≠w4.heap.size:=by have:=HPW.out; omega
          have n3:w4.heap.size≠w.heap.size+1:=by have:=HPW.out; omega
          have n4:w4.heap.size≠w.heap.size+1+1:=by have:=HPW.out; omega
          generalize w4.heap.size=pb at *
          go_region
          have hz1:=blk_four HST7.out.rd (.int .i64 xr) (.slice a6 n6 c6) (.int .i64 xl) (.bool xd)
          have hg1:=grown_four w7 (w.heap.size+1) (.int .i64 xr) (.slice a6 n6 c6) (.int .i64 xl) (.bool xd)
          have hr1:Blk ((((w7.setCell ⟨w.heap.size+1,0,none⟩ (.int .i64 xr)).setCell ⟨w.heap.size+1,1,none⟩ (.slice a6 n6 c6)).setCell ⟨w.heap.size+1,2,none⟩ (.int .i64 xl)).setCell ⟨w.heap.size+1,3,none⟩ (.bool xd)) (w.heap.size+1+1) 42 [.int .i64 0,.int .i64 0,.int .i64 0,.int .i64 0,.slice none 0 0,.string ⟨#[]⟩,.slice none 0 0]:=HST7.out.rh.kept hg1 (fun e=>by have:=Option.some.inj e; omega)
          have hz2:=blk_seven hr1 (.int .i64 z.term) (.int .i64 z.vote) (.int .i64 z.base) (.int .i64 z.bt) (.slice ar nr cr) (.string z.snap) (.slice av nv cv)
          have hg2:=grown_seven ((((w7.setCell ⟨w.heap.size+1,0,none⟩ (.int .i64 xr)).setCell ⟨w.heap.size+1,1,none⟩ (.slice a6 n6 c6)).setCell ⟨w.heap.size+1,2,none⟩ (.int .i64 xl)).setCell ⟨w.heap.size+1,3,none⟩ (.bool xd)) (w.heap.size+1+1) (.int .i64 z.term) (.int .i64 z.vote) (.int .i64 z.base) (.int .i64 z.bt) (.slice ar nr cr) (.string z.snap) (.slice av nv cv)
          have hz3:=hz1.kept hg2 (fun e=>by have:=Option.some.inj e; omega)
          have hb1:Below w.heap.size w ((((w7.setCell ⟨w.heap.size+1,0,none⟩ (.int .i64 xr)).setCell ⟨w.heap.size+1,1,none⟩ (.slice a6 n6 c6)).setCell ⟨w.heap.size+1,2,none⟩ (.int .i64 xl)).setCell ⟨w.heap.size+1,3,none⟩ (.bool xd)):=HST7.out.bel.grown hg1 HST7.out.bel.size (fun q e=>by have:=Option.some.inj e; omega)
          have HB9:Hid (Below w.heap.size w (((((((((((w7.setCell ⟨w.heap.size+1,0,none⟩ (.int .i64 xr)).setCell ⟨w.heap.size+1,1,none⟩ (.slice a6 n6 c6)).setCell ⟨w.heap.size+1,2,none⟩ (.int .i64 xl)).setCell ⟨w.heap.size+1,3,none⟩ (.bool xd)).setCell ⟨w.heap.size+1+1,0,none⟩ (.int .i64 z.term)).setCell ⟨w.heap.size+1+1,1,none⟩ (.int .i64 z.vote)).setCell ⟨w.heap.size+1+1,2,none⟩ (.int .i64 z.base)).setCell ⟨w.heap.size+1+1,3,none⟩ (.int .i64 z.bt)).setCell ⟨w.heap.size+1+1,4,none⟩ (.slice ar nr cr)).setCell ⟨w.heap.size+1+1,5,none⟩ (.string z.snap)).setCell ⟨w.heap.size+1+1,6,none⟩ (.slice av nv cv)).drew):=Lib.hid (hb1.grown hg2 hb1.size (fun q e=>by have:=Option.some.inj e; omega)).drew
          have HG1:=Lib.hid hg1
          have HG2:Hid (((((w7.setCell ⟨w.heap.size+1,0,none⟩ (.int .i64 xr)).setCell ⟨w.heap.size+1,1,none⟩ (.slice a6 n6 c6)).setCell ⟨w.heap.size+1,2,none⟩ (.int .i64 xl)).setCell ⟨w.heap.size+1,3,none⟩ (.bool xd)).grownBy (((((((((((w7.setCell ⟨w.heap.size+1,0,none⟩ (.int .i64 xr)).setCell ⟨w.heap.size+1,1,none⟩ (.slice a6 n6 c6)).setCell ⟨w.heap.size+1,2,none⟩ (.int .i64 xl)).setCell ⟨w.heap.size+1,3,none⟩ (.bool xd)).setCell ⟨w.heap.size+1+1,0,none⟩ (.int .i64 z.term)).setCell ⟨w.heap.size+1+1,1,none⟩ (.int .i64 z.vote)).setCell ⟨w.heap.size+1+1,2,none⟩ (.int .i64 z.base)).setCell ⟨w.heap.size+1+1,3,none⟩ (.int .i64 z.bt)).setCell ⟨w.heap.size+1+1,4,none⟩ (.slice ar nr cr)).setCell ⟨w.heap.size+1+1,5,none⟩ (.string z.snap)).setCell ⟨w.heap.size+1+1,6,none⟩ (.slice av nv cv)).drew (some (w.heap.size+1+1))):=Lib.hid (grown_drewN hg2 1)
          have HZ3:Hid (Blk (((((((((((w7.setCell ⟨w.heap.size+1,0,none⟩ (.int .i64 xr)).setCell ⟨w.heap.size+1,1,none⟩ (.slice a6 n6 c6)).setCell ⟨w.heap.size+1,2,none⟩ (.int .i64 xl)).setCell ⟨w.heap.size+1,3,none⟩ (.bool xd)).setCell ⟨w.heap.size+1+1,0,none⟩ (.int .i64 z.term)).setCell ⟨w.heap.size+1+1,1,none⟩ (.int .i64 z.vote)).setCell ⟨w.heap.size+1+1,2,none⟩ (.int .i64 z.base)).setCell ⟨w.heap.size+1+1,3,none⟩ (.int .i64 z.bt)).setCell ⟨w.heap.size+1+1,4,none⟩ (.slice ar nr cr)).setCell ⟨w.heap.size+1+1,5,none⟩ (.string z.snap)).setCell ⟨w.heap.size+1+1,6,none⟩ (.slice av nv cv)).drew (w.heap.size+1) 38 [.int .i64 xr,.slice a6 n6 c6,.int .i64 xl,.bool xd]):=Lib.hid (Blk.drewN hz3 1)
          have HZ2:Hid (Blk (((((((((((w7.setCell ⟨w.heap.size+1,0,none⟩ (.int .i64 xr)).setCell ⟨w.heap.size+1,1,none⟩ (.slice a6 n6 c6)).setCell ⟨w.heap.size+1,2,none⟩ (.int .i64 xl)).setCell ⟨w.heap.size+1,3,none⟩ (.bool xd)).setCell ⟨w.heap.size+1+1,0,none⟩ (.int .i64 z.term)).setCell ⟨w.heap.size+1+1,1,none⟩ (.int .i64 z.vote)).setCell ⟨w.heap.size+1+1,2,none⟩ (.int .i64 z.base)).setCell ⟨w.heap.size+1+1,3,none⟩ (.int .i64 z.bt)).setCell ⟨w.heap.size+1+1,4,none⟩ (.slice ar nr cr)).setCell ⟨w.heap.size+1+1,5,none⟩ (.string z.snap)).setCell ⟨w.heap.size+1+1,6,none⟩ (.slice av nv cv)).drew (w.heap.size+1+1) 42 [.int .i64 z.term,.int .i64 z.vote,.int .i64 z.base,.int .i64 z.bt,.slice ar nr cr,.string z.snap,.slice av nv cv]):=Lib.hid (Blk.drewN hz2 1)
          have HOUT:Hid (OpenP w o (.returned (.tuple #[.agg #[.int .i64 xr,.slice a6 n6 c6,.int .i64 xl,.bool xd],.agg #[.int .i64 z.term,.int .i64 z.vote,.int .i64 z.base,.int .i64 z.bt,.slice ar nr cr,.string z.snap,.slice av nv cv],.int .i64 0])) (((((((((((w7.setCell ⟨w.heap.size+1,0,none⟩ (.int .i64 xr)).setCell ⟨w.heap.size+1,1,none⟩ (.slice a6 n6 c6)).setCell ⟨w.heap.size+1,2,none⟩ (.int .i64 xl)).setCell ⟨w.heap.size+1,3,none⟩ (.bool xd)).setCell ⟨w.heap.size+1+1,0,none⟩ (.int .i64 z.term)).setCell ⟨w.heap.size+1+1,1,none⟩ (.int .i64 z.vote)).setCell ⟨w.heap.size+1+1,2,none⟩ (.int .i64 z.base)).setCell ⟨w.heap.size+1+1,3,none⟩ (.int .i64 z.bt)).setCell ⟨w.heap.size+1+1,4,none⟩ (.slice ar nr cr)).setCell ⟨w.heap.size+1+1,5,none⟩ (.string z.snap)).setCell ⟨w.heap.size+1+1,6,none⟩ (.slice av nv cv)).drew):=Lib.hid (open_good (d:=⟨xr,xf,xl,xd⟩) (DkAt.keep (dk_apart (dk_apart HDX7.out HST7.out.rd apart_four hg1) hr1 apart_seven hg2) (Below.refl _ _).drew) HB9.out HHD7.out HG1.out HG2.out HFR.out HO3.out)
          clear hz1 hg1 hr1 hz2 hg2 hz3 hb1 HB9 HG1 HG2 d0 x0 y0 d1 x1 y1 d2 x2 y2 d3 x3 y3 p0 f0 z0 p1 f1 z1 p2 f2 z2 p3 f3 z3 p4 f4 z4 p5 f5 z5 p6 f6 z6
          generalize (((((((((((w7.setCell ⟨w.heap.size+1,0,none⟩ (.int .i64 xr)).setCell ⟨w.heap.size+1,1,none⟩ (.slice a6 n6 c6)).setCell ⟨w.heap.size+1,2,none⟩ (.int .i64 xl)).setCell ⟨w.heap.size+1,3,none⟩ (.bool xd)).setCell ⟨w.heap.size+1+1,0,none⟩ (.int .i64 z.term)).setCell ⟨w.heap.size+1+1,1,none⟩ (.int .i64 z.vote)).setCell ⟨w.heap.size+1+1,2,none⟩ (.int .i64 z.base)).setCell ⟨w.heap.size+1+1,3,none⟩ (.int .i64 z.bt)).setCell ⟨w.heap.size+1+1,4,none⟩ (.slice ar nr cr)).setCell ⟨w.heap.size+1+1,5,none⟩ (.string z.snap)).setCell ⟨w.heap.size+1+1,6,none⟩ (.slice av nv cv)).drew=w9 at *
          go_wp2_with fail
          (try simp only [Exit.inBlock,Exit.then])
          refine bodyPost_ret (v:=.tuple #[.agg #[.int .i64 xr,.slice a6 n6 c6,.int .i64 xl,.bool xd],.agg #[.int .i64 z.term,.int .i64 z.vote,.int .i64 z.base,.int .i64 z.bt,.slice ar nr cr,.string z.snap,.slice av nv cv],.int .i64 0]) ?_ rfl ?_
          ·exact results_three (p:=2) (q:=3) (u:=4) rfl _ _ (w.heap.size+1) (w.heap.size+1+1) 38 42 _ _ _ _ rfl rfl HZ3.out HZ2.out Tryz.underlying38 Tryz.underlying42 rfl rfl (by kernel_rfl) (by kernel_rfl)
          ·exact HOUT.out
         ·have HO3:Hid (o=⟨⟨xr,xf,xl,xd⟩,Hd.zero,xe⟩):=Lib.hid (HO2.out.trans (if_neg hxe))
          have hxe2:(xe != 0)=true:=by simpa using hxe
          clear HO2 HB7 HHD7
          have d0:=HST7.out.db.cell (j:=0) rfl
          have x0:=HST7.out.rd.cell (j:=0) rfl
          have y0:=HST7.out.rd.free 0
          have d1:=HST7.out.db.cell (j:=1) rfl
          have x1:=HST7.out.rd.cell (j:=1) rfl
          have y1:=HST7.out.rd.free 1
          have d2:=HST7.out.db.cell (j:=2) rfl
          have x2:=HST7.out.rd.cell (j:=2) rfl
          have y2:=HST7.out.rd.free 2
          have d3:=HST7.out.db.cell (j:=3) rfl
          have x3:=HST7.out.rd.cell (j:=3) rfl
          have y3:=HST7.out.rd.free 3
          have p0:=HST7.out.rh.cell (j:=0) rfl
          have f0:=HST7.out.rh.free 0
          have p1:=HST7.out.rh.cell (j:=1) rfl
          have f1:=HST7.out.rh.free 1
          have p2:=HST7.out.rh.cell (j:=2) rfl
          have f2:=HST7.out.rh.free 2
          have p3:=HST7.out.rh.cell (j:=3) rfl
          have f3:=HST7.out.rh.free 3
          have p4:=HST7.out.rh.cell (j:=4) rfl
          have f4:=HST7.out.rh.free 4
          have p5:=HST7.out.rh.cell (j:=5) rfl
          have f5:=HST7.out.rh.free 5
          have p6:=HST7.out.rh.cell (j:=6) rfl
          have f6:=HST7.out.rh.free 6
          go_wp2_with fail
          (try simp only [Exit.inBlock,Exit.then])
          have hz1:=blk_four HST7.out.rd (.int .i64 xr) (.slice a6 n6 c6) (.int .i64 xl) (.bool xd)
          have hg1:=grown_four w7 (w.heap.size+1) (.int .i64 xr) (.slice a6 n6 c6) (.int .i64 xl) (.bool xd)
          have hr1:Blk ((((w7.setCell ⟨w.heap.size+1,0,none⟩ (.int .i64 xr)).setCell ⟨w.heap.size+1,1,none⟩ (.slice a6 n6 c6)).setCell ⟨w.heap.size+1,2,none⟩ (.int .i64 xl)).setCell ⟨w.heap.size+1,3,none⟩ (.bool xd)) (w.heap.size+1+1) 42 [.int .i64 0,.int .i64 0,.int .i64 0,.int .i64 0,.slice none 0 0,.string ⟨#[]⟩,.slice none 0 0]:=HST7.out.rh.kept hg1 (fun e=>by have:=Option.some.inj e; omega)
          have hz2:=blk_seven hr1 (.int .i64 0) (.int .i64 0) (.int .i64 0) (.int .i64 0) (.slice none 0 0) (.string ⟨#[]⟩) (.slice none 0 0)
          have hg2:=grown_seven ((((w7.setCell ⟨w.heap.size+1,0,none⟩ (.int .i64 xr)).setCell ⟨w.heap.size+1,1,none⟩ (.slice a6 n6 c6)).setCell ⟨w.heap.size+1,2,none⟩ (.int .i64 xl)).setCell ⟨w.heap.size+1,3,none⟩ (.bool xd)) (w.heap.size+1+1) (.int .i64 0) (.int .i64 0) (.int .i64 0) (.int .i64 0) (.slice none 0 0) (.string ⟨#[]⟩) (.slice none 0 0)
          have hz3:=hz1.kept hg2 (fun e=>by have:=Option.some.inj e; omega)
          have hb1:Below w.heap.size w ((((w7.setCell ⟨w.heap.size+1,0,none⟩ (.int .i64 xr)).setCell ⟨w.heap.size+1,1,none⟩ (.slice a6 n6 c6)).setCell ⟨w.heap.size+1,2,none⟩ (.int .i64 xl)).setCell ⟨w.heap.size+1,3,none⟩ (.bool xd)):=HST7.out.bel.grown hg1 HST7.out.bel.size (fun q e=>by have:=Option.some.inj e; omega)
          have HB9:=Lib.hid (hb1.grown hg2 hb1.size (fun q e=>by have:=Option.some.inj e; omega))
          have HG1:=Lib.hid hg1
          have HG2:=Lib.hid hg2
          have HDX9:=Lib.hid (dk_apart (dk_apart HDX7.out HST7.out.rd apart_four hg1) hr1 apart_seven hg2)
          refine bodyPost_ret (v:=.tuple #[.agg #[.int .i64 xr,.slice a6 n6 c6,.int .i64 xl,.bool xd],.agg #[.int .i64 0,.int .i64 0,.int .i64 0,.int .i64 0,.slice none 0 0,.string ⟨#[]⟩,.slice none 0 0],.int .i64 xe]) ?_ rfl ?_
          ·exact results_three (p:=2) (q:=3) (u:=4) rfl _ _ (w.heap.size+1) (w.heap.size+1+1) 38 42 _ _ _ _ rfl rfl hz3 hz2 Tryz.underlying38 Tryz.underlying42 rfl rfl (by kernel_rfl) (by kernel_rfl)
          ·exact open_zero (d:=⟨xr,xf,xl,xd⟩) HDX9.out HB9.out HO3.out
end Go.Proofs.YtlpgbmaoenncjaaGreatDoor
