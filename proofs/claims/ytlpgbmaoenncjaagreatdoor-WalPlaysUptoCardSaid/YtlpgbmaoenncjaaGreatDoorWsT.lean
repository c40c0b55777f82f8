/-
  The walk of wal.steps: calls on a disk, as far as they go; where one is refused the disk is as it was ahead of it.
-/
import Derived.Test.YtlpgbmaoenncjaaGreatDoorWsOne
import Derived.Test.YtlpgbmaoenncjaaGreatDoorDkTwo
import Derived.Defers
namespace Go.Proofs.YtlpgbmaoenncjaaGreatDoor
open Go.RowKit
set_option linter.unusedVariables false
set_option maxRecDepth 100000
def noStr (v:Value):Prop:=∀ s,v ≠ .string s
theorem DkAt.apart {w:World}{a:Option Addr}{n c:Nat}{d:Dk}(h:DkAt w a n c d) {b:Nat}(hb:∀ j s,w.cell? ⟨b,j,none⟩≠some (.string s)) (w':World) (hk:∀ i,i≠b→w'.heap[i]? = w.heap[i]?):DkAt w' a n c d:=by
 refine { h with sl:=⟨h.sl.1,?_⟩ }
 rcases h.sl.2 with h0 | ⟨b',off,ha,hc⟩
 ·exact .inl h0
 ·by_cases h0:d.files=[]
  ·exact .inl h0
  ·refine .inr ⟨b',off,ha,fun i hi j u hu=>?_⟩
   have hlt:0<d.files.length:=List.length_pos_iff.2 h0
   have hne:b'≠b:=fun e=>by
    subst e
    exact hb _ _ (hc 0 hlt 0 (.string d.files[0].nm) rfl)
   have:=hc i hi j u hu
   unfold World.cell? at this ⊢
   rw [hk b' hne]
   exact this
theorem DkAt.setF {w:World}{a:Option Addr}{n c:Nat}{d:Dk}(h:DkAt w a n c d) {b:Nat}{t:TypeId}{v0 v1 v2 v3:Value}(hf:Four w b t v0 v1 v2 v3) (h0:noStr v0) (h1:noStr v1) (h2:noStr v2) (h3:noStr v3) (u0 u1 u2 u3:Value) :
 DkAt ((((w.setCell ⟨b,0,none⟩ u0).setCell ⟨b,1,none⟩ u1).setCell ⟨b,2,none⟩ u2).setCell ⟨b,3,none⟩ u3) a n c d:=by
 refine h.apart (b:=b) (fun j s e=>?_) _ (fun i hi=>(((Below.heap_setCell _ ⟨b,3,none⟩ u3 i hi).trans (Below.heap_setCell _ ⟨b,2,none⟩ u2 i hi)).trans (Below.heap_setCell _ ⟨b,1,none⟩ u1 i hi)).trans (Below.heap_setCell _ ⟨b,0,none⟩ u0 i hi))
 unfold World.cell? at e
 rw [hf] at e
 match j with
 | 0=>exact h0 s (by simpa using e)
 | 1=>exact h1 s (by simpa using e)
 | 2=>exact h2 s (by simpa using e)
 | 3=>exact h3 s (by simpa using e)
 | j+4=>simp at e
theorem DkAt.setO {w:World}{a:Option Addr}{n c:Nat}{d:Dk}(h:DkAt w a n c d) {b:Nat}{t:TypeId}{v:Value}(hf:One w b t v) (h0:noStr v) (u:Value):DkAt (w.setCell ⟨b,0,none⟩ u) a n c d:=by
 refine h.apart (b:=b) (fun j s e=>?_) _ (fun i hi=>Below.heap_setCell _ ⟨b,0,none⟩ u i hi)
 unfold World.cell? at e
 rw [hf] at e
 match j with
 | 0=>exact h0 s (by simpa using e)
 | j+1=>simp at e
theorem dk_noStr (d:Dk) (a:Option Addr) (n c:Nat):noStr (.int .i64 d.room)∧noStr (.slice a n c)∧noStr (.int .i64 d.left)∧noStr (.bool d.down):=⟨fun s e=>(by cases e),fun s e=>(by cases e),fun s e=>(by cases e),fun s e=>(by cases e)⟩
theorem DkBox.setF {w:World}{b:Nat}{d:Dk}{a:Option Addr}{n c:Nat}(h:DkBox w b d a n c) (d':Dk) (a':Option Addr) (n' c':Nat) :
 DkBox ((((w.setCell ⟨b,0,none⟩ (.int .i64 d'.room)).setCell ⟨b,1,none⟩ (.slice a' n' c')).setCell ⟨b,2,none⟩ (.int .i64 d'.left)).setCell ⟨b,3,none⟩ (.bool d'.down)) b d' a' n' c':=Four.all h _ _ _ _
theorem DkAt.setD {w:World}{a:Option Addr}{n c:Nat}{d:Dk}(h:DkAt w a n c d) {b:Nat}{e:Dk}{a1:Option Addr}{n1 c1:Nat}(hf:DkBox w b e a1 n1 c1) (u0 u1 u2 u3:Value) :
 DkAt ((((w.setCell ⟨b,0,none⟩ u0).setCell ⟨b,1,none⟩ u1).setCell ⟨b,2,none⟩ u2).setCell ⟨b,3,none⟩ u3) a n c d :=
 h.setF hf (dk_noStr e a1 n1 c1).1 (dk_noStr e a1 n1 c1).2.1 (dk_noStr e a1 n1 c1).2.2.1 (dk_noStr e a1 n1 c1).2.2.2 u0 u1 u2 u3
theorem Four.sets {w:World}{b b':Nat}{t:TypeId}{v0 v1 v2 v3:Value}(h:Four w b t v0 v1 v2 v3) (hn:b≠b') (u0 u1 u2 u3:Value) :
 Four ((((w.setCell ⟨b',0,none⟩ u0).setCell ⟨b',1,none⟩ u1).setCell ⟨b',2,none⟩ u2).setCell ⟨b',3,none⟩ u3) b t v0 v1 v2 v3 :=
 h.kept (grown_four w b' u0 u1 u2 u3) (fun e=>hn (Option.some.inj e))
theorem Four.setO {w:World}{b b':Nat}{t:TypeId}{v0 v1 v2 v3:Value}(h:Four w b t v0 v1 v2 v3) (hn:b≠b') (u:Value):Four (w.setCell ⟨b',0,none⟩ u) b t v0 v1 v2 v3 :=
 h.kept (grown_setCell w b' 0 u) (fun e=>hn (Option.some.inj e))
theorem One.sets {w:World}{b b':Nat}{t:TypeId}{v:Value}(h:One w b t v) (hn:b≠b') (u0 u1 u2 u3:Value) :
 One ((((w.setCell ⟨b',0,none⟩ u0).setCell ⟨b',1,none⟩ u1).setCell ⟨b',2,none⟩ u2).setCell ⟨b',3,none⟩ u3) b t v :=
 h.grown (grown_four w b' u0 u1 u2 u3) (fun e=>hn (Option.some.inj e))
theorem RetDk.mk {w w':World}{d:Dk}{a:Option Addr}{n c:Nat}{x:Int}(h:DkAt w' a n c d) (hb:Below w.heap.size w w'):RetDk w (d,x) (.returned (.tuple #[.agg #[.int .i64 d.room,.slice a n c,.int .i64 d.left,.bool d.down],.int .i64 x])) w':=⟨a,n,c,rfl,h,hb⟩
theorem sdefer_ok (bp lp op:Nat) (bad:Int) (u:FrameMode) (w:World) (hb:w.cell? ⟨bp,0,none⟩=some (.int .i64 bad)) (h:bad=0∨bad=132) :
 CallsD Tryz.prog 101 #[.pointer (some ⟨bp,0,none⟩),.pointer (some ⟨lp,0,none⟩),.pointer (some ⟨op,0,none⟩)] u w fun e u' w'=>u'=u∧(e = .returned (.tuple #[])∧w'=w):=by
 rcases h with rfl | rfl
 ·go_enter_d Tryz.func101,Tryz.ntmps101
  go_wp2
  go_end0
  exact⟨rfl,rfl⟩
 ·go_enter_d Tryz.func101,Tryz.ntmps101
  go_wp2
  go_end0
  exact⟨rfl,rfl⟩
theorem sdefer_bad (bp lp op:Nat) (bad:Int) (l o:Dk) (al:Option Addr) (nl cl:Nat) (ao:Option Addr) (no co:Nat) (u:FrameMode) (w:World) (hb:w.cell? ⟨bp,0,none⟩=some (.int .i64 bad)) (h0:¬ bad=0) (h1:¬ bad=132)
 (hl:DkBox w lp l al nl cl) (ho:DkBox w op o ao no co) :
 CallsD Tryz.prog 101 #[.pointer (some ⟨bp,0,none⟩),.pointer (some ⟨lp,0,none⟩),.pointer (some ⟨op,0,none⟩)] u w fun e u' w'=>u'=u∧(e = .returned (.tuple #[]) ∧
  w'=((((w.setCell ⟨op,0,none⟩ (.int .i64 l.room)).setCell ⟨op,1,none⟩ (.slice al nl cl)).setCell ⟨op,2,none⟩ (.int .i64 l.left)).setCell ⟨op,3,none⟩ (.bool l.down))):=by
 have l0:=hl.c0; have l1:=hl.c1; have l2:=hl.c2; have l3:=hl.c3
 have o0:=ho.c0; have o1:=ho.c1; have o2:=ho.c2; have o3:=ho.c3
 have f0:=ho.free 0; have f1:=ho.free 1; have f2:=ho.free 2; have f3:=ho.free 3
 have p0:(bad != 0)=true:=by simpa using h0
 have p1:(bad != 132)=true:=by simpa using h1
 clear hl ho h0 h1
 go_enter_d Tryz.func101,Tryz.ntmps101
 go_wp2
 go_end0
 exact⟨rfl,rfl⟩
def whatB (k:Int):ByteArray:=if k=1 then ⟨#[119,114,105,116,101]⟩ else if k=2 then ⟨#[115,121,110,99]⟩ else if k=3 then ⟨#[114,101,110,97,109,101]⟩ else ⟨#[114,101,109,111,118,101]⟩
def stE:Enc Stp where
 k:=3
 enc s:=[.string (whatB s.what),.string s.nm,.string s.more]
 len _:=rfl
 one f u hu:=by
  simp at hu
  rcases hu with rfl | rfl | rfl <;> rfl
 pos:=by decide
def StOk (s:Stp):Prop:=(1≤s.what∧s.what≤4)∧s.nm.size≤maxLen∧s.more.size≤2097152
theorem st_at {w:World}{a:Option Addr}{n:Nat}{l:List Stp}(h:stE.Sl w a n l) (hn:0<n):∃ b off,a=some ⟨b,off,none⟩∧∀ (i:Nat) (hi:i<l.length),w.cell? ⟨b,off+i*3,none⟩=some (.string (whatB l[i].what))∧w.cell? ⟨b,off+i*3+1,none⟩=some (.string l[i].nm)∧w.cell? ⟨b,off+i*3+2,none⟩=some (.string l[i].more):=by
 rcases h.2 with h0 | ⟨b,off,ha,hc⟩
 ·have:=h.1; rw [h0] at this; simp at this; omega
 ·exact⟨b,off,ha,fun i hi=>⟨hc i hi 0 _ rfl,hc i hi 1 _ rfl,hc i hi 2 _ rfl⟩⟩
structure StSt (w wr:World) (d:Dk) (a:Option Addr) (n c:Nat) (l:Dk) (al:Option Addr) (nl cl:Nat) (x:Int):Prop where
 box:DkBox wr w.heap.size d a n c
 out:DkBox wr (w.heap.size+1) Dk.zero none 0 0
 bad:One wr (w.heap.size+1+1) 27 (.int .i64 x)
 last:DkBox wr (w.heap.size+1+1+1) l al nl cl
 at_:DkAt wr a n c d
 lat:DkAt wr al nl cl l
 bel:Below w.heap.size w wr
theorem StSt.keep {w wr w':World}{d:Dk}{a:Option Addr}{n c:Nat}{l:Dk}{al:Option Addr}{nl cl:Nat}{x:Int}(h:StSt w wr d a n c l al nl cl x) (hb:Below wr.heap.size wr w'):StSt w w' d a n c l al nl cl x :=
 ⟨h.box.keep hb,h.out.keep hb,h.bad.below hb,h.last.keep hb,h.at_.keep hb,h.lat.keep hb,below_then h.bel hb h.bel.size⟩
theorem StSt.setLast {w wr:World}{d:Dk}{a:Option Addr}{n c:Nat}{l:Dk}{al:Option Addr}{nl cl:Nat}{x:Int}(h:StSt w wr d a n c l al nl cl x) :
 StSt w ((((wr.setCell ⟨w.heap.size+1+1+1,0,none⟩ (.int .i64 d.room)).setCell ⟨w.heap.size+1+1+1,1,none⟩ (.slice a n c)).setCell ⟨w.heap.size+1+1+1,2,none⟩ (.int .i64 d.left)).setCell ⟨w.heap.size+1+1+1,3,none⟩ (.bool d.down)) d a n c d a n c x :=
 ⟨Four.sets h.box (by omega) _ _ _ _,Four.sets h.out (by omega) _ _ _ _,One.sets h.bad (by omega) _ _ _ _,h.last.setF d a n c,h.at_.setD h.last _ _ _ _,h.at_.setD h.last _ _ _ _,four_sets h.bel (by omega) _ _ _ _⟩
theorem StSt.setCall {w wr:World}{d:Dk}{a:Option Addr}{n c:Nat}{l:Dk}{al:Option Addr}{nl cl:Nat}{x:Int}(h:StSt w wr d a n c l al nl cl x) {e:Dk}{a':Option Addr}{n' c':Nat}(he:DkAt wr a' n' c' e) (y:Int) :
 StSt w (((((wr.setCell ⟨w.heap.size,0,none⟩ (.int .i64 e.room)).setCell ⟨w.heap.size,1,none⟩ (.slice a' n' c')).setCell ⟨w.heap.size,2,none⟩ (.int .i64 e.left)).setCell ⟨w.heap.size,3,none⟩ (.bool e.down)).setCell ⟨w.heap.size+1+1,0,none⟩ (.int .i64 y)) e a' n' c' l al nl cl y:=by
 have hb:=One.sets h.bad (b':=w.heap.size) (by omega) (.int .i64 e.room) (.slice a' n' c') (.int .i64 e.left) (.bool e.down)
 have hi:noStr (.int .i64 x):=fun s e=>(by cases e)
 exact⟨Four.setO (h.box.setF e a' n' c') (by omega) _,Four.setO (Four.sets h.out (by omega) _ _ _ _) (by omega) _,one_setCell hb,Four.setO (Four.sets h.last (by omega) _ _ _ _) (by omega) _,(he.setD h.box _ _ _ _).setO hb hi _,(h.lat.setD h.box _ _ _ _).setO hb hi _,(four_sets h.bel (Nat.le_refl _) _ _ _ _).setCell (show w.heap.size≤w.heap.size+1+1 by omega) _⟩
theorem steps_cases {d:Dk}{L:List Stp}{what:Int}{nm more:ByteArray}{r:Dk × Int}(h:r=if (callS d what nm more).2=0 then stepsS (callS d what nm more).1 L else callS d what nm more) {X:Dk × Int}(hX:callK d what nm more=X) :
 (X.2=0→stepsS X.1 L=r)∧(X.2=132→r=X)∧(X.2≠0→X.2≠132→r=(d,X.2)):=by
 unfold callS at h
 rw [hX] at h
 refine⟨fun h0=>?_,fun h0=>?_,fun h0 h1=>?_⟩
 ·rw [if_pos (show X.2=0∨X.2=132 from Or.inl h0),if_pos h0] at h; exact h.symm
 ·rw [if_pos (show X.2=0∨X.2=132 from Or.inr h0),if_neg (by rw [h0]; decide)] at h; exact h
 ·rw [if_neg (show ¬ (X.2=0∨X.2=132) from fun k=>k.elim h0 h1),if_neg (show ¬ (d,X.2).2=0 from h0)] at h; exact h
theorem results_two_cells {fn:Func}{p q:Tmp}{t u:TypeId}(h:fn.results=#[.cell p t,.cell q u]) (tmps:Array Value) (P:Program) (w:World) :
 (results fn tmps).run P w=((asAddr (tmps.getD p undef)).run P w).andThen fun a w₁=>((loadVar t a).run P w₁).andThen fun v w₂=>((asAddr (tmps.getD q undef)).run P w₂).andThen fun b w₃=>((loadVar u b).run P w₃).andThen fun x w₄=>.ok (.tuple #[v,x]) w₄:=by
 simp only [results,h]
 simp [Sem.run_bind,Result.andThen]
structure StEnd (w wr:World) (o:Dk) (a:Option Addr) (n c:Nat) (l:Dk) (al:Option Addr) (nl cl:Nat) (x:Int):Prop where
 out:DkBox wr (w.heap.size+1) o a n c
 bad:One wr (w.heap.size+1+1) 27 (.int .i64 x)
 last:DkBox wr (w.heap.size+1+1+1) l al nl cl
 at_:DkAt wr a n c o
 lat:DkAt wr al nl cl l
 bel:Below w.heap.size w wr
theorem StEnd.setOut {w wr:World}{o:Dk}{a:Option Addr}{n c:Nat}{l:Dk}{al:Option Addr}{nl cl:Nat}{x:Int}(h:StEnd w wr o a n c l al nl cl x) :
 StEnd w ((((wr.setCell ⟨w.heap.size+1,0,none⟩ (.int .i64 l.room)).setCell ⟨w.heap.size+1,1,none⟩ (.slice al nl cl)).setCell ⟨w.heap.size+1,2,none⟩ (.int .i64 l.left)).setCell ⟨w.heap.size+1,3,none⟩ (.bool l.down)) l al nl cl l al nl cl x :=
 ⟨h.out.setF l al nl cl,One.sets h.bad (by omega) _ _ _ _,Four.sets h.last (by omega) _ _ _ _,h.lat.setD h.out _ _ _ _,h.lat.setD h.out _ _ _ _,four_sets h.bel (by omega) _ _ _ _⟩
theorem StSt.ends {w wr:World}{d:Dk}{a:Option Addr}{n c:Nat}{l:Dk}{al:Option Addr}{nl cl:Nat}{x:Int}(h:StSt w wr d a n c l al nl cl x) (y:Int) :
 StEnd w (((((wr.setCell ⟨w.heap.size+1,0,none⟩ (.int .i64 d.room)).setCell ⟨w.heap.size+1,1,none⟩ (.slice a n c)).setCell ⟨w.heap.size+1,2,none⟩ (.int .i64 d.left)).setCell ⟨w.heap.size+1,3,none⟩ (.bool d.down)).setCell ⟨w.heap.size+1+1,0,none⟩ (.int .i64 y)) d a n c l al nl cl y:=by
 have hb:=One.sets h.bad (b':=w.heap.size+1) (by omega) (.int .i64 d.room) (.slice a n c) (.int .i64 d.left) (.bool d.down)
 have hi:noStr (.int .i64 x):=fun s e=>(by cases e)
 have hB:Below w.heap.size w (((((wr.setCell ⟨w.heap.size+1,0,none⟩ (.int .i64 d.room)).setCell ⟨w.heap.size+1,1,none⟩ (.slice a n c)).setCell ⟨w.heap.size+1,2,none⟩ (.int .i64 d.left)).setCell ⟨w.heap.size+1,3,none⟩ (.bool d.down)).setCell ⟨w.heap.size+1+1,0,none⟩ (.int .i64 y)):=(four_sets (b:=w.heap.size+1) h.bel (by omega) (.int .i64 d.room) (.slice a n c) (.int .i64 d.left) (.bool d.down)).setCell (show w.heap.size≤w.heap.size+1+1 by omega) (.int .i64 y)
 exact⟨Four.setO (h.out.setF d a n c) (by omega) _,one_setCell hb,Four.setO (Four.sets h.last (by omega) _ _ _ _) (by omega) _,(h.at_.setD h.out _ _ _ _).setO hb hi _,(h.lat.setD h.out _ _ _ _).setO hb hi _,hB⟩
theorem StEnd.drew {w wr:World}{o:Dk}{a:Option Addr}{n c:Nat}{l:Dk}{al:Option Addr}{nl cl:Nat}{x:Int}(h:StEnd w wr o a n c l al nl cl x):StEnd w wr.drew o a n c l al nl cl x :=
 have hb:=(Below.refl wr.heap.size wr).drew
 ⟨h.out.keep hb,h.bad.below hb,h.last.keep hb,h.at_.keep hb,h.lat.keep hb,h.bel.drew⟩
theorem DkBox.lt {w:World}{b:Nat}{d:Dk}{a:Option Addr}{n c:Nat}(h:DkBox w b d a n c):b<w.heap.size:=lt_of_block h
theorem steps_one {d:Dk}{L:List Stp}{k:Nat}(h:k<L.length):stepsS d (L.drop k)=if (callS d L[k].what L[k].nm L[k].more).2=0 then stepsS (callS d L[k].what L[k].nm L[k].more).1 (L.drop (k+1)) else callS d L[k].what L[k].nm L[k].more:=by
 rw [List.drop_eq_getElem_cons h,stepsS]
theorem steps_end {d:Dk}{L:List Stp}{k:Nat}(h:L.length≤k):stepsS d (L.drop k)=(d,0):=by
 rw [List.drop_of_length_le h,stepsS]
def startW (w:World) (d:Dk) (a:Option Addr) (n c:Nat):World :=
 (((w.alloc (.cells #[.int .i64 d.room,.slice a n c,.int .i64 d.left,.bool d.down] 38)).alloc (.cells #[.int .i64 0,.slice none 0 0,.int .i64 0,.bool false] 38)).alloc (.cells #[.int .i64 0] 27)).alloc (.cells #[.int .i64 d.room,.slice a n c,.int .i64 d.left,.bool d.down] 38)
theorem start_st {w:World}{d:Dk}{a:Option Addr}{n c:Nat}(h:DkAt w a n c d):StSt w (startW w d a n c) d a n c d a n c 0:=by
 have hb:Below w.heap.size w (startW w d a n c):=((((Below.refl _ w).alloc (Nat.le_refl _) _).alloc (by simp) _).alloc (by simp; omega) _).alloc (by simp; omega) _
 refine⟨?_,?_,?_,?_,h.keep hb,h.keep hb,hb⟩
 ·exact ((Four.new w 38 (.int .i64 d.room) (.slice a n c) (.int .i64 d.left) (.bool d.down)).alloc _ |>.alloc _ |>.alloc _)
 ·have:=Four.new (w.alloc (.cells #[.int .i64 d.room,.slice a n c,.int .i64 d.left,.bool d.down] 38)) 38 (.int .i64 0) (.slice none 0 0) (.int .i64 0) (.bool false)
  rw [World.size_alloc] at this
  exact (this.alloc _).alloc _
 ·have:=One.new ((w.alloc (.cells #[.int .i64 d.room,.slice a n c,.int .i64 d.left,.bool d.down] 38)).alloc (.cells #[.int .i64 0,.slice none 0 0,.int .i64 0,.bool false] 38)) 27 (.int .i64 0)
  rw [World.size_alloc,World.size_alloc] at this
  exact this.alloc _
 ·have:=Four.new (((w.alloc (.cells #[.int .i64 d.room,.slice a n c,.int .i64 d.left,.bool d.down] 38)).alloc (.cells #[.int .i64 0,.slice none 0 0,.int .i64 0,.bool false] 38)).alloc (.cells #[.int .i64 0] 27)) 38 (.int .i64 d.room) (.slice a n c) (.int .i64 d.left) (.bool d.down)
  rw [World.size_alloc,World.size_alloc,World.size_alloc] at this
  exact this
set_option maxHeartbeats 2000000 in
theorem steps_any (a:Option Addr) (n c:Nat) (d:Dk) (sa:Option Addr) (ns cs:Nat) (L:List Stp) (w:World) (h:DkAt w a n c d) (hL:stE.Sl w sa ns L) (hok:∀ s∈L,StOk s) (hn:ns≤1000000)
 (HW:Hid (∀ (a:Option Addr) (n c:Nat) (d:Dk) (nm more:ByteArray) (W:World),DkAt W a n c d→nm.size≤maxLen→more.size≤2097152→Calls Tryz.prog 102 #[d.val a n c,.string nm,.string more] W (RetDk W (writeD d nm more))))
 (HS:Hid (∀ (a:Option Addr) (n c:Nat) (d:Dk) (nm:ByteArray) (W:World),DkAt W a n c d→nm.size≤maxLen→Calls Tryz.prog 103 #[d.val a n c,.string nm] W (RetDk W (syncD d nm))))
 (HR:Hid (∀ (a:Option Addr) (n c:Nat) (d:Dk) (nm more:ByteArray) (W:World),DkAt W a n c d→nm.size≤maxLen→more.size≤2097152→Calls Tryz.prog 104 #[d.val a n c,.string nm,.string more] W (RetDk W (renameD d nm more))))
 (HM:Hid (∀ (a:Option Addr) (n c:Nat) (d:Dk) (nm:ByteArray) (W:World),DkAt W a n c d→nm.size≤maxLen→Calls Tryz.prog 105 #[d.val a n c,.string nm] W (RetDk W (removeD d nm)))) :
 Calls Tryz.prog 56 #[d.val a n c,.slice sa ns cs] w (RetDk w (stepsS d L)):=by
 have hmf:∀ fn first cap w,(Instr.makeFunc fn first cap).run Tryz.prog w = .ok (.func fn first cap) w:=fun _ _ _ _=>rfl
 have H0:Hid (StSt w (startW w d a n c) d a n c d a n c 0):=Lib.hid (start_st h)
 have HL:=Lib.hid hL
 have HOK:=Lib.hid hok
 have hlen:ns=L.length:=hL.1
 have HN:=Lib.hid hlen
 obtain⟨r,hr⟩:∃ r,r=stepsS d L:=⟨_,rfl⟩
 rw [← hr]
 have HR0:=Lib.hid (show stepsS d (L.drop 0)=r by rw [hr]; rfl)
 clear h hL hok hlen hr
 unfold startW at H0
 unfold Dk.val
 obtain⟨rm,fl,lf,dn⟩:=d
 dsimp only at *
 go_enter_defers Tryz.func56,Tryz.ntmps56
 go_wp2_with fail
 go_loopg [13] ns (fun gk v13 wr=>∃ (k:Nat) (d':Dk) (a':Option Addr) (n' c':Nat) (l':Dk) (al:Option Addr) (nl cl:Nat),k≤ns∧gk=ns - k∧v13 = .int .i64 (k:Int)∧Hid (StSt w wr d' a' n' c' l' al nl cl 0)∧Hid (stepsS d' (L.drop k)=r))
 case atStart=>exact⟨0,_,_,_,_,_,_,_,_,Nat.zero_le _,rfl,rfl,H0,HR0⟩
 case round =>
  obtain⟨k,d',a',n',c',l',al,nl,cl,hk,rfl,rfl,hS,hR⟩:=hrel
  by_cases hlt:k<ns
  ·have hkd:k<L.length:=by rw [← HN.out]; exact hlt
   obtain⟨b,off,rfl,hcells⟩:=st_at (HL.out.keep hS.out.bel) (by omega)
   obtain⟨c0,c1,c2⟩:=hcells k hkd
   have hki:(k:Int)<(ns:Int):=by omega
   have HST:=Lib.hid (hR.out.symm.trans (steps_one hkd))
   have HO1:=Lib.hid (HOK.out _ (List.getElem_mem hkd))
   clear hcells
   generalize L[k]=s at *
   obtain⟨sw,sn,sm⟩:=s
   dsimp only at c0 c1 c2 HST
   obtain⟨wb,hwb⟩:∃ wb,wb=whatB sw:=⟨_,rfl⟩
   rw [← hwb] at c0
   have HWB:=Lib.hid hwb
   clear hwb
   go_upto_region 6 with fail
   have hbA:Below wr.heap.size wr (wr.alloc (.cells #[.string wb,.string sn,.string sm] 96)):=(Below.refl _ wr).alloc (Nat.le_refl _) _
   have HS1:=Lib.hid (hS.out.keep hbA)
   have HV1:Hid (Blk (wr.alloc (.cells #[.string wb,.string sn,.string sm] 96)) wr.heap.size 96 [.string wb,.string sn,.string sm]):=Lib.hid (heap_alloc_new wr _)
   have hwz:w.heap.size+1+1+1<wr.heap.size:=hS.out.last.lt
   clear hS c0 c1 c2 hbA
   generalize wr.alloc (.cells #[.string wb,.string sn,.string sm] 96)=w1 at *
   generalize wr.heap.size=sb at *
   obtain⟨rm',fl',lf',dn'⟩:=d'
   have q0:=HS1.out.box.c0; have q1:=HS1.out.box.c1; have q2:=HS1.out.box.c2; have q3:=HS1.out.box.c3
   have g0:=HS1.out.last.free 0; have g1:=HS1.out.last.free 1; have g2:=HS1.out.last.free 2; have g3:=HS1.out.last.free 3
   have z0:=HS1.out.last.c0; have z1:=HS1.out.last.c1; have z2:=HS1.out.last.c2; have z3:=HS1.out.last.c3
   dsimp only at q0 q1 q2 q3
   go_upto_region 7 with fail
   have HS2:=Lib.hid (HS1.out.setLast)
   have HV2:Hid (Blk ((((w1.setCell ⟨w.heap.size+1+1+1,0,none⟩ (.int .i64 rm')).setCell ⟨w.heap.size+1+1+1,1,none⟩ (.slice a' n' c')).setCell ⟨w.heap.size+1+1+1,2,none⟩ (.int .i64 lf')).setCell ⟨w.heap.size+1+1+1,3,none⟩ (.bool dn')) sb 96 [.string wb,.string sn,.string sm]):=Lib.hid (((grown_four w1 (w.heap.size+1+1+1) (.int .i64 rm') (.slice a' n' c') (.int .i64 lf') (.bool dn')).block sb (lt_of_block HV1.out) (fun e=>by have:=Option.some.inj e; omega)).trans HV1.out)
   clear q0 q1 q2 q3 g0 g1 g2 g3 z0 z1 z2 z3 HS1 HV1 hR
   dsimp only at HS2
   generalize ((((w1.setCell ⟨w.heap.size+1+1+1,0,none⟩ (.int .i64 rm')).setCell ⟨w.heap.size+1+1+1,1,none⟩ (.slice a' n' c')).setCell ⟨w.heap.size+1+1+1,2,none⟩ (.int .i64 lf')).setCell ⟨w.heap.size+1+1+1,3,none⟩ (.bool dn'))=w2 at *
   have q0:=HS2.out.box.c0; have q1:=HS2.out.box.c1; have q2:=HS2.out.box.c2; have q3:=HS2.out.box.c3
   have v0:=HV2.out.cell (j:=0) rfl
   have v1:=HV2.out.cell (j:=1) rfl
   have v2:=HV2.out.cell (j:=2) rfl
   dsimp only at q0 q1 q2 q3
   obtain⟨⟨hw1,hw4⟩,hsn,hsm⟩:=HO1.out
   dsimp only at hw1 hw4
   have hsw:sw=1∨sw=2∨sw=3∨sw=4:=by omega
   clear HO1 hw1 hw4
   rcases hsw with rfl | rfl | rfl | rfl
   ·obtain rfl:wb=⟨#[119,114,105,116,101]⟩:=HWB.out
    have hcd:callK ⟨rm',fl',lf',dn'⟩ 1 sn sm=writeD ⟨rm',fl',lf',dn'⟩ sn sm:=rfl
    have hcall:=Lib.hid (HW.out a' n' c' ⟨rm',fl',lf',dn'⟩ sn sm w2 HS2.out.at_ hsn hsm)
    have HC:=Lib.hid (steps_cases HST.out hcd)
    dsimp only at hsn hsm
    clear hcd HST HWB hsn hsm
    generalize writeD ⟨rm',fl',lf',dn'⟩ sn sm=X at *
    go_wp2_with fail
    refine hcall.out.mono ?_
    rintro e w3 ⟨a3,n3,c3,rfl,hd3,hb3⟩
    have HS3:=Lib.hid (HS2.out.keep hb3)
    have HS4:=Lib.hid (HS3.out.setCall hd3 X.2)
    clear q0 q1 q2 q3 v0 v1 v2 HS2 HV2 hcall hd3 hb3
    obtain⟨⟨xr,xf,xl,xd⟩,x⟩:=X
    unfold Dk.val
    dsimp only at *
    have q0:=HS3.out.box.c0; have q1:=HS3.out.box.c1; have q2:=HS3.out.box.c2; have q3:=HS3.out.box.c3
    have g0:=HS3.out.box.free 0; have g1:=HS3.out.box.free 1; have g2:=HS3.out.box.free 2; have g3:=HS3.out.box.free 3
    have b0:=cell_of_one HS3.out.bad
    have d0:=free_of_one HS3.out.bad
    dsimp only at q0 q1 q2 q3
    go_upto_region 15 with fail
    clear q0 q1 q2 q3 g0 g1 g2 g3 b0 d0 HS3
    generalize (((((w3.setCell ⟨w.heap.size,0,none⟩ (.int .i64 xr)).setCell ⟨w.heap.size,1,none⟩ (.slice a3 n3 c3)).setCell ⟨w.heap.size,2,none⟩ (.int .i64 xl)).setCell ⟨w.heap.size,3,none⟩ (.bool xd)).setCell ⟨w.heap.size+1+1,0,none⟩ (.int .i64 x))=w4 at *
    have b0:=cell_of_one HS4.out.bad
    by_cases hx:x=0
    ·subst hx
     have hst:=HC.out.1 rfl
     go_wp2_with fail
     go_roundg (ns - (k+1))
     case rel=>exact⟨k+1,_,_,_,_,_,_,_,_,by omega,rfl,by go_num,HS4,Lib.hid hst⟩
     case measure=>omega
    ·have hx0:(x != 0)=true:=by simpa using hx
     have HX0:=Lib.hid hx
     clear hx
     have q0:=HS4.out.box.c0; have q1:=HS4.out.box.c1; have q2:=HS4.out.box.c2; have q3:=HS4.out.box.c3
     have o0:=HS4.out.out.c0; have o1:=HS4.out.out.c1; have o2:=HS4.out.out.c2; have o3:=HS4.out.out.c3
     have g0:=HS4.out.out.free 0; have g1:=HS4.out.out.free 1; have g2:=HS4.out.out.free 2; have g3:=HS4.out.out.free 3
     have d0:=free_of_one HS4.out.bad
     dsimp only at q0 q1 q2 q3
     go_wp2_with fail
     go_region
     have HE5:=Lib.hid (HS4.out.ends x).drew
     clear q0 q1 q2 q3 b0 o0 o1 o2 o3 g0 g1 g2 g3 d0 HS4 hx0
     dsimp only at HE5
     generalize (((((w4.setCell ⟨w.heap.size+1,0,none⟩ (.int .i64 xr)).setCell ⟨w.heap.size+1,1,none⟩ (.slice a3 n3 c3)).setCell ⟨w.heap.size+1,2,none⟩ (.int .i64 xl)).setCell ⟨w.heap.size+1,3,none⟩ (.bool xd)).setCell ⟨w.heap.size+1+1,0,none⟩ (.int .i64 x)).drew=w5 at *
     go_wp2_with fail
     by_cases hx1:x=132
     ·have hst:=HC.out.2.1 hx1
      refine leaves_cons (f:=101) (args:=#[.pointer (some ⟨w.heap.size+1+1,0,none⟩),.pointer (some ⟨w.heap.size+1+1+1,0,none⟩),.pointer (some ⟨w.heap.size+1,0,none⟩)]) (by simp) (by simp [go_sem]) ?_
      refine (sdefer_ok _ _ _ x _ _ (cell_of_one HE5.out.bad) (.inr hx1)).mono ?_
      rintro e u' w6 ⟨rfl,rfl,rfl⟩
      have o0:=HE5.out.out.c0; have o1:=HE5.out.out.c1; have o2:=HE5.out.out.c2; have o3:=HE5.out.out.c3
      have b0:=cell_of_one HE5.out.bad
      refine⟨.tuple #[.agg #[.int .i64 xr,.slice a3 n3 c3,.int .i64 xl,.bool xd],.int .i64 x],?_,?_⟩
      ·rw [results_two_cells rfl]; go_simp
      ·rw [hst]; exact RetDk.mk HE5.out.at_ HE5.out.bel
     ·have hst:=HC.out.2.2 HX0.out hx1
      refine leaves_cons (f:=101) (args:=#[.pointer (some ⟨w.heap.size+1+1,0,none⟩),.pointer (some ⟨w.heap.size+1+1+1,0,none⟩),.pointer (some ⟨w.heap.size+1,0,none⟩)]) (by simp) (by simp [go_sem]) ?_
      refine (sdefer_bad _ _ _ x _ _ _ _ _ _ _ _ _ _ (cell_of_one HE5.out.bad) HX0.out hx1 HE5.out.last HE5.out.out).mono ?_
      rintro e u' w6 ⟨rfl,rfl,rfl⟩
      have hE:=HE5.out.setOut
      have o0:=hE.out.c0; have o1:=hE.out.c1; have o2:=hE.out.c2; have o3:=hE.out.c3
      have b0:=cell_of_one hE.bad
      refine⟨.tuple #[.agg #[.int .i64 rm',.slice a' n' c',.int .i64 lf',.bool dn'],.int .i64 x],?_,?_⟩
      ·rw [results_two_cells rfl]; go_simp
      ·rw [hst]; exact RetDk.mk hE.at_ hE.bel
   ·obtain rfl:wb=⟨#[115,121,110,99]⟩:=HWB.out
    have hcd:callK ⟨rm',fl',lf',dn'⟩ 2 sn sm=syncD ⟨rm',fl',lf',dn'⟩ sn:=rfl
    have hcall:=Lib.hid (HS.out a' n' c' ⟨rm',fl',lf',dn'⟩ sn w2 HS2.out.at_ hsn)
    have HC:=Lib.hid (steps_cases HST.out hcd)
    dsimp only at hsn hsm
    clear hcd HST HWB hsn hsm
    generalize syncD ⟨rm',fl',lf',dn'⟩ sn=X at *
    go_wp2_with fail
    refine hcall.out.mono ?_
    rintro e w3 ⟨a3,n3,c3,rfl,hd3,hb3⟩
    have HS3:=Lib.hid (HS2.out.keep hb3)
    have HS4:=Lib.hid (HS3.out.setCall hd3 X.2)
    clear q0 q1 q2 q3 v0 v1 v2 HS2 HV2 hcall hd3 hb3
    obtain⟨⟨xr,xf,xl,xd⟩,x⟩:=X
    unfold Dk.val
    dsimp only at *
    have q0:=HS3.out.box.c0; have q1:=HS3.out.box.c1; have q2:=HS3.out.box.c2; have q3:=HS3.out.box.c3
    have g0:=HS3.out.box.free 0; have g1:=HS3.out.box.free 1; have g2:=HS3.out.box.free 2; have g3:=HS3.out.box.free 3
    have b0:=cell_of_one HS3.out.bad
    have d0:=free_of_one HS3.out.bad
    dsimp only at q0 q1 q2 q3
    go_upto_region 15 with fail
    clear q0 q1 q2 q3 g0 g1 g2 g3 b0 d0 HS3
    generalize (((((w3.setCell ⟨w.heap.size,0,none⟩ (.int .i64 xr)).setCell ⟨w.heap.size,1,none⟩ (.slice a3 n3 c3)).setCell ⟨w.heap.size,2,none⟩ (.int .i64 xl)).setCell ⟨w.heap.size,3,none⟩ (.bool xd)).setCell ⟨w.heap.size+1+1,0,none⟩ (.int .i64 x))=w4 at *
    have b0:=cell_of_one HS4.out.bad
    by_cases hx:x=0
    ·subst hx
     have hst:=HC.out.1 rfl
     go_wp2_with fail
     go_roundg (ns - (k+1))
     case rel=>exact⟨k+1,_,_,_,_,_,_,_,_,by omega,rfl,by go_num,HS4,Lib.hid hst⟩
     case measure=>omega
    ·have hx0:(x != 0)=true:=by simpa using hx
     have HX0:=Lib.hid hx
     clear hx
     have q0:=HS4.out.box.c0; have q1:=HS4.out.box.c1; have q2:=HS4.out.box.c2; have q3:=HS4.out.box.c3
     have o0:=HS4.out.out.c0; have o1:=HS4.out.out.c1; have o2:=HS4.out.out.c2; have o3:=HS4.out.out.c3
     have g0:=HS4.out.out.free 0; have g1:=HS4.out.out.free 1; have g2:=HS4.out.out.free 2; have g3:=HS4.out.out.free 3
     have d0:=free_of_one HS4.out.bad
     dsimp only at q0 q1 q2 q3
     go_wp2_with fail
     go_region
     have HE5:=Lib.hid (HS4.out.ends x).drew
     clear q0 q1 q2 q3 b0 o0 o1 o2 o3 g0 g1 g2 g3 d0 HS4 hx0
     dsimp only at HE5
     generalize (((((w4.setCell ⟨w.heap.size+1,0,none⟩ (.int .i64 xr)).setCell ⟨w.heap.size+1,1,none⟩ (.slice a3 n3 c3)).setCell ⟨w.heap.size+1,2,none⟩ (.int .i64 xl)).setCell ⟨w.heap.size+1,3,none⟩ (.bool xd)).setCell ⟨w.heap.size+1+1,0,none⟩ (.int .i64 x)).drew=w5 at *
     go_wp2_with fail
     by_cases hx1:x=132
     ·have hst:=HC.out.2.1 hx1
      refine leaves_cons (f:=101) (args:=#[.pointer (some ⟨w.heap.size+1+1,0,none⟩),.pointer (some ⟨w.heap.size+1+1+1,0,none⟩),.pointer (some ⟨w.heap.size+1,0,none⟩)]) (by simp) (by simp [go_sem]) ?_
      refine (sdefer_ok _ _ _ x _ _ (cell_of_one HE5.out.bad) (.inr hx1)).mono ?_
      rintro e u' w6 ⟨rfl,rfl,rfl⟩
      have o0:=HE5.out.out.c0; have o1:=HE5.out.out.c1; have o2:=HE5.out.out.c2; have o3:=HE5.out.out.c3
      have b0:=cell_of_one HE5.out.bad
      refine⟨.tuple #[.agg #[.int .i64 xr,.slice a3 n3 c3,.int .i64 xl,.bool xd],.int .i64 x],?_,?_⟩
      ·rw [results_two_cells rfl]; go_simp
      ·rw [hst]; exact RetDk.mk HE5.out.at_ HE5.out.bel
     ·have hst:=HC.out.2.2 HX0.out hx1
      refine leaves_cons (f:=101) (args:=#[.pointer (some ⟨w.heap.size+1+1,0,none⟩),.pointer (some ⟨w.heap.size+1+1+1,0,none⟩),.pointer (some ⟨w.heap.size+1,0,none⟩)]) (by simp) (by simp [go_sem]) ?_
      refine (sdefer_bad _ _ _ x _ _ _ _ _ _ _ _ _ _ (cell_of_one HE5.out.bad) HX0.out hx1 HE5.out.last HE5.out.out).mono ?_
      rintro e u' w6 ⟨rfl,rfl,rfl⟩
      have hE:=HE5.out.setOut
      have o0:=hE.out.c0; have o1:=hE.out.c1; have o2:=hE.out.c2; have o3:=hE.out.c3
      have b0:=cell_of_one hE.bad
      refine⟨.tuple #[.agg #[.int .i64 rm',.slice a' n' c',.int .i64 lf',.bool dn'],.int .i64 x],?_,?_⟩
      ·rw [results_two_cells rfl]; go_simp
      ·rw [hst]; exact RetDk.mk hE.at_ hE.bel
   ·obtain rfl:wb=⟨#[114,101,110,97,109,101]⟩:=HWB.out
    have hcd:callK ⟨rm',fl',lf',dn'⟩ 3 sn sm=renameD ⟨rm',fl',lf',dn'⟩ sn sm:=rfl
    have hcall:=Lib.hid (HR.out a' n' c' ⟨rm',fl',lf',dn'⟩ sn sm w2 HS2.out.at_ hsn hsm)
    have HC:=Lib.hid (steps_cases HST.out hcd)
    dsimp only at hsn hsm
    clear hcd HST HWB hsn hsm
    generalize renameD ⟨rm',fl',lf',dn'⟩ sn sm=X at *
    go_wp2_with fail
    refine hcall.out.mono ?_
    rintro e w3 ⟨a3,n3,c3,rfl,hd3,hb3⟩
    have HS3:=Lib.hid (HS2.out.keep hb3)
    have HS4:=Lib.hid (HS3.out.setCall hd3 X.2)
    clear q0 q1 q2 q3 v0 v1 v2 HS2 HV2 hcall hd3 hb3
    obtain⟨⟨xr,xf,xl,xd⟩,x⟩:=X
    unfold Dk.val
    dsimp only at *
    have q0:=HS3.out.box.c0; have q1:=HS3.out.box.c1; have q2:=HS3.out.box.c2; have q3:=HS3.out.box.c3
    have g0:=HS3.out.box.free 0; have g1:=HS3.out.box.free 1; have g2:=HS3.out.box.free 2; have g3:=HS3.out.box.free 3
    have b0:=cell_of_one HS3.out.bad
    have d0:=free_of_one HS3.out.bad
    dsimp only at q0 q1 q2 q3
    go_upto_region 15 with fail
    clear q0 q1 q2 q3 g0 g1 g2 g3 b0 d0 HS3
    generalize (((((w3.setCell ⟨w.heap.size,0,none⟩ (.int .i64 xr)).setCell ⟨w.heap.size,1,none⟩ (.slice a3 n3 c3)).setCell ⟨w.heap.size,2,none⟩ (.int .i64 xl)).setCell ⟨w.heap.size,3,none⟩ (.bool xd)).setCell ⟨w.heap.size+1+1,0,none⟩ (.int .i64 x))=w4 at *
    have b0:=cell_of_one HS4.out.bad
    by_cases hx:x=0
    ·subst hx
     have hst:=HC.out.1 rfl
     go_wp2_with fail
     go_roundg (ns - (k+1))
     case rel=>exact⟨k+1,_,_,_,_,_,_,_,_,by omega,rfl,by go_num,HS4,Lib.hid hst⟩
     case measure=>omega
    ·have hx0:(x != 0)=true:=by simpa using hx
     have HX0:=Lib.hid hx
     clear hx
     have q0:=HS4.out.box.c0; have q1:=HS4.out.box.c1; have q2:=HS4.out.box.c2; have q3:=HS4.out.box.c3
     have o0:=HS4.out.out.c0; have o1:=HS4.out.out.c1; have o2:=HS4.out.out.c2; have o3:=HS4.out.out.c3
     have g0:=HS4.out.out.free 0; have g1:=HS4.out.out.free 1; have g2:=HS4.out.out.free 2; have g3:=HS4.out.out.free 3
     have d0:=free_of_one HS4.out.bad
     dsimp only at q0 q1 q2 q3
     go_wp2_with fail
     go_region
     have HE5:=Lib.hid (HS4.out.ends x).drew
     clear q0 q1 q2 q3 b0 o0 o1 o2 o3 g0 g1 g2 g3 d0 HS4 hx0
     dsimp only at HE5
     generalize (((((w4.setCell ⟨w.heap.size+1,0,none⟩ (.int .i64 xr)).setCell ⟨w.heap.size+1,1,none⟩ (.slice a3 n3 c3)).setCell ⟨w.heap.size+1,2,none⟩ (.int .i64 xl)).setCell ⟨w.heap.size+1,3,none⟩ (.bool xd)).setCell ⟨w.heap.size+1+1,0,none⟩ (.int .i64 x)).drew=w5 at *
     go_wp2_with fail
     by_cases hx1:x=132
     ·have hst:=HC.out.2.1 hx1
      refine leaves_cons (f:=101) (args:=#[.pointer (some ⟨w.heap.size+1+1,0,none⟩),.pointer (some ⟨w.heap.size+1+1+1,0,none⟩),.pointer (some ⟨w.heap.size+1,0,none⟩)]) (by simp) (by simp [go_sem]) ?_
      refine (sdefer_ok _ _ _ x _ _ (cell_of_one HE5.out.bad) (.inr hx1)).mono ?_
      rintro e u' w6 ⟨rfl,rfl,rfl⟩
      have o0:=HE5.out.out.c0; have o1:=HE5.out.out.c1; have o2:=HE5.out.out.c2; have o3:=HE5.out.out.c3
      have b0:=cell_of_one HE5.out.bad
      refine⟨.tuple #[.agg #[.int .i64 xr,.slice a3 n3 c3,.int .i64 xl,.bool xd],.int .i64 x],?_,?_⟩
      ·rw [results_two_cells rfl]; go_simp
      ·rw [hst]; exact RetDk.mk HE5.out.at_ HE5.out.bel
     ·have hst:=HC.out.2.2 HX0.out hx1
      refine leaves_cons (f:=101) (args:=#[.pointer (some ⟨w.heap.size+1+1,0,none⟩),.pointer (some ⟨w.heap.size+1+1+1,0,none⟩),.pointer (some ⟨w.heap.size+1,0,none⟩)]) (by simp) (by simp [go_sem]) ?_
      refine (sdefer_bad _ _ _ x _ _ _ _ _ _ _ _ _ _ (cell_of_one HE5.out.bad) HX0.out hx1 HE5.out.last HE5.out.out).mono ?_
      rintro e u' w6 ⟨rfl,rfl,rfl⟩
      have hE:=HE5.out.setOut
      have o0:=hE.out.c0; have o1:=hE.out.c1; have o2:=hE.out.c2; have o3:=hE.out.c3
      have b0:=cell_of_one hE.bad
      refine⟨.tuple #[.agg #[.int .i64 rm',.slice a' n' c',.int .i64 lf',.bool dn'],.int .i64 x],?_,?_⟩
      ·rw [results_two_cells rfl]; go_simp
      ·rw [hst]; exact RetDk.mk hE.at_ hE.bel
   ·obtain rfl:wb=⟨#[114,101,109,111,118,101]⟩:=HWB.out
    have hcd:callK ⟨rm',fl',lf',dn'⟩ 4 sn sm=removeD ⟨rm',fl',lf',dn'⟩ sn:=rfl
    have hcall:=Lib.hid (HM.out a' n' c' ⟨rm',fl',lf',dn'⟩ sn w2 HS2.out.at_ hsn)
    have HC:=Lib.hid (steps_cases HST.out hcd)
    dsimp only at hsn hsm
    clear hcd HST HWB hsn hsm
    generalize removeD ⟨rm',fl',lf',dn'⟩ sn=X at *
    go_wp2_with fail
    refine hcall.out.mono ?_
    rintro e w3 ⟨a3,n3,c3,rfl,hd3,hb3⟩
    have HS3:=Lib.hid (HS2.out.keep hb3)
    have HS4:=Lib.hid (HS3.out.setCall hd3 X.2)
    clear q0 q1 q2 q3 v0 v1 v2 HS2 HV2 hcall hd3 hb3
    obtain⟨⟨xr,xf,xl,xd⟩,x⟩:=X
    unfold Dk.val
    dsimp only at *
    have q0:=HS3.out.box.c0; have q1:=HS3.out.box.c1; have q2:=HS3.out.box.c2; have q3:=HS3.out.box.c3
    have g0:=HS3.out.box.free 0; have g1:=HS3.out.box.free 1; have g2:=HS3.out.box.free 2; have g3:=HS3.out.box.free 3
    have b0:=cell_of_one HS3.out.bad
    have d0:=free_of_one HS3.out.bad
    dsimp only at q0 q1 q2 q3
    go_upto_region 15 with fail
    clear q0 q1 q2 q3 g0 g1 g2 g3 b0 d0 HS3
    generalize (((((w3.setCell ⟨w.heap.size,0,none⟩ (.int .i64 xr)).setCell ⟨w.heap.size,1,none⟩ (.slice a3 n3 c3)).setCell ⟨w.heap.size,2,none⟩ (.int .i64 xl)).setCell ⟨w.heap.size,3,none⟩ (.bool xd)).setCell ⟨w.heap.size+1+1,0,none⟩ (.int .i64 x))=w4 at *
    have b0:=cell_of_one HS4.out.bad
    by_cases hx:x=0
    ·subst hx
     have hst:=HC.out.1 rfl
     go_wp2_with fail
     go_roundg (ns - (k+1))
     case rel=>exact⟨k+1,_,_,_,_,_,_,_,_,by omega,rfl,by go_num,HS4,Lib.hid hst⟩
     case measure=>omega
    ·have hx0:(x != 0)=true:=by simpa using hx
     have HX0:=Lib.hid hx
     clear hx
     have q0:=HS4.out.box.c0; have q1:=HS4.out.box.c1; have q2:=HS4.out.box.c2; have q3:=HS4.out.box.c3
     have o0:=HS4.out.out.c0; have o1:=HS4.out.out.c1; have o2:=HS4.out.out.c2; have o3:=HS4.out.out.c3
     have g0:=HS4.out.out.free 0; have g1:=HS4.out.out.free 1; have g2:=HS4.out.out.free 2; have g3:=HS4.out.out.free 3
     have d0:=free_of_one HS4.out.bad
     dsimp only at q0 q1 q2 q3
     go_wp2_with fail
     go_region
     have HE5:=Lib.hid (HS4.out.ends x).drew
     clear q0 q1 q2 q3 b0 o0 o1 o2 o3 g0 g1 g2 g3 d0 HS4 hx0
     dsimp only at HE5
     generalize (((((w4.setCell ⟨w.heap.size+1,0,none⟩ (.int .i64 xr)).setCell ⟨w.heap.size+1,1,none⟩ (.slice a3 n3 c3)).setCell ⟨w.heap.size+1,2,none⟩ (.int .i64 xl)).setCell ⟨w.heap.size+1,3,none⟩ (.bool xd)).setCell ⟨w.heap.size+1+1,0,none⟩ (.int .i64 x)).drew=w5 at *
     go_wp2_with fail
     by_cases hx1:x=132
     ·have hst:=HC.out.2.1 hx1
      refine leaves_cons (f:=101) (args:=#[.pointer (some ⟨w.heap.size+1+1,0,none⟩),.pointer (some ⟨w.heap.size+1+1+1,0,none⟩),.pointer (some ⟨w.heap.size+1,0,none⟩)]) (by simp) (by simp [go_sem]) ?_
      refine (sdefer_ok _ _ _ x _ _ (cell_of_one HE5.out.bad) (.inr hx1)).mono ?_
      rintro e u' w6 ⟨rfl,rfl,rfl⟩
      have o0:=HE5.out.out.c0; have o1:=HE5.out.out.c1; have o2:=HE5.out.out.c2; have o3:=HE5.out.out.c3
      have b0:=cell_of_one HE5.out.bad
      refine⟨.tuple #[.agg #[.int .i64 xr,.slice a3 n3 c3,.int .i64 xl,.bool xd],.int .i64 x],?_,?_⟩
      ·rw [results_two_cells rfl]; go_simp
      ·rw [hst]; exact RetDk.mk HE5.out.at_ HE5.out.bel
     ·have hst:=HC.out.2.2 HX0.out hx1
      refine leaves_cons (f:=101) (args:=#[.pointer (some ⟨w.heap.size+1+1,0,none⟩),.pointer (some ⟨w.heap.size+1+1+1,0,none⟩),.pointer (some ⟨w.heap.size+1,0,none⟩)]) (by simp) (by simp [go_sem]) ?_
      refine (sdefer_bad _ _ _ x _ _ _ _ _ _ _ _ _ _ (cell_of_one HE5.out.bad) HX0.out hx1 HE5.out.last HE5.out.out).mono ?_
      rintro e u' w6 ⟨rfl,rfl,rfl⟩
      have hE:=HE5.out.setOut
      have o0:=hE.out.c0; have o1:=hE.out.c1; have o2:=hE.out.c2; have o3:=hE.out.c3
      have b0:=cell_of_one hE.bad
      refine⟨.tuple #[.agg #[.int .i64 rm',.slice a' n' c',.int .i64 lf',.bool dn'],.int .i64 x],?_,?_⟩
      ·rw [results_two_cells rfl]; go_simp
      ·rw [hst]; exact RetDk.mk hE.at_ hE.bel
  ·have hki:(ns:Int)≤(k:Int):=by omega
   have HE:=Lib.hid (hR.out.symm.trans (steps_end (L:=L) (k:=k) (by rw [← HN.out]; omega)))
   clear hR
   obtain⟨rm',fl',lf',dn'⟩:=d'
   have HE5:=Lib.hid (hS.out.ends 0)
   have q0:=hS.out.box.c0; have q1:=hS.out.box.c1; have q2:=hS.out.box.c2; have q3:=hS.out.box.c3
   have b0:=cell_of_one hS.out.bad
   have o0:=hS.out.out.c0; have o1:=hS.out.out.c1; have o2:=hS.out.out.c2; have o3:=hS.out.out.c3
   have g0:=hS.out.out.free 0; have g1:=hS.out.out.free 1; have g2:=hS.out.out.free 2; have g3:=hS.out.out.free 3
   have d0:=free_of_one hS.out.bad
   dsimp only at q0 q1 q2 q3
   clear hS
   go_wp2_with fail
   clear q0 q1 q2 q3 b0 o0 o1 o2 o3 g0 g1 g2 g3 d0
   generalize (((((wr.setCell ⟨w.heap.size+1,0,none⟩ (.int .i64 rm')).setCell ⟨w.heap.size+1,1,none⟩ (.slice a' n' c')).setCell ⟨w.heap.size+1,2,none⟩ (.int .i64 lf')).setCell ⟨w.heap.size+1,3,none⟩ (.bool dn')).setCell ⟨w.heap.size+1+1,0,none⟩ (.int .i64 0))=w5 at *
   refine leaves_cons (f:=101) (args:=#[.pointer (some ⟨w.heap.size+1+1,0,none⟩),.pointer (some ⟨w.heap.size+1+1+1,0,none⟩),.pointer (some ⟨w.heap.size+1,0,none⟩)]) (by simp) (by simp [go_sem]) ?_
   refine (sdefer_ok _ _ _ 0 _ _ (cell_of_one HE5.out.bad) (.inl rfl)).mono ?_
   rintro e u' w6 ⟨rfl,rfl,rfl⟩
   have o0:=HE5.out.out.c0; have o1:=HE5.out.out.c1; have o2:=HE5.out.out.c2; have o3:=HE5.out.out.c3
   have b0:=cell_of_one HE5.out.bad
   refine⟨.tuple #[.agg #[.int .i64 rm',.slice a' n' c',.int .i64 lf',.bool dn'],.int .i64 0],?_,?_⟩
   ·rw [results_two_cells rfl]; go_simp
   ·rw [HE.out]; exact RetDk.mk HE5.out.at_ HE5.out.bel
end Go.Proofs.YtlpgbmaoenncjaaGreatDoor
