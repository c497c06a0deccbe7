/- My texts that the proof of PastHeights rests on, part 4: a calculus of walks, the walks, and the plain law. -/
import Derived.KernelRfl
import Derived.Test.YtgjbibabegabnaaGreatPhc
set_option linter.unusedVariables false
set_option linter.unusedSimpArgs false
namespace Go.Proofs.YtgjbibabegabnaaGreat
open Go Go.Proofs.YtgjbibabegabnaaGreat.Sx
abbrev tkQueue (n0 n1 n2 n3 n4 n5 n6 n7 n8:Nat) (q:TQueue) (l:List (Nat×Tok)):List (Nat×Tok):=(n0,blk n0 [.v (.int .i64 q.capacity),.p n1 0,.p n3 0,.p n5 0,.p n7 0,.v (.int .i64 q.excess)] 99)::(n1,blk n1 [.p n2 0,.v (.int .i64 q.marks.r.index),.v (.int .i64 q.marks.r.gen)] 144)::(n2,plM n2 (q.marks.p))::(n3,blk n3 [.p n4 0,.v (.int .i64 q.present.r.index),.v (.int .i64 q.present.r.gen)] 121)::(n4,plS n4 (q.present.p))::(n5,blk n5 [.p n6 0,.v (.int .i64 q.gone.r.index),.v (.int .i64 q.gone.r.gen)] 121)::(n6,plS n6 (q.gone.p))::(n7,blk n7 [.p n8 0,.v (.int .i64 q.times.r.index),.v (.int .i64 q.times.r.gen)] 121)::(n8,plS n8 (q.times.p))::l
abbrev wave_New_st (a0:Int) (r:TRef×Pool (TNode TMark TSwell)) (m40:Nat) (m41:Nat):Prop:=SCon Tryz.prog 108 [.a (.c (.v (.int .i64 a0)))] [] (.a (.c (.p m40 0))) [(m40,blk m40 [.p m41 0,.i r.1.index,.i r.1.gen] 144),(m41,plM m41 r.2)] [m40,m41]
theorem wave_New_con0 {k:Nat}  {a0:Int} {r:TRef×Pool (TNode TMark TSwell)}  (H0:wave_New.f k a0=some r):wave_New_st a0 r 40 41:=by
 rw [wave_New.f] at H0
 refine spec_of [(0,_)] [] 5 Tryz.func108 R Tryz.ntmps108 R R R R (fun β W F=>?_)
 refine G.seq<|G.rg<|K.as R R<|K.nil<|At.ns ?_
 obtain ⟨x1,hx1,H0⟩:=bnd H0
 exact G.rg<|K.mv R R<|K.c0 (cf 134 R) (Tree_NewM_con hx1 100 101 R) g0 R R R R<|K.as R R<|K.nil<|At.next<|G.ret<|At.ren (fs':=[(2,.a (.c (.p 40 0)))]) (tl:=[(40,blk 40 [.p 41 0,.v (.int .i64 x1.1.index),.v (.int .i64 x1.1.gen)] 144),(41,plM 41 x1.2)]) [(40,100),(41,101)] [_,_] R ⟨R,trivial⟩ ⟨R,(blk_ren R R),R,(pl_ren R),trivial⟩ R<|At.dr Y [2] R R (by cases H0;rfl) (by cases H0;rfl) R R R
theorem wave_New_con {k:Nat}  {a0:Int} {r:TRef×Pool (TNode TMark TSwell)}  (H0:wave_New.f k a0=some r) (m40 m41:Nat) (hd:ndB [m40,m41]=true):wave_New_st a0 r m40 m41 :=
 SCon.ren (rn [(40,m40),(41,m41)]) (wave_New_con0 (k:=k)   H0) trivial ⟨(blk_ren R R),(pl_ren R),trivial⟩ (rn_nd hd R R) (rn_ks hd R R R)
abbrev shelf_New_st (a0:Int) (r:TRef×Pool (TNode TSlot TSize)) (m40:Nat) (m41:Nat):Prop:=SCon Tryz.prog 109 [.a (.c (.v (.int .i64 a0)))] [] (.a (.c (.p m40 0))) [(m40,blk m40 [.p m41 0,.i r.1.index,.i r.1.gen] 121),(m41,plS m41 r.2)] [m40,m41]
theorem shelf_New_con0 {k:Nat}  {a0:Int} {r:TRef×Pool (TNode TSlot TSize)}  (H0:shelf_New.f k a0=some r):shelf_New_st a0 r 40 41:=by
 rw [shelf_New.f] at H0
 refine spec_of [(0,_)] [] 5 Tryz.func109 R Tryz.ntmps109 R R R R (fun β W F=>?_)
 refine G.seq<|G.rg<|K.as R R<|K.nil<|At.ns ?_
 obtain ⟨x1,hx1,H0⟩:=bnd H0
 exact G.rg<|K.mv R R<|K.c0 (cf 135 R) (Tree_NewS_con hx1 100 101 R) g0 R R R R<|K.as R R<|K.nil<|At.next<|G.ret<|At.ren (fs':=[(2,.a (.c (.p 40 0)))]) (tl:=[(40,blk 40 [.p 41 0,.v (.int .i64 x1.1.index),.v (.int .i64 x1.1.gen)] 121),(41,plS 41 x1.2)]) [(40,100),(41,101)] [_,_] R ⟨R,trivial⟩ ⟨R,(blk_ren R R),R,(pl_ren R),trivial⟩ R<|At.dr Y [2] R R (by cases H0;rfl) (by cases H0;rfl) R R R
theorem shelf_New_con {k:Nat}  {a0:Int} {r:TRef×Pool (TNode TSlot TSize)}  (H0:shelf_New.f k a0=some r) (m40 m41:Nat) (hd:ndB [m40,m41]=true):shelf_New_st a0 r m40 m41 :=
 SCon.ren (rn [(40,m40),(41,m41)]) (shelf_New_con0 (k:=k)   H0) trivial ⟨(blk_ren R R),(pl_ren R),trivial⟩ (rn_nd hd R R) (rn_ks hd R R R)
abbrev partial_New_st (a0:Int) (r:TQueue) (m80:Nat) (m81:Nat) (m82:Nat) (m83:Nat) (m84:Nat) (m85:Nat) (m86:Nat) (m87:Nat) (m88:Nat):Prop:=SCon Tryz.prog 78 [.a (.c (.v (.int .i64 a0)))] [] (.a (.c (.p m80 0))) (tkQueue m80 m81 m82 m83 m84 m85 m86 m87 m88 r []) [m80,m81,m82,m83,m84,m85,m86,m87,m88]
theorem partial_New_con0 {k:Nat}  {a0:Int} {r:TQueue}  (H0:partial_New.f k a0=some r):partial_New_st a0 r 80 81 82 83 84 85 86 87 88:=by
 rw [partial_New.f] at H0
 refine spec_of [(0,_)] [] 18 Tryz.func78 R Tryz.ntmps78 R R R R (fun β W F=>?_)
 refine G.seq<|G.rg<|K.as R R<|K.nil<|At.nr<|K.mv R R<|K.bi2 (V:=.int .i64 (gmax a0 0)) g0 R R (fun _ _=>R) R<|K.bi2 (V:=.int .i64 (gmin (gmax a0 0) 65536)) g0 R R (fun _ _=>R) R<|K.as R R<|K.nil<|At.ns ?_
 obtain ⟨x1,hx1,H0⟩:=bnd H0
 obtain ⟨x2,hx2,H0⟩:=bnd H0
 obtain ⟨x3,hx3,H0⟩:=bnd H0
 obtain ⟨x4,hx4,H0⟩:=bnd H0
 exact G.rg<|K.mv R R<|K.mv R R<|K.c0 (cf 108 R) (wave_New_con hx1 100 101 R) g0 R R R R<|K.mv R R<|K.c0 (cf 109 R) (shelf_New_con hx2 102 103 R) g0 R R R R<|K.mv R R<|K.c0 (cf 109 R) (shelf_New_con hx3 104 105 R) g0 R R R R<|K.mv R R<|K.c0 (cf 109 R) (shelf_New_con hx4 106 107 R) g0 R R R R<|K.build Y [(0,_),(1,_),(2,_),(3,_),(4,_)] [_,_,_,_,_,_] [((.tmp 7),_),((.tmp 9),_),((.tmp 11),_),((.tmp 13),_),((.tmp 15),_)] g0 (AllE.spec ⟨R,R,R,R,R,trivial⟩) R R t99 R R<|K.box Y 108 _ g0 R R R R R R<|K.as R R<|K.nil<|At.next<|G.ret<|At.ren (fs':=[(2,.a (.c (.p 80 0)))]) (tl:=(tkQueue 80 81 82 83 84 85 86 87 88 (TQueue.mk (gmin (gmax a0 0) 65536) (TS.mk x1.2 x1.1) (TS.mk x2.2 x2.1) (TS.mk x3.2 x3.1) (TS.mk x4.2 x4.1) 0) [])) [(80,108),(81,100),(82,101),(83,102),(84,103),(85,104),(86,105),(87,106),(88,107)] [_,_,_,_,_,_,_,_,_] R ⟨R,trivial⟩ ⟨R,(blk_ren R R),R,(blk_ren R R),R,(pl_ren R),R,(blk_ren R R),R,(pl_ren R),R,(blk_ren R R),R,(pl_ren R),R,(blk_ren R R),R,(pl_ren R),trivial⟩ R<|At.dr Y [2] R R (by cases H0;rfl) (by cases H0;rfl) R R R
theorem partial_New_con {k:Nat}  {a0:Int} {r:TQueue}  (H0:partial_New.f k a0=some r) (m80 m81 m82 m83 m84 m85 m86 m87 m88:Nat) (hd:ndB [m80,m81,m82,m83,m84,m85,m86,m87,m88]=true):partial_New_st a0 r m80 m81 m82 m83 m84 m85 m86 m87 m88 :=
 SCon.ren (rn [(80,m80),(81,m81),(82,m82),(83,m83),(84,m84),(85,m85),(86,m86),(87,m87),(88,m88)]) (partial_New_con0 (k:=k)   H0) trivial ⟨(blk_ren R R),(blk_ren R R),(pl_ren R),(blk_ren R R),(pl_ren R),(blk_ren R R),(pl_ren R),(blk_ren R R),(pl_ren R),trivial⟩ (rn_nd hd R R) (rn_ks hd R R R)
abbrev wave_Key_st (a0:Int) (r:TMark):Prop:=SCon Tryz.prog 58 [.a (.c (.v (.int .i64 a0)))] [] (.a (.agg ((eTMark r).map .v))) [] []
theorem wave_Key_con0 {k:Nat}  {a0:Int} {r:TMark}  (H0:wave_Key.f k a0=some r):wave_Key_st a0 r:=by
 rw [wave_Key.f] at H0
 refine spec_of [(0,_)] [] 6 Tryz.func58 R Tryz.ntmps58 R R R R (fun β W F=>?_)
 refine G.seq<|G.rg<|K.alloc Y 100 _ g0 t101 R R R R R<|K.nil<|At.nr<|K.mv R R<|K.build Y [(0,_)] [_,_,_,_] [((.tmp 3),_)] g0 (AllE.spec ⟨R,trivial⟩) R R t45 R R<|K.build Y [(0,_)] [_,_,_,_,_,_,_,_] [((.tmp 4),_)] g0 (AllE.spec ⟨R,trivial⟩) R R t101 R R<|K.store Y _ g0 R R R t101 R R R R R<|K.nil<|At.next<|G.ret<|At.done Y [(.cell 2 101,.agg [_,_,_,_,_,_,_,_])] R ⟨.st R R t101 R R,trivial⟩ (to':=[]) trivial ?_ ?_ R R R (.inl R)
 · cases H0;rfl
 · cases H0;rfl
theorem wave_Key_con {k:Nat}  {a0:Int} {r:TMark}  (H0:wave_Key.f k a0=some r):wave_Key_st a0 r :=
 SCon.ren (rn []) (wave_Key_con0 (k:=k)   H0) trivial trivial (by simp) (by simp)
abbrev partial_Queue_may_st (q0:TQueue) (a1:Int) (r:Int) (m0:Nat) (m1:Nat) (m2:Nat) (m3:Nat) (m4:Nat) (m5:Nat) (m6:Nat) (m7:Nat) (m8:Nat):Prop:=SCon Tryz.prog 110 [SV.p m0 0,.a (.c (.v (.int .i64 a1)))] (tkQueue m0 m1 m2 m3 m4 m5 m6 m7 m8 q0 []) (.a (.c (.v (.int .i64 r)))) (tkQueue m0 m1 m2 m3 m4 m5 m6 m7 m8 q0 []) []
theorem partial_Queue_may_con0 {k:Nat}  {q0:TQueue} {a1:Int} {r:Int}  (H0:partial_Queue_may.f k q0 a1=some r):partial_Queue_may_st q0 a1 r 0 1 2 3 4 5 6 7 8:=by
 rw [partial_Queue_may.f] at H0
 refine spec_of [(0,_),(1,_)] [(0,_),(1,_),(2,_),(3,_),(4,_),(5,_),(6,_),(7,_),(8,_)] 28 Tryz.func110 R Tryz.ntmps110 R R R R (fun β W F=>?_)
 refine G.seq<|G.rg<|K.as R R<|K.nil<|At.ns<|G.seq ?_
 obtain ⟨x1,hx1,H0⟩:=bnd H0
 refine G.rd mixed<|K.mv R R<|K.nilCheck g0 R R<|K.fieldAddr Y g0 R t99 R R<|K.load1 Y g0 R R t97 R R<|K.cR (cf 56 R) (Tree_LenM_con hx1 1 2) g0 R R R R<|K.mv R R<|K.nilCheck g0 R R<|K.fieldAddr Y g0 R t99 R R<|K.load1 Y g0 R R t3 R R<|K.bin (V:=.bool (x1 == q0.capacity)) g0 R R (fun _=>R) R<|K.nil<|And.intro (by kernel_rfl)<|At.next<|G.cond R (fun h1=>?_) (fun h1=>?_)
 ·
  replace H0:=bif_t H0 h1
  exact G.seq<|G.rg<|K.as R R<|K.nil<|At.next<|G.ret<|At.over_ret<|At.dr Y [4] R R (by cases H0;rfl) (by cases H0;rfl) R R R
 ·
  replace H0:=bif_f H0 h1
  refine G.skip<|At.ns<|G.seq ?_
  obtain ⟨x2,hx2,H0⟩:=bnd H0
  obtain ⟨x3,hx3,H0⟩:=bnd H0
  refine G.rd mixed<|K.mv R R<|K.nilCheck g0 R R<|K.fieldAddr Y g0 R t99 R R<|K.load1 Y g0 R R t97 R R<|K.mv R R<|K.cR (cf 58 R) (wave_Key_con hx2) g0 R R R R<|K.cR (cf 57 R) (Tree_FindM_con hx3 1 2) g0 R R R R<|K.mv R R<|K.extract g0 R R R<|K.extract g0 R R R<|K.alloc Y 100 _ g0 t101 R R R R R<|K.store Y _ g0 R R R t101 R R R R R<|K.as R R<|K.nil<|And.intro (by kernel_rfl)<|At.nr<|K.mv R R<|K.nil<|At.next<|G.cond R (fun h2=>?_) (fun h2=>?_)
  ·
   replace H0:=bif_t H0 h2
   exact G.seq<|G.rg<|K.as R R<|K.nil<|At.next<|G.ret<|At.over_ret<|At.dr Y [4] R R (by cases H0;rfl) (by cases H0;rfl) R R R
  ·
   replace H0:=bif_f H0 h2
   exact G.skip<|At.nr<|K.as R R<|K.nil<|At.next<|G.ret<|At.dr Y [4] R R (by cases H0;rfl) (by cases H0;rfl) R R R
theorem partial_Queue_may_con {k:Nat}  {q0:TQueue} {a1:Int} {r:Int}  (H0:partial_Queue_may.f k q0 a1=some r) (m0 m1 m2 m3 m4 m5 m6 m7 m8:Nat):partial_Queue_may_st q0 a1 r m0 m1 m2 m3 m4 m5 m6 m7 m8 :=
 SCon.ren (rn [(0,m0),(1,m1),(2,m2),(3,m3),(4,m4),(5,m5),(6,m6),(7,m7),(8,m8)]) (partial_Queue_may_con0 (k:=k)   H0) ⟨(blk_ren R R),(blk_ren R R),(pl_ren R),(blk_ren R R),(pl_ren R),(blk_ren R R),(pl_ren R),(blk_ren R R),(pl_ren R),trivial⟩ ⟨(blk_ren R R),(blk_ren R R),(pl_ren R),(blk_ren R R),(pl_ren R),(blk_ren R R),(pl_ren R),(blk_ren R R),(pl_ren R),trivial⟩ (by simp) (by simp)
abbrev shelf_Of_st (a0:TItem) (r:TSlot):Prop:=SCon Tryz.prog 45 [.a (.agg ((eTItem a0).map .v))] [] (.a (.agg ((eTSlot r).map .v))) [] []
theorem shelf_Of_con0 {k:Nat}  {a0:TItem} {r:TSlot}  (H0:shelf_Of.f k a0=some r):shelf_Of_st a0 r:=by
 rw [shelf_Of.f] at H0
 refine spec_of [(0,_)] [] 5 Tryz.func45 R Tryz.ntmps45 R R R R (fun β W F=>?_)
 refine G.seq<|G.rg<|K.box Y 100 _ g0 R R R R R R<|K.alloc Y 101 _ g0 t82 R R R R R<|K.nil<|At.nr<|K.loadS Y _ g0 R R t28 R R R<|K.build Y [(0,_)] [_,_,_,_] [((.tmp 3),_)] g0 (AllE.spec ⟨R,trivial⟩) R R t82 R R<|K.store Y _ g0 R R R t82 R R R R R<|K.nil<|At.next<|G.ret<|At.done Y [(.cell 2 82,.agg [_,_,_,_])] R ⟨.st R R t82 R R,trivial⟩ (to':=[]) trivial ?_ ?_ R R R (.inl R)
 · cases H0;rfl
 · cases H0;rfl
theorem shelf_Of_con {k:Nat}  {a0:TItem} {r:TSlot}  (H0:shelf_Of.f k a0=some r):shelf_Of_st a0 r :=
 SCon.ren (rn []) (shelf_Of_con0 (k:=k)   H0) trivial trivial (by simp) (by simp)
abbrev bridge_clamp_st (p1:Pool (TNode TMark TSwell)) (rt0:TRef) (a1:Int) (r:Int) (m0:Nat) (m1:Nat):Prop:=SCon Tryz.prog 115 [SV.p m0 0,.a (.c (.v (.int .i64 a1)))] [(m0,blk m0 [.p m1 0,.i rt0.index,.i rt0.gen] 144),(m1,plM m1 p1)] (.a (.c (.v (.int .i64 r)))) [(m0,blk m0 [.p m1 0,.i rt0.index,.i rt0.gen] 144),(m1,plM m1 p1)] []
theorem bridge_clamp_con0 {k:Nat}  {p1:Pool (TNode TMark TSwell)} {rt0:TRef} {a1:Int} {r:Int}  (H0:bridge_clamp.f k p1 rt0 a1=some r):bridge_clamp_st p1 rt0 a1 r 0 1:=by
 rw [bridge_clamp.f] at H0
 refine spec_of [(0,_),(1,_)] [(0,_),(1,_)] 10 Tryz.func115 R Tryz.ntmps115 R R R R (fun β W F=>?_)
 refine G.seq<|G.rg<|K.as R R<|K.nil<|At.ns ?_
 obtain ⟨x1,hx1,H0⟩:=bnd H0
 exact G.rg<|K.mv R R<|K.bi2 (V:=.int .i64 (gmax a1 0)) g0 R R (fun _ _=>R) R<|K.mv R R<|K.cR (cf 56 R) (Tree_LenM_con hx1 0 1) g0 R R R R<|K.bi2 (V:=.int .i64 (gmin (gmax a1 0) x1)) g0 R R (fun _ _=>R) R<|K.as R R<|K.nil<|At.next<|G.ret<|At.dr Y [4] R R (by cases H0;rfl) (by cases H0;rfl) R R R
theorem bridge_clamp_con {k:Nat}  {p1:Pool (TNode TMark TSwell)} {rt0:TRef} {a1:Int} {r:Int}  (H0:bridge_clamp.f k p1 rt0 a1=some r) (m0 m1:Nat):bridge_clamp_st p1 rt0 a1 r m0 m1 :=
 SCon.ren (rn [(0,m0),(1,m1)]) (bridge_clamp_con0 (k:=k)   H0) ⟨(blk_ren R R),(pl_ren R),trivial⟩ ⟨(blk_ren R R),(pl_ren R),trivial⟩ (by simp) (by simp)
abbrev bridge_low_st (a0:Int) (r:Int) (m50:Nat):Prop:=SCon Tryz.prog 116 [.a (.c (.v (.int .i64 a0)))] [] (.a (.c (.fn (.func 140) [m50]))) [(m50,blk m50 [.v (.int .i64 r)] 3)] [m50]
theorem bridge_low_con0 {k:Nat}  {a0:Int} {r:Int}  (H0:bridge_low.f k a0=some r):bridge_low_st a0 r 50:=by
 rw [bridge_low.f] at H0
 refine spec_of [(0,_)] [] 4 Tryz.func116 R Tryz.ntmps116 R R R R (fun β W F=>?_)
 exact G.seq<|G.rg<|K.box Y 100 _ g0 R R R R R R<|K.as R R<|K.nil<|At.nr<|K.mkFn1 g0 R R<|K.as R R<|K.nil<|At.next<|G.ret<|At.ren (fs':=[(2,.a (.c (.fn (.func 140) [50])))]) (tl:=[(50,blk 50 [.v (.int .i64 a0)] 3)]) [(50,100)] [_] R ⟨R,trivial⟩ ⟨R,(blk_ren R R),trivial⟩ R<|At.dr Y [2] R R (by cases H0;rfl) (by cases H0;rfl) R R R
theorem bridge_low_con {k:Nat}  {a0:Int} {r:Int}  (H0:bridge_low.f k a0=some r) (m50:Nat) (hd:ndB [m50]=true):bridge_low_st a0 r m50 :=
 SCon.ren (rn [(50,m50)]) (bridge_low_con0 (k:=k)   H0) trivial ⟨(blk_ren R R),trivial⟩ (rn_nd hd R R) (rn_ks hd R R R)
abbrev bridge_low_1_st (a0:TSwell) (a1:TSwell) (c0:Int) (r:Bool) (m0:Nat):Prop:=SCon Tryz.prog 140 [.a (.agg ((eTSwell a0).map .v)),.a (.agg ((eTSwell a1).map .v)),SV.p m0 0] [(m0,blk m0 [.v (.int .i64 c0)] 3)] (.a (.c (.v (.bool r)))) [(m0,blk m0 [.v (.int .i64 c0)] 3)] []
theorem bridge_low_1_con0 {k:Nat}  {a0:TSwell} {a1:TSwell} {c0:Int} {r:Bool}  (H0:bridge_low_1.f k a0 a1 c0=some r):bridge_low_1_st a0 a1 c0 r 0:=by
 rw [bridge_low_1.f] at H0
 refine spec_of [(0,_),(1,_),(2,_)] [(0,_)] 22 Tryz.func140 R Tryz.ntmps140 R R R R (fun β W F=>?_)
 refine G.seq<|G.rg<|K.box Y 100 _ g0 R R R R R R<|K.box Y 101 _ g0 R R R R R R<|K.as R R<|K.nil<|At.ns ?_
 rcases Bool.eq_false_or_eq_true (decide (a1.weight.n>0)) with h1 | h1
 ·
  replace H0:=bif_t H0 h1
  exact G.rg<|K.fieldAddr Y g0 R t105 R R<|K.fieldAddr Y g0 R t103 R R<|K.load1 Y g0 R R t3 R R<|K.bin (V:=.bool (decide (a1.weight.n>0))) g0 R R (fun _=>R) R<|K.mv R R<|K.load1 Y (g1 R R h1) R R t3 R R<|K.fieldAddr Y (g1 R R h1) R t105 R R<|K.fieldAddr Y (g1 R R h1) R t103 R R<|K.load1 Y (g1 R R h1) R R t3 R R<|K.bin (V:=.int .i64 (w64 (c0+a0.weight.sum))) (g1 R R h1) R R (fun _=>R) R<|K.fieldAddr Y (g1 R R h1) R t105 R R<|K.fieldAddr Y (g1 R R h1) R t103 R R<|K.load1 Y (g1 R R h1) R R t3 R R<|K.bin (V:=.int .i64 (w64 ((w64 (c0+a0.weight.sum))+a1.weight.low))) (g1 R R h1) R R (fun _=>R) R<|K.bin (V:=.bool (decide ((w64 ((w64 (c0+a0.weight.sum))+a1.weight.low))≤0))) (g1 R R h1) R R (fun _=>R) R<|K.pickT g0 R (h1) R R<|K.as R R<|K.nil<|At.next<|G.ret<|At.dr Y [5] R R (by cases H0;rfl) (by cases H0;rfl) R R R
 ·
  replace H0:=bif_f H0 h1
  exact G.rg<|K.fieldAddr Y g0 R t105 R R<|K.fieldAddr Y g0 R t103 R R<|K.load1 Y g0 R R t3 R R<|K.bin (V:=.bool (decide (a1.weight.n>0))) g0 R R (fun _=>R) R<|K.mv R R<|K.sk R R h1 R<|K.sk R R h1 R<|K.sk R R h1 R<|K.sk R R h1 R<|K.sk R R h1 R<|K.sk R R h1 R<|K.sk R R h1 R<|K.sk R R h1 R<|K.sk R R h1 R<|K.sk R R h1 R<|K.pickF g0 R (h1) R R<|K.as R R<|K.nil<|At.next<|G.ret<|At.dr Y [5] R R (by cases H0;rfl) (by cases H0;rfl) R R R
theorem bridge_low_1_con {k:Nat}  {a0:TSwell} {a1:TSwell} {c0:Int} {r:Bool}  (H0:bridge_low_1.f k a0 a1 c0=some r) (m0:Nat):bridge_low_1_st a0 a1 c0 r m0 :=
 SCon.ren (rn [(0,m0)]) (bridge_low_1_con0 (k:=k)   H0) ⟨(blk_ren R R),trivial⟩ ⟨(blk_ren R R),trivial⟩ (by simp) (by simp)
abbrev bridge_Prior_st (p1:Pool (TNode TMark TSwell)) (rt0:TRef) (a1:Int) (a2:Int) (r:Int) (m0:Nat) (m1:Nat):Prop:=SCon Tryz.prog 85 [SV.p m0 0,.a (.c (.v (.int .i64 a1))),.a (.c (.v (.int .i64 a2)))] [(m0,blk m0 [.p m1 0,.i rt0.index,.i rt0.gen] 144),(m1,plM m1 p1)] (.a (.c (.v (.int .i64 r)))) [(m0,blk m0 [.p m1 0,.i rt0.index,.i rt0.gen] 144),(m1,plM m1 p1)] []
theorem bridge_Prior_con0 {k:Nat}  {p1:Pool (TNode TMark TSwell)} {rt0:TRef} {a1:Int} {a2:Int} {r:Int}  (H0:bridge_Prior.f k p1 rt0 a1 a2=some r):bridge_Prior_st p1 rt0 a1 a2 r 0 1:=by
 rw [bridge_Prior.f] at H0
 refine spec_of [(0,_),(1,_),(2,_)] [(0,_),(1,_)] 21 Tryz.func85 R Tryz.ntmps85 R R R R (fun β W F=>?_)
 refine G.seq<|G.rg<|K.as R R<|K.nil<|At.ns<|G.seq ?_
 obtain ⟨x1,hx1,H0⟩:=bnd H0
 obtain ⟨x2,hx2,H0⟩:=bnd H0
 obtain ⟨x3,hx3,H0⟩:=bnd H0
 refine G.rg<|K.mv R R<|K.mv R R<|K.mv R R<|K.cR (cf 115 R) (bridge_clamp_con hx1 0 1) g0 R R R R<|K.mv R R<|K.c0 (cf 116 R) (bridge_low_con hx2 100 R) g0 R R R R<|K.cR (cf 114 R) (Tree_LastM_f12_con (cv2:=[(.int .i64 x2)]) (Tc2:=3) (cf 140 R) (fun c _ _ _ h=>bridge_low_1_con h c) hx3 0 1 100) g0 R R R R<|K.as R R<|K.nil<|At.nr<|K.mv R R<|K.bin (V:=.bool (decide (x3≥0))) g0 R R (fun _=>R) R<|K.nil<|At.next<|G.cond R (fun h1=>?_) (fun h1=>?_)
 ·
  replace H0:=bif_t H0 h1
  exact G.seq<|G.rg<|K.mv R R<|K.bin (V:=.int .i64 (w64 (x3+1))) g0 R R (fun _=>R) R<|K.as R R<|K.nil<|At.next<|G.ret<|At.over_ret<|At.dr Y [6] R R (by cases H0;rfl) (by cases H0;rfl) R R R
 ·
  replace H0:=bif_f H0 h1
  refine G.skip<|At.ns<|G.seq<|G.rg<|K.mv R R<|K.bin (V:=.bool (decide (a2≤0))) g0 R R (fun _=>R) R<|K.nil<|At.next<|G.cond R (fun h2=>?_) (fun h2=>?_)
  ·
   replace H0:=bif_t H0 h2
   exact G.seq<|G.rg<|K.as R R<|K.nil<|At.next<|G.ret<|At.over_ret<|At.dr Y [6] R R (by cases H0;rfl) (by cases H0;rfl) R R R
  ·
   replace H0:=bif_f H0 h2
   exact G.skip<|At.nr<|K.as R R<|K.nil<|At.next<|G.ret<|At.dr Y [6] R R (by cases H0;rfl) (by cases H0;rfl) R R R
theorem bridge_Prior_con {k:Nat}  {p1:Pool (TNode TMark TSwell)} {rt0:TRef} {a1:Int} {a2:Int} {r:Int}  (H0:bridge_Prior.f k p1 rt0 a1 a2=some r) (m0 m1:Nat):bridge_Prior_st p1 rt0 a1 a2 r m0 m1 :=
 SCon.ren (rn [(0,m0),(1,m1)]) (bridge_Prior_con0 (k:=k)   H0) ⟨(blk_ren R R),(pl_ren R),trivial⟩ ⟨(blk_ren R R),(pl_ren R),trivial⟩ (by simp) (by simp)
abbrev bridge_Best_st (p1:Pool (TNode TMark TSwell)) (rt0:TRef) (a1:Int) (r:TTook) (m0:Nat) (m1:Nat):Prop:=SCon Tryz.prog 86 [SV.p m0 0,.a (.c (.v (.int .i64 a1)))] [(m0,blk m0 [.p m1 0,.i rt0.index,.i rt0.gen] 144),(m1,plM m1 p1)] (.a (.agg ((eTTook r).map .v))) [(m0,blk m0 [.p m1 0,.i rt0.index,.i rt0.gen] 144),(m1,plM m1 p1)] []
theorem bridge_Best_con0 {k:Nat}  {p1:Pool (TNode TMark TSwell)} {rt0:TRef} {a1:Int} {r:TTook}  (H0:bridge_Best.f k p1 rt0 a1=some r):bridge_Best_st p1 rt0 a1 r 0 1:=by
 rw [bridge_Best.f] at H0
 refine spec_of [(0,_),(1,_)] [(0,_),(1,_)] 13 Tryz.func86 R Tryz.ntmps86 R R R R (fun β W F=>?_)
 refine G.seq<|G.rg<|K.alloc Y 100 _ g0 t77 R R R R R<|K.nil<|At.ns ?_
 obtain ⟨x1,hx1,H0⟩:=bnd H0
 obtain ⟨x2,hx2,H0⟩:=bnd H0
 obtain ⟨x3,hx3,H0⟩:=bnd H0
 refine G.rg<|K.mv R R<|K.mv R R<|K.mv R R<|K.cR (cf 115 R) (bridge_clamp_con hx1 0 1) g0 R R R R<|K.mv R R<|K.cR (cf 56 R) (Tree_LenM_con hx2 0 1) g0 R R R R<|K.cR (cf 117 R) (Tree_BetweenM_con hx3 0 1) g0 R R R R<|K.fieldS Y _ g0 R t105 R t77 R R<|K.store Y _ g0 R R R t77 R R R R R<|K.nil<|At.next<|G.ret<|At.done Y [(.cell 4 77,.agg [_,_,_])] R ⟨.st R R t77 R R,trivial⟩ (to':=[(0,_),(1,_)]) ⟨R,R,trivial⟩ ?_ ?_ R R R (.inl R)
 · cases H0;rfl
 · cases H0;rfl
theorem bridge_Best_con {k:Nat}  {p1:Pool (TNode TMark TSwell)} {rt0:TRef} {a1:Int} {r:TTook}  (H0:bridge_Best.f k p1 rt0 a1=some r) (m0 m1:Nat):bridge_Best_st p1 rt0 a1 r m0 m1 :=
 SCon.ren (rn [(0,m0),(1,m1)]) (bridge_Best_con0 (k:=k)   H0) ⟨(blk_ren R R),(pl_ren R),trivial⟩ ⟨(blk_ren R R),(pl_ren R),trivial⟩ (by simp) (by simp)
abbrev partial_Queue_turn_st (q0:TQueue) (a1:TItem) (a2:Bool) (r:TQueue) (m0:Nat) (m1:Nat) (m2:Nat) (m3:Nat) (m4:Nat) (m5:Nat) (m6:Nat) (m7:Nat) (m8:Nat):Prop:=SCon Tryz.prog 87 [SV.p m0 0,.a (.agg ((eTItem a1).map .v)),.a (.c (.v (.bool a2)))] (tkQueue m0 m1 m2 m3 m4 m5 m6 m7 m8 q0 []) (.tup []) (tkQueue m0 m1 m2 m3 m4 m5 m6 m7 m8 r []) []
theorem partial_Queue_turn_con0 {k:Nat}  {q0:TQueue} {a1:TItem} {a2:Bool} {r:TQueue}  (H0:partial_Queue_turn.f k q0 a1 a2=some r):partial_Queue_turn_st q0 a1 a2 r 0 1 2 3 4 5 6 7 8:=by
 rw [partial_Queue_turn.f] at H0
 refine spec_of [(0,_),(1,_),(2,_)] [(0,_),(1,_),(2,_),(3,_),(4,_),(5,_),(6,_),(7,_),(8,_)] 60 Tryz.func87 R Tryz.ntmps87 R R R R (fun β W F=>?_)
 refine G.seq<|G.rg<|K.box Y 100 _ g0 R R R R R R<|K.nil<|At.ns ?_
 obtain ⟨x1,hx1,H0⟩:=bnd H0
 obtain ⟨x2,hx2,H0⟩:=bnd H0
 refine G.rd mixed<|K.mv R R<|K.nilCheck g0 R R<|K.fieldAddr Y g0 R t99 R R<|K.load1 Y g0 R R t75 R R<|K.loadS Y _ g0 R R t28 R R R<|K.cR (cf 45 R) (shelf_Of_con hx1) g0 R R R R<|K.cR (cf 44 R) (Tree_FindS_con hx2 7 8) g0 R R R R<|K.mv R R<|K.extract g0 R R R<|K.extract g0 R R R<|K.alloc Y 101 _ g0 t82 R R R R R<|K.store Y _ g0 R R R t82 R R R R R<|K.as R R<|K.nil<|And.intro (by kernel_rfl)<|At.ns ?_
 obtain ⟨x3,hx3,H0⟩:=bnd H0
 obtain ⟨x4,hx4,H0⟩:=bnd H0
 refine G.rd mixed<|K.mv R R<|K.nilCheck g0 R R<|K.fieldAddr Y g0 R t99 R R<|K.load1 Y g0 R R t97 R R<|K.fieldAddr Y g0 R t82 R R<|K.load1 Y g0 R R t3 R R<|K.cR (cf 58 R) (wave_Key_con hx3) g0 R R R R<|K.cR (cf 57 R) (Tree_FindM_con hx4 1 2) g0 R R R R<|K.mv R R<|K.extract g0 R R R<|K.extract g0 R R R<|K.alloc Y 102 _ g0 t101 R R R R R<|K.store Y _ g0 R R R t101 R R R R R<|K.as R R<|K.nil<|And.intro (by kernel_rfl)<|At.nr<|K.mv R R<|K.fieldAddr Y g0 R t101 R R<|K.store Y _ g0 R R R t4 R R R R R<|K.nil<|At.ns ?_
 obtain ⟨x5,hx5,H0⟩:=bnd H0
 refine G.rd mixed<|K.mv R R<|K.nilCheck g0 R R<|K.fieldAddr Y g0 R t99 R R<|K.load1 Y g0 R R t97 R R<|K.loadS Y _ g0 R R t101 R R R<|K.c0 (cf 112 R) (Tree_PutM_con hx5 1 2) g0 R R R R<|K.nil<|And.intro (by kernel_rfl)<|At.ns<|G.rd mixed<|K.mv R R<|K.nilCheck g0 R R<|K.fieldAddr Y g0 R t99 R R<|K.load1 Y g0 R R t75 R R<|K.mv R R<|K.nilCheck g0 R R<|K.fieldAddr Y g0 R t99 R R<|K.load1 Y g0 R R t75 R R<|K.as R R<|K.as R R<|K.nil<|And.intro (by kernel_rfl)<|At.ns<|G.seq<|G.rg<|K.mv R R<|K.nil<|At.next<|G.cond R (fun h1=>?_) (fun h1=>?_)
 ·
  replace H0:=bif_t H0 h1
  refine G.rg<|K.mv R R<|K.mv R R<|K.as R R<|K.as R R<|K.nil<|At.ns ?_
  obtain ⟨x6,hx6,H0⟩:=bnd H0
  obtain ⟨x7,hx7,H0⟩:=bnd H0
  refine G.rg<|K.mv R R<|K.loadS Y _ g0 R R t28 R R R<|K.cR (cf 45 R) (shelf_Of_con hx6) g0 R R R R<|K.c0 (cf 63 R) (Tree_DropS_con hx7 5 6) g0 R R R R<|K.nil<|At.next ?_
  obtain ⟨x8,hx8,H0⟩:=bnd H0
  obtain ⟨x9,hx9,H0⟩:=bnd H0
  exact G.rg<|K.mv R R<|K.loadS Y _ g0 R R t28 R R R<|K.cR (cf 45 R) (shelf_Of_con hx8) g0 R R R R<|K.c0 (cf 111 R) (Tree_PutS_con hx9 3 4) g0 R R R R<|K.nil<|At.dn Y [] R R (by cases H0;rfl) (by cases H0;rfl) R R R
 ·
  replace H0:=bif_f H0 h1
  refine G.skip<|At.ns ?_
  obtain ⟨x10,hx10,H0⟩:=bnd H0
  obtain ⟨x11,hx11,H0⟩:=bnd H0
  refine G.rg<|K.mv R R<|K.loadS Y _ g0 R R t28 R R R<|K.cR (cf 45 R) (shelf_Of_con hx10) g0 R R R R<|K.c0 (cf 63 R) (Tree_DropS_con hx11 3 4) g0 R R R R<|K.nil<|At.next ?_
  obtain ⟨x12,hx12,H0⟩:=bnd H0
  obtain ⟨x13,hx13,H0⟩:=bnd H0
  exact G.rg<|K.mv R R<|K.loadS Y _ g0 R R t28 R R R<|K.cR (cf 45 R) (shelf_Of_con hx12) g0 R R R R<|K.c0 (cf 111 R) (Tree_PutS_con hx13 5 6) g0 R R R R<|K.nil<|At.dn Y [] R R (by cases H0;rfl) (by cases H0;rfl) R R R
theorem partial_Queue_turn_con {k:Nat}  {q0:TQueue} {a1:TItem} {a2:Bool} {r:TQueue}  (H0:partial_Queue_turn.f k q0 a1 a2=some r) (m0 m1 m2 m3 m4 m5 m6 m7 m8:Nat):partial_Queue_turn_st q0 a1 a2 r m0 m1 m2 m3 m4 m5 m6 m7 m8 :=
 SCon.ren (rn [(0,m0),(1,m1),(2,m2),(3,m3),(4,m4),(5,m5),(6,m6),(7,m7),(8,m8)]) (partial_Queue_turn_con0 (k:=k)   H0) ⟨(blk_ren R R),(blk_ren R R),(pl_ren R),(blk_ren R R),(pl_ren R),(blk_ren R R),(pl_ren R),(blk_ren R R),(pl_ren R),trivial⟩ ⟨(blk_ren R R),(blk_ren R R),(pl_ren R),(blk_ren R R),(pl_ren R),(blk_ren R R),(pl_ren R),(blk_ren R R),(pl_ren R),trivial⟩ (by simp) (by simp)
abbrev partial_Queue_Insert_st (q0:TQueue) (a1:Int) (a2:TItem) (r:TChange×Int×TQueue) (m0:Nat) (m1:Nat) (m2:Nat) (m3:Nat) (m4:Nat) (m5:Nat) (m6:Nat) (m7:Nat) (m8:Nat) (m60:Nat) (m61:Nat):Prop:=SCon Tryz.prog 79 [SV.p m0 0,.a (.c (.v (.int .i64 a1))),.a (.agg ((eTItem a2).map .v))] (tkQueue m0 m1 m2 m3 m4 m5 m6 m7 m8 q0 []) (.tup [.agg [.nv m60,.nv m61],.c (.v (.int .i64 r.2.1))]) (tkQueue m0 m1 m2 m3 m4 m5 m6 m7 m8 r.2.2 [(m60,lrow m60 28 eTItem 2 (r.1.in_)),(m61,lrow m61 28 eTItem 2 (r.1.out))]) [m60,m61]
set_option maxHeartbeats 4000000 in
theorem partial_Queue_Insert_con0 {k:Nat}  {q0:TQueue} {a1:Int} {a2:TItem} {r:TChange×Int×TQueue}  (H0:partial_Queue_Insert.f k q0 a1 a2=some r):partial_Queue_Insert_st q0 a1 a2 r 0 1 2 3 4 5 6 7 8 60 61:=by
 rw [partial_Queue_Insert.f] at H0
 refine spec_of [(0,_),(1,_),(2,_)] [(0,_),(1,_),(2,_),(3,_),(4,_),(5,_),(6,_),(7,_),(8,_)] 98 Tryz.func79 R Tryz.ntmps79 R R R R (fun β W F=>?_)
 refine G.seq<|G.rg<|K.box Y 100 _ g0 R R R R R R<|K.alloc Y 101 _ g0 t64 R R R R R<|K.as R R<|K.nil<|At.nilBlk (n:=101) (l':=[_,_]) 0 102 28 eTItem 2 R R R R R<|At.nilBlk (n:=101) (l':=[_,_]) 1 103 28 eTItem 2 R R R R R<|At.ns<|G.seq ?_
 obtain ⟨x1,hx1,H0⟩:=bnd H0
 refine G.rg<|K.mv R R<|K.mv R R<|K.cR (cf 110 R) (partial_Queue_may_con hx1 0 1 2 3 4 5 6 7 8) g0 R R R R<|K.as R R<|K.nil<|At.nr<|K.mv R R<|K.bin (V:=.bool (x1 != 0)) g0 R R (fun _=>R) R<|K.nil<|At.next<|G.cond R (fun h1=>?_) (fun h1=>?_)
 ·
  replace H0:=bif_t H0 h1
  refine G.seq<|G.rg<|K.build Y [] [_,_] [] g0 (AllE.spec trivial) R R t64 R R<|K.mv R R<|K.store Y _ g0 R R R t64 R R R R R<|K.as R R<|K.nil<|At.nilAgg (t:=19) (l':=[_,_]) 0 104 28 eTItem 2 R R R R R<|At.nilAgg (t:=19) (l':=[_,_]) 1 105 28 eTItem 2 R R R R R<|At.nilBlk (n:=101) (l':=[_,_]) 0 106 28 eTItem 2 R R R R R<|At.nilBlk (n:=101) (l':=[_,_]) 1 107 28 eTItem 2 R R R R R<|At.next<|G.ret<|At.over_ret<|At.ren (fs':=[(6,.a (.c (.p 101 0))),(7,.a (.c (.v (.int .i64 x1))))]) (tl:=(tkQueue 0 1 2 3 4 5 6 7 8 q0 [(60,lrow 60 28 eTItem 2 ([]:List TItem)),(61,lrow 61 28 eTItem 2 ([]:List TItem)),(101,blk 101 [.nv 60,.nv 61] 64)])) [(60,106),(61,107)] [_,_,_,_,_,_,_,_,_,_,_,_] R ⟨R,R,trivial⟩ ⟨R,(blk_ren R R),R,(blk_ren R R),R,(pl_ren R),R,(blk_ren R R),R,(pl_ren R),R,(blk_ren R R),R,(pl_ren R),R,(blk_ren R R),R,(pl_ren R),R,(lrow_ren R),R,(lrow_ren R),R,(blk_ren R R),trivial⟩ R<|At.done Y [(.cell 6 64,.agg [_,_]),(.tmp 7,.c _)] R ⟨.st R R t64 R R,.tmp R,trivial⟩ (to':=[(0,_),(1,_),(2,_),(3,_),(4,_),(5,_),(6,_),(7,_),(8,_),(60,_),(61,_)]) ⟨R,R,R,R,R,R,R,R,R,R,R,trivial⟩ ?_ ?_ R R R (.inl R)
  · cases H0;rfl
  · cases H0;rfl
 ·
  replace H0:=bif_f H0 h1
  refine G.skip<|At.ns<|G.seq ?_
  obtain ⟨x2,hx2,H0⟩:=bnd H0
  obtain ⟨x3,hx3,H0⟩:=bnd H0
  refine G.rd mixed<|K.mv R R<|K.nilCheck g0 R R<|K.fieldAddr Y g0 R t99 R R<|K.load1 Y g0 R R t75 R R<|K.loadS Y _ g0 R R t28 R R R<|K.cR (cf 45 R) (shelf_Of_con hx2) g0 R R R R<|K.cR (cf 44 R) (Tree_FindS_con hx3 7 8) g0 R R R R<|K.mv R R<|K.extract g0 R R R<|K.extract g0 R R R<|K.alloc Y 108 _ g0 t82 R R R R R<|K.store Y _ g0 R R R t82 R R R R R<|K.as R R<|K.nil<|And.intro (by kernel_rfl)<|At.nr<|K.mv R R<|K.nil<|At.next<|G.cond R (fun h2=>?_) (fun h2=>?_)
  ·
   replace H0:=bif_t H0 h2
   refine G.seq<|G.rg<|K.build Y [] [_,_] [] g0 (AllE.spec trivial) R R t64 R R<|K.store Y _ g0 R R R t64 R R R R R<|K.as R R<|K.nil<|At.nilAgg (t:=32) (l':=[_,_]) 0 109 28 eTItem 2 R R R R R<|At.nilAgg (t:=32) (l':=[_,_]) 1 110 28 eTItem 2 R R R R R<|At.nilBlk (n:=101) (l':=[_,_]) 0 111 28 eTItem 2 R R R R R<|At.nilBlk (n:=101) (l':=[_,_]) 1 112 28 eTItem 2 R R R R R<|At.next<|G.ret<|At.over_ret<|At.ren (fs':=[(6,.a (.c (.p 101 0))),(7,.a (.c (.v (.int .i64 2))))]) (tl:=(tkQueue 0 1 2 3 4 5 6 7 8 q0 [(60,lrow 60 28 eTItem 2 ([]:List TItem)),(61,lrow 61 28 eTItem 2 ([]:List TItem)),(101,blk 101 [.nv 60,.nv 61] 64)])) [(60,111),(61,112)] [_,_,_,_,_,_,_,_,_,_,_,_] R ⟨R,R,trivial⟩ ⟨R,(blk_ren R R),R,(blk_ren R R),R,(pl_ren R),R,(blk_ren R R),R,(pl_ren R),R,(blk_ren R R),R,(pl_ren R),R,(blk_ren R R),R,(pl_ren R),R,(lrow_ren R),R,(lrow_ren R),R,(blk_ren R R),trivial⟩ R<|At.done Y [(.cell 6 64,.agg [_,_]),(.tmp 7,.c _)] R ⟨.st R R t64 R R,.tmp R,trivial⟩ (to':=[(0,_),(1,_),(2,_),(3,_),(4,_),(5,_),(6,_),(7,_),(8,_),(60,_),(61,_)]) ⟨R,R,R,R,R,R,R,R,R,R,R,trivial⟩ ?_ ?_ R R R (.inl R)
   · cases H0;rfl
   · cases H0;rfl
  ·
   replace H0:=bif_f H0 h2
   refine G.skip<|At.ns ?_
   obtain ⟨x4,hx4,H0⟩:=bnd H0
   obtain ⟨x5,hx5,H0⟩:=bnd H0
   refine G.rd mixed<|K.mv R R<|K.nilCheck g0 R R<|K.fieldAddr Y g0 R t99 R R<|K.load1 Y g0 R R t97 R R<|K.mv R R<|K.cR (cf 58 R) (wave_Key_con hx4) g0 R R R R<|K.cR (cf 59 R) (Tree_RankM_con hx5 1 2) g0 R R R R<|K.as R R<|K.nil<|And.intro (by kernel_rfl)<|At.ns ?_
   obtain ⟨x6,hx6,H0⟩:=bnd H0
   refine G.rd mixed<|K.mv R R<|K.nilCheck g0 R R<|K.fieldAddr Y g0 R t99 R R<|K.load1 Y g0 R R t97 R R<|K.mv R R<|K.mv R R<|K.nilCheck g0 R R<|K.fieldAddr Y g0 R t99 R R<|K.load1 Y g0 R R t3 R R<|K.cR (cf 85 R) (bridge_Prior_con hx6 1 2) g0 R R R R<|K.as R R<|K.nil<|And.intro (by kernel_rfl)<|At.ns ?_
   obtain ⟨x7,hx7,H0⟩:=bnd H0
   refine G.rd mixed<|K.mv R R<|K.nilCheck g0 R R<|K.fieldAddr Y g0 R t99 R R<|K.load1 Y g0 R R t75 R R<|K.loadS Y _ g0 R R t28 R R R<|K.mv R R<|K.build Y [(0,_),(1,_),(2,_)] [_,_,_,_] [((.tmp 54),_),(_,_),((.tmp 55),_)] g0 (AllE.spec ⟨R,R,R,trivial⟩) R R t82 R R<|K.c0 (cf 111 R) (Tree_PutS_con hx7 7 8) g0 R R R R<|K.nil<|And.intro (by kernel_rfl)<|At.ns ?_
   obtain ⟨x8,hx8,H0⟩:=bnd H0
   refine G.rd mixed<|K.mv R R<|K.nilCheck g0 R R<|K.fieldAddr Y g0 R t99 R R<|K.load1 Y g0 R R t97 R R<|K.mv R R<|K.loadS Y _ g0 R R t28 R R R<|K.build Y [(0,_),(1,_),(2,_)] [_,_,_,_] [((.tmp 62),_),(_,_),((.tmp 63),_)] g0 (AllE.spec ⟨R,R,R,trivial⟩) R R t45 R R<|K.build Y [(0,_)] [_,_,_,_,_,_,_,_] [((.tmp 64),_)] g0 (AllE.spec ⟨R,trivial⟩) R R t101 R R<|K.c0 (cf 112 R) (Tree_PutM_con hx8 1 2) g0 R R R R<|K.nil<|And.intro (by kernel_rfl)<|At.ns ?_
   obtain ⟨x9,hx9,H0⟩:=bnd H0
   obtain ⟨x10,hx10,H0⟩:=bnd H0
   refine G.rd mixed<|K.mv R R<|K.nilCheck g0 R R<|K.fieldAddr Y g0 R t99 R R<|K.load1 Y g0 R R t75 R R<|K.loadS Y _ g0 R R t28 R R R<|K.cR (cf 45 R) (shelf_Of_con hx9) g0 R R R R<|K.c0 (cf 111 R) (Tree_PutS_con hx10 5 6) g0 R R R R<|K.nil<|And.intro (by kernel_rfl)<|At.ns<|G.seq<|G.rg<|K.mv R R<|K.bin (V:=.bool (decide (x6<0))) g0 R R (fun _=>R) R<|K.nil<|At.next<|G.cond R (fun h3=>?_) (fun h3=>?_)
   ·
    replace H0:=bif_t H0 h3
    refine G.seq<|G.rg<|K.mv R R<|K.nilCheck g0 R R<|K.fieldAddr Y g0 R t99 R R<|K.load1 Y g0 R R t3 R R<|K.bin (V:=.int .i64 (w64 (q0.excess - 1))) g0 R R (fun _=>R) R<|K.nilCheck g0 R R<|K.fieldAddr Y g0 R t99 R R<|K.store Y _ g0 R R R t3 R R R R R<|K.nil<|At.nr<|K.build Y [] [_,_] [] g0 (AllE.spec trivial) R R t64 R R<|K.store Y _ g0 R R R t64 R R R R R<|K.as R R<|K.nil<|At.nilAgg (t:=83) (l':=[_,_]) 0 113 28 eTItem 2 R R R R R<|At.nilAgg (t:=83) (l':=[_,_]) 1 114 28 eTItem 2 R R R R R<|At.nilBlk (n:=101) (l':=[_,_]) 0 115 28 eTItem 2 R R R R R<|At.nilBlk (n:=101) (l':=[_,_]) 1 116 28 eTItem 2 R R R R R<|At.next<|G.ret<|At.over_ret<|At.ren (fs':=[(6,.a (.c (.p 101 0))),(7,.a (.c (.v (.int .i64 0))))]) (tl:=(tkQueue 0 1 2 3 4 5 6 7 8 (TQueue.mk q0.capacity (TS.mk x8.2.2 x8.2.1) q0.present (TS.mk x10.2.2 x10.2.1) (TS.mk x7.2.2 x7.2.1) (w64 (q0.excess - 1))) [(60,lrow 60 28 eTItem 2 ([]:List TItem)),(61,lrow 61 28 eTItem 2 ([]:List TItem)),(101,blk 101 [.nv 60,.nv 61] 64)])) [(60,115),(61,116)] [_,_,_,_,_,_,_,_,_,_,_,_] R ⟨R,R,trivial⟩ ⟨R,(blk_ren R R),R,(blk_ren R R),R,(pl_ren R),R,(blk_ren R R),R,(pl_ren R),R,(blk_ren R R),R,(pl_ren R),R,(blk_ren R R),R,(pl_ren R),R,(lrow_ren R),R,(lrow_ren R),R,(blk_ren R R),trivial⟩ R<|At.done Y [(.cell 6 64,.agg [_,_]),(.tmp 7,.c _)] R ⟨.st R R t64 R R,.tmp R,trivial⟩ (to':=[(0,_),(1,_),(2,_),(3,_),(4,_),(5,_),(6,_),(7,_),(8,_),(60,_),(61,_)]) ⟨R,R,R,R,R,R,R,R,R,R,R,trivial⟩ ?_ ?_ R R R (.inl R)
    · cases H0;rfl
    · cases H0;rfl
   ·
    replace H0:=bif_f H0 h3
    refine G.skip<|At.ns ?_
    obtain ⟨x11,hx11,H0⟩:=bnd H0
    refine G.rg<|K.mv R R<|K.nilCheck g0 R R<|K.fieldAddr Y g0 R t99 R R<|K.load1 Y g0 R R t97 R R<|K.mv R R<|K.cR (cf 86 R) (bridge_Best_con hx11 1 2) g0 R R R R<|K.alloc Y 117 _ g0 t77 R R R R R<|K.store Y _ g0 R R R t77 R R R R R<|K.nil<|At.ns ?_
    obtain ⟨x12,hx12,H0⟩:=bnd H0
    refine G.rg<|K.mv R R<|K.fieldAddr Y g0 R t77 R R<|K.loadS Y _ g0 R R t28 R R R<|K.c0 (cf 87 R) (partial_Queue_turn_con hx12 0 1 2 3 4 5 6 7 8) g0 R R R R<|K.nil<|At.nr<|K.fieldAddr Y g0 R t77 R R<|K.loadS Y _ g0 R R t28 R R R<|K.buildL Y 118 ([x11.item]:List TItem) [(0,_)] [((.tmp 95),_)] eTItem_len g0 (AllE.spec ⟨R,trivial⟩) R R Tryz.underlying54 t28 R R R R R R R R<|K.build Y [(0,_)] [_,_] [((.tmp 96),_)] g0 (AllE.spec ⟨R,trivial⟩) R R t64 R R<|K.store Y _ g0 R R R t64 R R R R R<|K.as R R<|K.nil<|At.nilAgg (t:=97) (l':=[_,_]) 1 119 28 eTItem 2 R R R R R<|At.nilBlk (n:=101) (l':=[_,_]) 1 120 28 eTItem 2 R R R R R<|At.next<|G.ret<|At.ren (fs':=[(6,.a (.c (.p 101 0))),(7,.a (.c (.v (.int .i64 0))))]) (tl:=(tkQueue 0 1 2 3 4 5 6 7 8 x12 [(60,lrow 60 28 eTItem 2 ([x11.item]:List TItem)),(61,lrow 61 28 eTItem 2 ([]:List TItem)),(101,blk 101 [.nv 60,.nv 61] 64)])) [(60,118),(61,120)] [_,_,_,_,_,_,_,_,_,_,_,_] R ⟨R,R,trivial⟩ ⟨R,(blk_ren R R),R,(blk_ren R R),R,(pl_ren R),R,(blk_ren R R),R,(pl_ren R),R,(blk_ren R R),R,(pl_ren R),R,(blk_ren R R),R,(pl_ren R),R,(lrow_ren R),R,(lrow_ren R),R,(blk_ren R R),trivial⟩ R<|At.done Y [(.cell 6 64,.agg [_,_]),(.tmp 7,.c _)] R ⟨.st R R t64 R R,.tmp R,trivial⟩ (to':=[(0,_),(1,_),(2,_),(3,_),(4,_),(5,_),(6,_),(7,_),(8,_),(60,_),(61,_)]) ⟨R,R,R,R,R,R,R,R,R,R,R,trivial⟩ ?_ ?_ R R R (.inl R)
    · cases H0;rfl
    · cases H0;rfl
theorem partial_Queue_Insert_con {k:Nat}  {q0:TQueue} {a1:Int} {a2:TItem} {r:TChange×Int×TQueue}  (H0:partial_Queue_Insert.f k q0 a1 a2=some r) (m0 m1 m2 m3 m4 m5 m6 m7 m8 m60 m61:Nat) (hd:ndB [m0,m1,m2,m3,m4,m5,m6,m7,m8,m60,m61]=true):partial_Queue_Insert_st q0 a1 a2 r m0 m1 m2 m3 m4 m5 m6 m7 m8 m60 m61 :=
 SCon.ren (rn [(0,m0),(1,m1),(2,m2),(3,m3),(4,m4),(5,m5),(6,m6),(7,m7),(8,m8),(60,m60),(61,m61)]) (partial_Queue_Insert_con0 (k:=k)   H0) ⟨(blk_ren R R),(blk_ren R R),(pl_ren R),(blk_ren R R),(pl_ren R),(blk_ren R R),(pl_ren R),(blk_ren R R),(pl_ren R),trivial⟩ ⟨(blk_ren R R),(blk_ren R R),(pl_ren R),(blk_ren R R),(pl_ren R),(blk_ren R R),(pl_ren R),(blk_ren R R),(pl_ren R),(lrow_ren R),(lrow_ren R),trivial⟩ (rn_nd hd R R) (rn_ks hd R R R)
abbrev bridge_Height_st (p1:Pool (TNode TMark TSwell)) (rt0:TRef) (a1:Int) (a2:Int) (r:Int) (m0:Nat) (m1:Nat):Prop:=SCon Tryz.prog 121 [SV.p m0 0,.a (.c (.v (.int .i64 a1))),.a (.c (.v (.int .i64 a2)))] [(m0,blk m0 [.p m1 0,.i rt0.index,.i rt0.gen] 144),(m1,plM m1 p1)] (.a (.c (.v (.int .i64 r)))) [(m0,blk m0 [.p m1 0,.i rt0.index,.i rt0.gen] 144),(m1,plM m1 p1)] []
theorem bridge_Height_con0 {k:Nat}  {p1:Pool (TNode TMark TSwell)} {rt0:TRef} {a1:Int} {a2:Int} {r:Int}  (H0:bridge_Height.f k p1 rt0 a1 a2=some r):bridge_Height_st p1 rt0 a1 a2 r 0 1:=by
 rw [bridge_Height.f] at H0
 refine spec_of [(0,_),(1,_),(2,_)] [(0,_),(1,_)] 14 Tryz.func121 R Tryz.ntmps121 R R R R (fun β W F=>?_)
 refine G.seq<|G.rg<|K.as R R<|K.nil<|At.ns ?_
 obtain ⟨x1,hx1,H0⟩:=bnd H0
 exact G.rg<|K.mv R R<|K.mv R R<|K.mv R R<|K.cR (cf 117 R) (Tree_BetweenM_con hx1 0 1) g0 R R R R<|K.fieldS Y _ g0 R t105 R t103 R R<|K.field1 Y g0 R t103 R t3 R R<|K.bin (V:=.int .i64 (w64 (a2+x1.weight.sum))) g0 R R (fun _=>R) R<|K.as R R<|K.nil<|At.next<|G.ret<|At.dr Y [6] R R (by cases H0;rfl) (by cases H0;rfl) R R R
theorem bridge_Height_con {k:Nat}  {p1:Pool (TNode TMark TSwell)} {rt0:TRef} {a1:Int} {a2:Int} {r:Int}  (H0:bridge_Height.f k p1 rt0 a1 a2=some r) (m0 m1:Nat):bridge_Height_st p1 rt0 a1 a2 r m0 m1 :=
 SCon.ren (rn [(0,m0),(1,m1)]) (bridge_Height_con0 (k:=k)   H0) ⟨(blk_ren R R),(pl_ren R),trivial⟩ ⟨(blk_ren R R),(pl_ren R),trivial⟩ (by simp) (by simp)
abbrev bridge_Next_st (p1:Pool (TNode TMark TSwell)) (rt0:TRef) (a1:Int) (a2:Int) (r:Int) (m0:Nat) (m1:Nat):Prop:=SCon Tryz.prog 90 [SV.p m0 0,.a (.c (.v (.int .i64 a1))),.a (.c (.v (.int .i64 a2)))] [(m0,blk m0 [.p m1 0,.i rt0.index,.i rt0.gen] 144),(m1,plM m1 p1)] (.a (.c (.v (.int .i64 r)))) [(m0,blk m0 [.p m1 0,.i rt0.index,.i rt0.gen] 144),(m1,plM m1 p1)] []
theorem bridge_Next_con0 {k:Nat}  {p1:Pool (TNode TMark TSwell)} {rt0:TRef} {a1:Int} {a2:Int} {r:Int}  (H0:bridge_Next.f k p1 rt0 a1 a2=some r):bridge_Next_st p1 rt0 a1 a2 r 0 1:=by
 rw [bridge_Next.f] at H0
 refine spec_of [(0,_),(1,_),(2,_)] [(0,_),(1,_)] 26 Tryz.func90 R Tryz.ntmps90 R R R R (fun β W F=>?_)
 refine G.seq<|G.rg<|K.as R R<|K.nil<|At.ns ?_
 obtain ⟨x1,hx1,H0⟩:=bnd H0
 refine G.rg<|K.mv R R<|K.mv R R<|K.cR (cf 115 R) (bridge_clamp_con hx1 0 1) g0 R R R R<|K.as R R<|K.nil<|At.ns<|G.seq ?_
 obtain ⟨x2,hx2,H0⟩:=bnd H0
 refine G.rg<|K.mv R R<|K.mv R R<|K.mv R R<|K.cR (cf 121 R) (bridge_Height_con hx2 0 1) g0 R R R R<|K.bin (V:=.bool (decide (x2≤0))) g0 R R (fun _=>R) R<|K.nil<|At.next<|G.cond R (fun h1=>?_) (fun h1=>?_)
 ·
  replace H0:=bif_t H0 h1
  exact G.seq<|G.rg<|K.mv R R<|K.as R R<|K.nil<|At.next<|G.ret<|At.over_ret<|At.dr Y [6] R R (by cases H0;rfl) (by cases H0;rfl) R R R
 ·
  replace H0:=bif_f H0 h1
  refine G.skip<|At.ns<|G.seq ?_
  obtain ⟨x3,hx3,H0⟩:=bnd H0
  obtain ⟨x4,hx4,H0⟩:=bnd H0
  refine G.rg<|K.mv R R<|K.mv R R<|K.mv R R<|K.c0 (cf 116 R) (bridge_low_con hx3 100 R) g0 R R R R<|K.cR (cf 122 R) (Tree_FirstM_f12_con (cv2:=[(.int .i64 x3)]) (Tc2:=3) (cf 140 R) (fun c _ _ _ h=>bridge_low_1_con h c) hx4 0 1 100) g0 R R R R<|K.as R R<|K.nil<|At.nr<|K.mv R R<|K.bin (V:=.bool (decide (x4≥0))) g0 R R (fun _=>R) R<|K.nil<|At.next<|G.cond R (fun h2=>?_) (fun h2=>?_)
  ·
   replace H0:=bif_t H0 h2
   exact G.seq<|G.rg<|K.mv R R<|K.bin (V:=.int .i64 (w64 (x4+1))) g0 R R (fun _=>R) R<|K.as R R<|K.nil<|At.next<|G.ret<|At.over_ret<|At.dr Y [6] R R (by cases H0;rfl) (by cases H0;rfl) R R R
  ·
   replace H0:=bif_f H0 h2
   exact G.skip<|At.nr<|K.as R R<|K.nil<|At.next<|G.ret<|At.dr Y [6] R R (by cases H0;rfl) (by cases H0;rfl) R R R
theorem bridge_Next_con {k:Nat}  {p1:Pool (TNode TMark TSwell)} {rt0:TRef} {a1:Int} {a2:Int} {r:Int}  (H0:bridge_Next.f k p1 rt0 a1 a2=some r) (m0 m1:Nat):bridge_Next_st p1 rt0 a1 a2 r m0 m1 :=
 SCon.ren (rn [(0,m0),(1,m1)]) (bridge_Next_con0 (k:=k)   H0) ⟨(blk_ren R R),(pl_ren R),trivial⟩ ⟨(blk_ren R R),(pl_ren R),trivial⟩ (by simp) (by simp)
abbrev bridge_Least_st (p1:Pool (TNode TMark TSwell)) (rt0:TRef) (a1:Int) (r:TTook) (m0:Nat) (m1:Nat):Prop:=SCon Tryz.prog 89 [SV.p m0 0,.a (.c (.v (.int .i64 a1)))] [(m0,blk m0 [.p m1 0,.i rt0.index,.i rt0.gen] 144),(m1,plM m1 p1)] (.a (.agg ((eTTook r).map .v))) [(m0,blk m0 [.p m1 0,.i rt0.index,.i rt0.gen] 144),(m1,plM m1 p1)] []
theorem bridge_Least_con0 {k:Nat}  {p1:Pool (TNode TMark TSwell)} {rt0:TRef} {a1:Int} {r:TTook}  (H0:bridge_Least.f k p1 rt0 a1=some r):bridge_Least_st p1 rt0 a1 r 0 1:=by
 rw [bridge_Least.f] at H0
 refine spec_of [(0,_),(1,_)] [(0,_),(1,_)] 11 Tryz.func89 R Tryz.ntmps89 R R R R (fun β W F=>?_)
 refine G.seq<|G.rg<|K.alloc Y 100 _ g0 t77 R R R R R<|K.nil<|At.ns ?_
 obtain ⟨x1,hx1,H0⟩:=bnd H0
 obtain ⟨x2,hx2,H0⟩:=bnd H0
 refine G.rg<|K.mv R R<|K.mv R R<|K.mv R R<|K.cR (cf 115 R) (bridge_clamp_con hx1 0 1) g0 R R R R<|K.cR (cf 117 R) (Tree_BetweenM_con hx2 0 1) g0 R R R R<|K.fieldS Y _ g0 R t105 R t77 R R<|K.store Y _ g0 R R R t77 R R R R R<|K.nil<|At.next<|G.ret<|At.done Y [(.cell 4 77,.agg [_,_,_])] R ⟨.st R R t77 R R,trivial⟩ (to':=[(0,_),(1,_)]) ⟨R,R,trivial⟩ ?_ ?_ R R R (.inl R)
 · cases H0;rfl
 · cases H0;rfl
theorem bridge_Least_con {k:Nat}  {p1:Pool (TNode TMark TSwell)} {rt0:TRef} {a1:Int} {r:TTook}  (H0:bridge_Least.f k p1 rt0 a1=some r) (m0 m1:Nat):bridge_Least_st p1 rt0 a1 r m0 m1 :=
 SCon.ren (rn [(0,m0),(1,m1)]) (bridge_Least_con0 (k:=k)   H0) ⟨(blk_ren R R),(pl_ren R),trivial⟩ ⟨(blk_ren R R),(pl_ren R),trivial⟩ (by simp) (by simp)
abbrev partial_Queue_leave_st (q0:TQueue) (a1:Int) (r:TChange×TQueue) (m0:Nat) (m1:Nat) (m2:Nat) (m3:Nat) (m4:Nat) (m5:Nat) (m6:Nat) (m7:Nat) (m8:Nat) (m60:Nat) (m61:Nat):Prop:=SCon Tryz.prog 62 [SV.p m0 0,.a (.c (.v (.int .i64 a1)))] (tkQueue m0 m1 m2 m3 m4 m5 m6 m7 m8 q0 []) (.a (.agg [.nv m60,.nv m61])) (tkQueue m0 m1 m2 m3 m4 m5 m6 m7 m8 r.2 [(m60,lrow m60 28 eTItem 2 (r.1.in_)),(m61,lrow m61 28 eTItem 2 (r.1.out))]) [m60,m61]
theorem partial_Queue_leave_con0 {k:Nat}  {q0:TQueue} {a1:Int} {r:TChange×TQueue}  (H0:partial_Queue_leave.f k q0 a1=some r):partial_Queue_leave_st q0 a1 r 0 1 2 3 4 5 6 7 8 60 61:=by
 rw [partial_Queue_leave.f] at H0
 refine spec_of [(0,_),(1,_)] [(0,_),(1,_),(2,_),(3,_),(4,_),(5,_),(6,_),(7,_),(8,_)] 40 Tryz.func62 R Tryz.ntmps62 R R R R (fun β W F=>?_)
 refine G.seq<|G.rg<|K.alloc Y 100 _ g0 t64 R R R R R<|K.nil<|At.nilBlk (n:=100) (l':=[_,_]) 0 101 28 eTItem 2 R R R R R<|At.nilBlk (n:=100) (l':=[_,_]) 1 102 28 eTItem 2 R R R R R<|At.ns ?_
 obtain ⟨x1,hx1,H0⟩:=bnd H0
 obtain ⟨x2,hx2,H0⟩:=bnd H0
 refine G.rd mixed<|K.mv R R<|K.nilCheck g0 R R<|K.fieldAddr Y g0 R t99 R R<|K.load1 Y g0 R R t97 R R<|K.mv R R<|K.nilCheck g0 R R<|K.fieldAddr Y g0 R t99 R R<|K.load1 Y g0 R R t97 R R<|K.mv R R<|K.mv R R<|K.nilCheck g0 R R<|K.fieldAddr Y g0 R t99 R R<|K.load1 Y g0 R R t3 R R<|K.cR (cf 90 R) (bridge_Next_con hx1 1 2) g0 R R R R<|K.cR (cf 89 R) (bridge_Least_con hx2 1 2) g0 R R R R<|K.alloc Y 103 _ g0 t77 R R R R R<|K.store Y _ g0 R R R t77 R R R R R<|K.nil<|And.intro (by kernel_rfl)<|At.ns<|G.seq<|G.rg<|K.fieldAddr Y g0 R t77 R R<|K.load1 Y g0 R R t4 R R<|K.un (V:=.bool (!x2.found)) g0 R (fun _=>R) R<|K.nil<|At.next<|G.cond R (fun h1=>?_) (fun h1=>?_)
 ·
  replace H0:=bif_t H0 h1
  refine G.seq<|G.rg<|K.mv R R<|K.nilCheck g0 R R<|K.fieldAddr Y g0 R t99 R R<|K.load1 Y g0 R R t3 R R<|K.bin (V:=.int .i64 (w64 (q0.excess+1))) g0 R R (fun _=>R) R<|K.nilCheck g0 R R<|K.fieldAddr Y g0 R t99 R R<|K.store Y _ g0 R R R t3 R R R R R<|K.nil<|At.nr<|K.build Y [] [_,_] [] g0 (AllE.spec trivial) R R t64 R R<|K.store Y _ g0 R R R t64 R R R R R<|K.nil<|At.nilAgg (t:=31) (l':=[_,_]) 0 104 28 eTItem 2 R R R R R<|At.nilAgg (t:=31) (l':=[_,_]) 1 105 28 eTItem 2 R R R R R<|At.nilBlk (n:=100) (l':=[_,_]) 0 106 28 eTItem 2 R R R R R<|At.nilBlk (n:=100) (l':=[_,_]) 1 107 28 eTItem 2 R R R R R<|At.next<|G.ret<|At.over_ret<|At.ren (fs':=[(4,.a (.c (.p 100 0)))]) (tl:=(tkQueue 0 1 2 3 4 5 6 7 8 (TQueue.mk q0.capacity q0.marks q0.present q0.gone q0.times (w64 (q0.excess+1))) [(60,lrow 60 28 eTItem 2 ([]:List TItem)),(61,lrow 61 28 eTItem 2 ([]:List TItem)),(100,blk 100 [.nv 60,.nv 61] 64)])) [(60,106),(61,107)] [_,_,_,_,_,_,_,_,_,_,_,_] R ⟨R,trivial⟩ ⟨R,(blk_ren R R),R,(blk_ren R R),R,(pl_ren R),R,(blk_ren R R),R,(pl_ren R),R,(blk_ren R R),R,(pl_ren R),R,(blk_ren R R),R,(pl_ren R),R,(lrow_ren R),R,(lrow_ren R),R,(blk_ren R R),trivial⟩ R<|At.done Y [(.cell 4 64,.agg [_,_])] R ⟨.st R R t64 R R,trivial⟩ (to':=[(0,_),(1,_),(2,_),(3,_),(4,_),(5,_),(6,_),(7,_),(8,_),(60,_),(61,_)]) ⟨R,R,R,R,R,R,R,R,R,R,R,trivial⟩ ?_ ?_ R R R (.inl R)
  · cases H0;rfl
  · cases H0;rfl
 ·
  replace H0:=bif_f H0 h1
  refine G.skip<|At.ns ?_
  obtain ⟨x3,hx3,H0⟩:=bnd H0
  refine G.rg<|K.mv R R<|K.fieldAddr Y g0 R t77 R R<|K.loadS Y _ g0 R R t28 R R R<|K.c0 (cf 87 R) (partial_Queue_turn_con hx3 0 1 2 3 4 5 6 7 8) g0 R R R R<|K.nil<|At.nr<|K.fieldAddr Y g0 R t77 R R<|K.loadS Y _ g0 R R t28 R R R<|K.buildL Y 108 ([x2.item]:List TItem) [(0,_)] [((.tmp 37),_)] eTItem_len g0 (AllE.spec ⟨R,trivial⟩) R R Tryz.underlying54 t28 R R R R R R R R<|K.build Y [(1,_)] [_,_] [((.tmp 38),_)] g0 (AllE.spec ⟨R,trivial⟩) R R t64 R R<|K.store Y _ g0 R R R t64 R R R R R<|K.nil<|At.nilAgg (t:=39) (l':=[_,_]) 0 109 28 eTItem 2 R R R R R<|At.nilBlk (n:=100) (l':=[_,_]) 0 110 28 eTItem 2 R R R R R<|At.next<|G.ret<|At.ren (fs':=[(4,.a (.c (.p 100 0)))]) (tl:=(tkQueue 0 1 2 3 4 5 6 7 8 x3 [(60,lrow 60 28 eTItem 2 ([]:List TItem)),(61,lrow 61 28 eTItem 2 ([x2.item]:List TItem)),(100,blk 100 [.nv 60,.nv 61] 64)])) [(60,110),(61,108)] [_,_,_,_,_,_,_,_,_,_,_,_] R ⟨R,trivial⟩ ⟨R,(blk_ren R R),R,(blk_ren R R),R,(pl_ren R),R,(blk_ren R R),R,(pl_ren R),R,(blk_ren R R),R,(pl_ren R),R,(blk_ren R R),R,(pl_ren R),R,(lrow_ren R),R,(lrow_ren R),R,(blk_ren R R),trivial⟩ R<|At.done Y [(.cell 4 64,.agg [_,_])] R ⟨.st R R t64 R R,trivial⟩ (to':=[(0,_),(1,_),(2,_),(3,_),(4,_),(5,_),(6,_),(7,_),(8,_),(60,_),(61,_)]) ⟨R,R,R,R,R,R,R,R,R,R,R,trivial⟩ ?_ ?_ R R R (.inl R)
  · cases H0;rfl
  · cases H0;rfl
theorem partial_Queue_leave_con {k:Nat}  {q0:TQueue} {a1:Int} {r:TChange×TQueue}  (H0:partial_Queue_leave.f k q0 a1=some r) (m0 m1 m2 m3 m4 m5 m6 m7 m8 m60 m61:Nat) (hd:ndB [m0,m1,m2,m3,m4,m5,m6,m7,m8,m60,m61]=true):partial_Queue_leave_st q0 a1 r m0 m1 m2 m3 m4 m5 m6 m7 m8 m60 m61 :=
 SCon.ren (rn [(0,m0),(1,m1),(2,m2),(3,m3),(4,m4),(5,m5),(6,m6),(7,m7),(8,m8),(60,m60),(61,m61)]) (partial_Queue_leave_con0 (k:=k)   H0) ⟨(blk_ren R R),(blk_ren R R),(pl_ren R),(blk_ren R R),(pl_ren R),(blk_ren R R),(pl_ren R),(blk_ren R R),(pl_ren R),trivial⟩ ⟨(blk_ren R R),(blk_ren R R),(pl_ren R),(blk_ren R R),(pl_ren R),(blk_ren R R),(pl_ren R),(blk_ren R R),(pl_ren R),(lrow_ren R),(lrow_ren R),trivial⟩ (rn_nd hd R R) (rn_ks hd R R R)
abbrev partial_Queue_Delete_st (q0:TQueue) (a1:Int) (r:TChange×Int×TQueue) (m0:Nat) (m1:Nat) (m2:Nat) (m3:Nat) (m4:Nat) (m5:Nat) (m6:Nat) (m7:Nat) (m8:Nat) (m60:Nat) (m61:Nat):Prop:=SCon Tryz.prog 80 [SV.p m0 0,.a (.c (.v (.int .i64 a1)))] (tkQueue m0 m1 m2 m3 m4 m5 m6 m7 m8 q0 []) (.tup [.agg [.nv m60,.nv m61],.c (.v (.int .i64 r.2.1))]) (tkQueue m0 m1 m2 m3 m4 m5 m6 m7 m8 r.2.2 [(m60,lrow m60 28 eTItem 2 (r.1.in_)),(m61,lrow m61 28 eTItem 2 (r.1.out))]) [m60,m61]
theorem partial_Queue_Delete_con0 {k:Nat}  {q0:TQueue} {a1:Int} {r:TChange×Int×TQueue}  (H0:partial_Queue_Delete.f k q0 a1=some r):partial_Queue_Delete_st q0 a1 r 0 1 2 3 4 5 6 7 8 60 61:=by
 rw [partial_Queue_Delete.f] at H0
 refine spec_of [(0,_),(1,_)] [(0,_),(1,_),(2,_),(3,_),(4,_),(5,_),(6,_),(7,_),(8,_)] 32 Tryz.func80 R Tryz.ntmps80 R R R R (fun β W F=>?_)
 refine G.seq<|G.rg<|K.alloc Y 100 _ g0 t64 R R R R R<|K.as R R<|K.nil<|At.nilBlk (n:=100) (l':=[_,_]) 0 101 28 eTItem 2 R R R R R<|At.nilBlk (n:=100) (l':=[_,_]) 1 102 28 eTItem 2 R R R R R<|At.ns<|G.seq ?_
 obtain ⟨x1,hx1,H0⟩:=bnd H0
 refine G.rg<|K.mv R R<|K.mv R R<|K.cR (cf 110 R) (partial_Queue_may_con hx1 0 1 2 3 4 5 6 7 8) g0 R R R R<|K.as R R<|K.nil<|At.nr<|K.mv R R<|K.bin (V:=.bool (x1 != 0)) g0 R R (fun _=>R) R<|K.nil<|At.next<|G.cond R (fun h1=>?_) (fun h1=>?_)
 ·
  replace H0:=bif_t H0 h1
  refine G.seq<|G.rg<|K.build Y [] [_,_] [] g0 (AllE.spec trivial) R R t64 R R<|K.mv R R<|K.store Y _ g0 R R R t64 R R R R R<|K.as R R<|K.nil<|At.nilAgg (t:=13) (l':=[_,_]) 0 103 28 eTItem 2 R R R R R<|At.nilAgg (t:=13) (l':=[_,_]) 1 104 28 eTItem 2 R R R R R<|At.nilBlk (n:=100) (l':=[_,_]) 0 105 28 eTItem 2 R R R R R<|At.nilBlk (n:=100) (l':=[_,_]) 1 106 28 eTItem 2 R R R R R<|At.next<|G.ret<|At.over_ret<|At.ren (fs':=[(4,.a (.c (.p 100 0))),(5,.a (.c (.v (.int .i64 x1))))]) (tl:=(tkQueue 0 1 2 3 4 5 6 7 8 q0 [(60,lrow 60 28 eTItem 2 ([]:List TItem)),(61,lrow 61 28 eTItem 2 ([]:List TItem)),(100,blk 100 [.nv 60,.nv 61] 64)])) [(60,105),(61,106)] [_,_,_,_,_,_,_,_,_,_,_,_] R ⟨R,R,trivial⟩ ⟨R,(blk_ren R R),R,(blk_ren R R),R,(pl_ren R),R,(blk_ren R R),R,(pl_ren R),R,(blk_ren R R),R,(pl_ren R),R,(blk_ren R R),R,(pl_ren R),R,(lrow_ren R),R,(lrow_ren R),R,(blk_ren R R),trivial⟩ R<|At.done Y [(.cell 4 64,.agg [_,_]),(.tmp 5,.c _)] R ⟨.st R R t64 R R,.tmp R,trivial⟩ (to':=[(0,_),(1,_),(2,_),(3,_),(4,_),(5,_),(6,_),(7,_),(8,_),(60,_),(61,_)]) ⟨R,R,R,R,R,R,R,R,R,R,R,trivial⟩ ?_ ?_ R R R (.inl R)
  · cases H0;rfl
  · cases H0;rfl
 ·
  replace H0:=bif_f H0 h1
  refine G.skip<|At.ns ?_
  obtain ⟨x2,hx2,H0⟩:=bnd H0
  obtain ⟨x3,hx3,H0⟩:=bnd H0
  obtain ⟨x4,hx4,H0⟩:=bnd H0
  refine G.rd mixed<|K.mv R R<|K.mv R R<|K.nilCheck g0 R R<|K.fieldAddr Y g0 R t99 R R<|K.load1 Y g0 R R t97 R R<|K.mv R R<|K.cR (cf 58 R) (wave_Key_con hx2) g0 R R R R<|K.cR (cf 59 R) (Tree_RankM_con hx3 1 2) g0 R R R R<|K.c0 (cf 62 R) (partial_Queue_leave_con hx4 0 1 2 3 4 5 6 7 8 107 108 R) g0 R R R R<|K.alloc Y 109 _ g0 t64 R R R R R<|K.store Y _ g0 R R R t64 R R R R R<|K.nil<|And.intro (by kernel_rfl)<|At.ns ?_
  obtain ⟨x5,hx5,H0⟩:=bnd H0
  obtain ⟨x6,hx6,H0⟩:=bnd H0
  refine G.rd mixed<|K.mv R R<|K.nilCheck g0 R R<|K.fieldAddr Y g0 R t99 R R<|K.load1 Y g0 R R t97 R R<|K.mv R R<|K.cR (cf 58 R) (wave_Key_con hx5) g0 R R R R<|K.c0 (cf 112 R) (Tree_PutM_con hx6 1 2) g0 R R R R<|K.nil<|And.intro (by kernel_rfl)<|At.nr<|K.loadS Y _ g0 R R t64 R R R<|K.store Y _ g0 R R R t64 R R R R R<|K.as R R<|K.nil<|At.next<|G.ret<|At.ren (fs':=[(4,.a (.c (.p 100 0))),(5,.a (.c (.v (.int .i64 0))))]) (tl:=(tkQueue 0 1 2 3 4 5 6 7 8 (TQueue.mk x4.2.capacity (TS.mk x6.2.2 x6.2.1) x4.2.present x4.2.gone x4.2.times x4.2.excess) [(60,lrow 60 28 eTItem 2 x4.1.in_),(61,lrow 61 28 eTItem 2 x4.1.out),(100,blk 100 [.nv 60,.nv 61] 64)])) [(60,107),(61,108)] [_,_,_,_,_,_,_,_,_,_,_,_] R ⟨R,R,trivial⟩ ⟨R,(blk_ren R R),R,(blk_ren R R),R,(pl_ren R),R,(blk_ren R R),R,(pl_ren R),R,(blk_ren R R),R,(pl_ren R),R,(blk_ren R R),R,(pl_ren R),R,(lrow_ren R),R,(lrow_ren R),R,(blk_ren R R),trivial⟩ R<|At.done Y [(.cell 4 64,.agg [_,_]),(.tmp 5,.c _)] R ⟨.st R R t64 R R,.tmp R,trivial⟩ (to':=[(0,_),(1,_),(2,_),(3,_),(4,_),(5,_),(6,_),(7,_),(8,_),(60,_),(61,_)]) ⟨R,R,R,R,R,R,R,R,R,R,R,trivial⟩ ?_ ?_ R R R (.inl R)
  · cases H0;rfl
  · cases H0;rfl
theorem partial_Queue_Delete_con {k:Nat}  {q0:TQueue} {a1:Int} {r:TChange×Int×TQueue}  (H0:partial_Queue_Delete.f k q0 a1=some r) (m0 m1 m2 m3 m4 m5 m6 m7 m8 m60 m61:Nat) (hd:ndB [m0,m1,m2,m3,m4,m5,m6,m7,m8,m60,m61]=true):partial_Queue_Delete_st q0 a1 r m0 m1 m2 m3 m4 m5 m6 m7 m8 m60 m61 :=
 SCon.ren (rn [(0,m0),(1,m1),(2,m2),(3,m3),(4,m4),(5,m5),(6,m6),(7,m7),(8,m8),(60,m60),(61,m61)]) (partial_Queue_Delete_con0 (k:=k)   H0) ⟨(blk_ren R R),(blk_ren R R),(pl_ren R),(blk_ren R R),(pl_ren R),(blk_ren R R),(pl_ren R),(blk_ren R R),(pl_ren R),trivial⟩ ⟨(blk_ren R R),(blk_ren R R),(pl_ren R),(blk_ren R R),(pl_ren R),(blk_ren R R),(pl_ren R),(blk_ren R R),(pl_ren R),(lrow_ren R),(lrow_ren R),trivial⟩ (rn_nd hd R R) (rn_ks hd R R R)
abbrev partial_Queue_enter_st (q0:TQueue) (a1:Int) (r:TChange×TQueue) (m0:Nat) (m1:Nat) (m2:Nat) (m3:Nat) (m4:Nat) (m5:Nat) (m6:Nat) (m7:Nat) (m8:Nat) (m60:Nat) (m61:Nat):Prop:=SCon Tryz.prog 60 [SV.p m0 0,.a (.c (.v (.int .i64 a1)))] (tkQueue m0 m1 m2 m3 m4 m5 m6 m7 m8 q0 []) (.a (.agg [.nv m60,.nv m61])) (tkQueue m0 m1 m2 m3 m4 m5 m6 m7 m8 r.2 [(m60,lrow m60 28 eTItem 2 (r.1.in_)),(m61,lrow m61 28 eTItem 2 (r.1.out))]) [m60,m61]
theorem partial_Queue_enter_con0 {k:Nat}  {q0:TQueue} {a1:Int} {r:TChange×TQueue}  (H0:partial_Queue_enter.f k q0 a1=some r):partial_Queue_enter_st q0 a1 r 0 1 2 3 4 5 6 7 8 60 61:=by
 rw [partial_Queue_enter.f] at H0
 refine spec_of [(0,_),(1,_)] [(0,_),(1,_),(2,_),(3,_),(4,_),(5,_),(6,_),(7,_),(8,_)] 45 Tryz.func60 R Tryz.ntmps60 R R R R (fun β W F=>?_)
 refine G.seq<|G.rg<|K.alloc Y 100 _ g0 t64 R R R R R<|K.nil<|At.nilBlk (n:=100) (l':=[_,_]) 0 101 28 eTItem 2 R R R R R<|At.nilBlk (n:=100) (l':=[_,_]) 1 102 28 eTItem 2 R R R R R<|At.ns ?_
 obtain ⟨x1,hx1,H0⟩:=bnd H0
 refine G.rd mixed<|K.mv R R<|K.nilCheck g0 R R<|K.fieldAddr Y g0 R t99 R R<|K.load1 Y g0 R R t97 R R<|K.mv R R<|K.mv R R<|K.nilCheck g0 R R<|K.fieldAddr Y g0 R t99 R R<|K.load1 Y g0 R R t3 R R<|K.cR (cf 85 R) (bridge_Prior_con hx1 1 2) g0 R R R R<|K.as R R<|K.nil<|And.intro (by kernel_rfl)<|At.ns<|G.seq<|G.rg<|K.mv R R<|K.bin (V:=.bool (decide (x1<0))) g0 R R (fun _=>R) R<|K.nil<|At.next<|G.cond R (fun h1=>?_) (fun h1=>?_)
 ·
  replace H0:=bif_t H0 h1
  refine G.seq<|G.rg<|K.mv R R<|K.nilCheck g0 R R<|K.fieldAddr Y g0 R t99 R R<|K.load1 Y g0 R R t3 R R<|K.bin (V:=.int .i64 (w64 (q0.excess - 1))) g0 R R (fun _=>R) R<|K.nilCheck g0 R R<|K.fieldAddr Y g0 R t99 R R<|K.store Y _ g0 R R R t3 R R R R R<|K.nil<|At.nr<|K.build Y [] [_,_] [] g0 (AllE.spec trivial) R R t64 R R<|K.store Y _ g0 R R R t64 R R R R R<|K.nil<|At.nilAgg (t:=26) (l':=[_,_]) 0 103 28 eTItem 2 R R R R R<|At.nilAgg (t:=26) (l':=[_,_]) 1 104 28 eTItem 2 R R R R R<|At.nilBlk (n:=100) (l':=[_,_]) 0 105 28 eTItem 2 R R R R R<|At.nilBlk (n:=100) (l':=[_,_]) 1 106 28 eTItem 2 R R R R R<|At.next<|G.ret<|At.over_ret<|At.ren (fs':=[(4,.a (.c (.p 100 0)))]) (tl:=(tkQueue 0 1 2 3 4 5 6 7 8 (TQueue.mk q0.capacity q0.marks q0.present q0.gone q0.times (w64 (q0.excess - 1))) [(60,lrow 60 28 eTItem 2 ([]:List TItem)),(61,lrow 61 28 eTItem 2 ([]:List TItem)),(100,blk 100 [.nv 60,.nv 61] 64)])) [(60,105),(61,106)] [_,_,_,_,_,_,_,_,_,_,_,_] R ⟨R,trivial⟩ ⟨R,(blk_ren R R),R,(blk_ren R R),R,(pl_ren R),R,(blk_ren R R),R,(pl_ren R),R,(blk_ren R R),R,(pl_ren R),R,(blk_ren R R),R,(pl_ren R),R,(lrow_ren R),R,(lrow_ren R),R,(blk_ren R R),trivial⟩ R<|At.done Y [(.cell 4 64,.agg [_,_])] R ⟨.st R R t64 R R,trivial⟩ (to':=[(0,_),(1,_),(2,_),(3,_),(4,_),(5,_),(6,_),(7,_),(8,_),(60,_),(61,_)]) ⟨R,R,R,R,R,R,R,R,R,R,R,trivial⟩ ?_ ?_ R R R (.inl R)
  · cases H0;rfl
  · cases H0;rfl
 ·
  replace H0:=bif_f H0 h1
  refine G.skip<|At.ns ?_
  obtain ⟨x2,hx2,H0⟩:=bnd H0
  refine G.rg<|K.mv R R<|K.nilCheck g0 R R<|K.fieldAddr Y g0 R t99 R R<|K.load1 Y g0 R R t97 R R<|K.mv R R<|K.cR (cf 86 R) (bridge_Best_con hx2 1 2) g0 R R R R<|K.alloc Y 107 _ g0 t77 R R R R R<|K.store Y _ g0 R R R t77 R R R R R<|K.nil<|At.ns<|G.seq<|G.rg<|K.fieldAddr Y g0 R t77 R R<|K.load1 Y g0 R R t4 R R<|K.un (V:=.bool (!x2.found)) g0 R (fun _=>R) R<|K.nil<|At.next<|G.cond R (fun h2=>?_) (fun h2=>?_)
  ·
   replace H0:=bif_t H0 h2
   refine G.seq<|G.rg<|K.build Y [] [_,_] [] g0 (AllE.spec trivial) R R t64 R R<|K.store Y _ g0 R R R t64 R R R R R<|K.nil<|At.nilAgg (t:=36) (l':=[_,_]) 0 108 28 eTItem 2 R R R R R<|At.nilAgg (t:=36) (l':=[_,_]) 1 109 28 eTItem 2 R R R R R<|At.nilBlk (n:=100) (l':=[_,_]) 0 110 28 eTItem 2 R R R R R<|At.nilBlk (n:=100) (l':=[_,_]) 1 111 28 eTItem 2 R R R R R<|At.next<|G.ret<|At.over_ret<|At.ren (fs':=[(4,.a (.c (.p 100 0)))]) (tl:=(tkQueue 0 1 2 3 4 5 6 7 8 q0 [(60,lrow 60 28 eTItem 2 ([]:List TItem)),(61,lrow 61 28 eTItem 2 ([]:List TItem)),(100,blk 100 [.nv 60,.nv 61] 64)])) [(60,110),(61,111)] [_,_,_,_,_,_,_,_,_,_,_,_] R ⟨R,trivial⟩ ⟨R,(blk_ren R R),R,(blk_ren R R),R,(pl_ren R),R,(blk_ren R R),R,(pl_ren R),R,(blk_ren R R),R,(pl_ren R),R,(blk_ren R R),R,(pl_ren R),R,(lrow_ren R),R,(lrow_ren R),R,(blk_ren R R),trivial⟩ R<|At.done Y [(.cell 4 64,.agg [_,_])] R ⟨.st R R t64 R R,trivial⟩ (to':=[(0,_),(1,_),(2,_),(3,_),(4,_),(5,_),(6,_),(7,_),(8,_),(60,_),(61,_)]) ⟨R,R,R,R,R,R,R,R,R,R,R,trivial⟩ ?_ ?_ R R R (.inl R)
   · cases H0;rfl
   · cases H0;rfl
  ·
   replace H0:=bif_f H0 h2
   refine G.skip<|At.ns ?_
   obtain ⟨x3,hx3,H0⟩:=bnd H0
   refine G.rg<|K.mv R R<|K.fieldAddr Y g0 R t77 R R<|K.loadS Y _ g0 R R t28 R R R<|K.c0 (cf 87 R) (partial_Queue_turn_con hx3 0 1 2 3 4 5 6 7 8) g0 R R R R<|K.nil<|At.nr<|K.fieldAddr Y g0 R t77 R R<|K.loadS Y _ g0 R R t28 R R R<|K.buildL Y 112 ([x2.item]:List TItem) [(0,_)] [((.tmp 42),_)] eTItem_len g0 (AllE.spec ⟨R,trivial⟩) R R Tryz.underlying54 t28 R R R R R R R R<|K.build Y [(0,_)] [_,_] [((.tmp 43),_)] g0 (AllE.spec ⟨R,trivial⟩) R R t64 R R<|K.store Y _ g0 R R R t64 R R R R R<|K.nil<|At.nilAgg (t:=44) (l':=[_,_]) 1 113 28 eTItem 2 R R R R R<|At.nilBlk (n:=100) (l':=[_,_]) 1 114 28 eTItem 2 R R R R R<|At.next<|G.ret<|At.ren (fs':=[(4,.a (.c (.p 100 0)))]) (tl:=(tkQueue 0 1 2 3 4 5 6 7 8 x3 [(60,lrow 60 28 eTItem 2 ([x2.item]:List TItem)),(61,lrow 61 28 eTItem 2 ([]:List TItem)),(100,blk 100 [.nv 60,.nv 61] 64)])) [(60,112),(61,114)] [_,_,_,_,_,_,_,_,_,_,_,_] R ⟨R,trivial⟩ ⟨R,(blk_ren R R),R,(blk_ren R R),R,(pl_ren R),R,(blk_ren R R),R,(pl_ren R),R,(blk_ren R R),R,(pl_ren R),R,(blk_ren R R),R,(pl_ren R),R,(lrow_ren R),R,(lrow_ren R),R,(blk_ren R R),trivial⟩ R<|At.done Y [(.cell 4 64,.agg [_,_])] R ⟨.st R R t64 R R,trivial⟩ (to':=[(0,_),(1,_),(2,_),(3,_),(4,_),(5,_),(6,_),(7,_),(8,_),(60,_),(61,_)]) ⟨R,R,R,R,R,R,R,R,R,R,R,trivial⟩ ?_ ?_ R R R (.inl R)
   · cases H0;rfl
   · cases H0;rfl
theorem partial_Queue_enter_con {k:Nat}  {q0:TQueue} {a1:Int} {r:TChange×TQueue}  (H0:partial_Queue_enter.f k q0 a1=some r) (m0 m1 m2 m3 m4 m5 m6 m7 m8 m60 m61:Nat) (hd:ndB [m0,m1,m2,m3,m4,m5,m6,m7,m8,m60,m61]=true):partial_Queue_enter_st q0 a1 r m0 m1 m2 m3 m4 m5 m6 m7 m8 m60 m61 :=
 SCon.ren (rn [(0,m0),(1,m1),(2,m2),(3,m3),(4,m4),(5,m5),(6,m6),(7,m7),(8,m8),(60,m60),(61,m61)]) (partial_Queue_enter_con0 (k:=k)   H0) ⟨(blk_ren R R),(blk_ren R R),(pl_ren R),(blk_ren R R),(pl_ren R),(blk_ren R R),(pl_ren R),(blk_ren R R),(pl_ren R),trivial⟩ ⟨(blk_ren R R),(blk_ren R R),(pl_ren R),(blk_ren R R),(pl_ren R),(blk_ren R R),(pl_ren R),(blk_ren R R),(pl_ren R),(lrow_ren R),(lrow_ren R),trivial⟩ (rn_nd hd R R) (rn_ks hd R R R)
abbrev partial_Queue_Revoke_st (q0:TQueue) (a1:Int) (r:TChange×Int×TQueue) (m0:Nat) (m1:Nat) (m2:Nat) (m3:Nat) (m4:Nat) (m5:Nat) (m6:Nat) (m7:Nat) (m8:Nat) (m60:Nat) (m61:Nat):Prop:=SCon Tryz.prog 31 [SV.p m0 0,.a (.c (.v (.int .i64 a1)))] (tkQueue m0 m1 m2 m3 m4 m5 m6 m7 m8 q0 []) (.tup [.agg [.nv m60,.nv m61],.c (.v (.int .i64 r.2.1))]) (tkQueue m0 m1 m2 m3 m4 m5 m6 m7 m8 r.2.2 [(m60,lrow m60 28 eTItem 2 (r.1.in_)),(m61,lrow m61 28 eTItem 2 (r.1.out))]) [m60,m61]
theorem partial_Queue_Revoke_con0 {k:Nat}  {q0:TQueue} {a1:Int} {r:TChange×Int×TQueue}  (H0:partial_Queue_Revoke.f k q0 a1=some r):partial_Queue_Revoke_st q0 a1 r 0 1 2 3 4 5 6 7 8 60 61:=by
 rw [partial_Queue_Revoke.f] at H0
 refine spec_of [(0,_),(1,_)] [(0,_),(1,_),(2,_),(3,_),(4,_),(5,_),(6,_),(7,_),(8,_)] 93 Tryz.func31 R Tryz.ntmps31 R R R R (fun β W F=>?_)
 refine G.seq<|G.rg<|K.alloc Y 100 _ g0 t64 R R R R R<|K.as R R<|K.nil<|At.nilBlk (n:=100) (l':=[_,_]) 0 101 28 eTItem 2 R R R R R<|At.nilBlk (n:=100) (l':=[_,_]) 1 102 28 eTItem 2 R R R R R<|At.ns ?_
 obtain ⟨x1,hx1,H0⟩:=bnd H0
 obtain ⟨x2,hx2,H0⟩:=bnd H0
 refine G.rd mixed<|K.mv R R<|K.nilCheck g0 R R<|K.fieldAddr Y g0 R t99 R R<|K.load1 Y g0 R R t97 R R<|K.mv R R<|K.cR (cf 58 R) (wave_Key_con hx1) g0 R R R R<|K.cR (cf 57 R) (Tree_FindM_con hx2 1 2) g0 R R R R<|K.mv R R<|K.extract g0 R R R<|K.extract g0 R R R<|K.alloc Y 103 _ g0 t101 R R R R R<|K.store Y _ g0 R R R t101 R R R R R<|K.as R R<|K.nil<|And.intro (by kernel_rfl)<|At.ns<|G.seq<|G.rg<|K.mv R R<|K.un (V:=.bool (!x2.2)) g0 R (fun _=>R) R<|K.nil<|At.next<|G.cond R (fun h1=>?_) (fun h1=>?_)
 ·
  replace H0:=bif_t H0 h1
  refine G.seq<|G.rg<|K.build Y [] [_,_] [] g0 (AllE.spec trivial) R R t64 R R<|K.store Y _ g0 R R R t64 R R R R R<|K.as R R<|K.nil<|At.nilAgg (t:=23) (l':=[_,_]) 0 104 28 eTItem 2 R R R R R<|At.nilAgg (t:=23) (l':=[_,_]) 1 105 28 eTItem 2 R R R R R<|At.nilBlk (n:=100) (l':=[_,_]) 0 106 28 eTItem 2 R R R R R<|At.nilBlk (n:=100) (l':=[_,_]) 1 107 28 eTItem 2 R R R R R<|At.next<|G.ret<|At.over_ret<|At.ren (fs':=[(4,.a (.c (.p 100 0))),(5,.a (.c (.v (.int .i64 14))))]) (tl:=(tkQueue 0 1 2 3 4 5 6 7 8 q0 [(60,lrow 60 28 eTItem 2 ([]:List TItem)),(61,lrow 61 28 eTItem 2 ([]:List TItem)),(100,blk 100 [.nv 60,.nv 61] 64)])) [(60,106),(61,107)] [_,_,_,_,_,_,_,_,_,_,_,_] R ⟨R,R,trivial⟩ ⟨R,(blk_ren R R),R,(blk_ren R R),R,(pl_ren R),R,(blk_ren R R),R,(pl_ren R),R,(blk_ren R R),R,(pl_ren R),R,(blk_ren R R),R,(pl_ren R),R,(lrow_ren R),R,(lrow_ren R),R,(blk_ren R R),trivial⟩ R<|At.done Y [(.cell 4 64,.agg [_,_]),(.tmp 5,.c _)] R ⟨.st R R t64 R R,.tmp R,trivial⟩ (to':=[(0,_),(1,_),(2,_),(3,_),(4,_),(5,_),(6,_),(7,_),(8,_),(60,_),(61,_)]) ⟨R,R,R,R,R,R,R,R,R,R,R,trivial⟩ ?_ ?_ R R R (.inl R)
  · cases H0;rfl
  · cases H0;rfl
 ·
  replace H0:=bif_f H0 h1
  refine G.skip<|At.ns ?_
  obtain ⟨x3,hx3,H0⟩:=bnd H0
  obtain ⟨x4,hx4,H0⟩:=bnd H0
  refine G.rd mixed<|K.mv R R<|K.nilCheck g0 R R<|K.fieldAddr Y g0 R t99 R R<|K.load1 Y g0 R R t97 R R<|K.mv R R<|K.cR (cf 58 R) (wave_Key_con hx3) g0 R R R R<|K.cR (cf 59 R) (Tree_RankM_con hx4 1 2) g0 R R R R<|K.as R R<|K.nil<|And.intro (by kernel_rfl)<|At.ns<|G.seq<|G.rg<|K.fieldAddr Y g0 R t101 R R<|K.fieldAddr Y g0 R t45 R R<|K.load1 Y g0 R R t4 R R<|K.un (V:=.bool (!x2.1.op.insert)) g0 R (fun _=>R) R<|K.nil<|At.next<|G.cond R (fun h2=>?_) (fun h2=>?_)
  ·
   replace H0:=bif_t H0 h2
   refine G.seq ?_
   obtain ⟨x5,hx5,H0⟩:=bnd H0
   refine G.rg<|K.mv R R<|K.mv R R<|K.c0 (cf 60 R) (partial_Queue_enter_con hx5 0 1 2 3 4 5 6 7 8 108 109 R) g0 R R R R<|K.alloc Y 110 _ g0 t64 R R R R R<|K.store Y _ g0 R R R t64 R R R R R<|K.nil<|At.ns ?_
   obtain ⟨x6,hx6,H0⟩:=bnd H0
   obtain ⟨x7,hx7,H0⟩:=bnd H0
   refine G.rd mixed<|K.mv R R<|K.nilCheck g0 R R<|K.fieldAddr Y g0 R t99 R R<|K.load1 Y g0 R R t97 R R<|K.mv R R<|K.cR (cf 58 R) (wave_Key_con hx6) g0 R R R R<|K.c0 (cf 61 R) (Tree_DropM_con hx7 1 2) g0 R R R R<|K.nil<|And.intro (by kernel_rfl)<|At.nr<|K.loadS Y _ g0 R R t64 R R R<|K.store Y _ g0 R R R t64 R R R R R<|K.as R R<|K.nil<|At.next<|G.ret<|At.over_ret<|At.ren (fs':=[(4,.a (.c (.p 100 0))),(5,.a (.c (.v (.int .i64 0))))]) (tl:=(tkQueue 0 1 2 3 4 5 6 7 8 (TQueue.mk x5.2.capacity (TS.mk x7.2.2.2 x7.2.2.1) x5.2.present x5.2.gone x5.2.times x5.2.excess) [(60,lrow 60 28 eTItem 2 x5.1.in_),(61,lrow 61 28 eTItem 2 x5.1.out),(100,blk 100 [.nv 60,.nv 61] 64)])) [(60,108),(61,109)] [_,_,_,_,_,_,_,_,_,_,_,_] R ⟨R,R,trivial⟩ ⟨R,(blk_ren R R),R,(blk_ren R R),R,(pl_ren R),R,(blk_ren R R),R,(pl_ren R),R,(blk_ren R R),R,(pl_ren R),R,(blk_ren R R),R,(pl_ren R),R,(lrow_ren R),R,(lrow_ren R),R,(blk_ren R R),trivial⟩ R<|At.done Y [(.cell 4 64,.agg [_,_]),(.tmp 5,.c _)] R ⟨.st R R t64 R R,.tmp R,trivial⟩ (to':=[(0,_),(1,_),(2,_),(3,_),(4,_),(5,_),(6,_),(7,_),(8,_),(60,_),(61,_)]) ⟨R,R,R,R,R,R,R,R,R,R,R,trivial⟩ ?_ ?_ R R R (.inl R)
   · cases H0;rfl
   · cases H0;rfl
  ·
   replace H0:=bif_f H0 h2
   refine G.skip<|At.nr<|K.fieldAddr Y g0 R t101 R R<|K.fieldAddr Y g0 R t45 R R<|K.loadS Y _ g0 R R t28 R R R<|K.buildL Y 111 ([x2.1.op.item]:List TItem) [(0,_)] [((.tmp 48),_)] eTItem_len g0 (AllE.spec ⟨R,trivial⟩) R R Tryz.underlying54 t28 R R R R R R R R<|K.build Y [(1,_)] [_,_] [((.tmp 49),_)] g0 (AllE.spec ⟨R,trivial⟩) R R t64 R R<|K.alloc Y 112 _ g0 t64 R R R R R<|K.store Y _ g0 R R R t64 R R R R R<|K.nil<|At.nilAgg (t:=50) (l':=[_,_]) 0 113 28 eTItem 2 R R R R R<|At.nilBlk (n:=112) (l':=[_,_]) 0 114 28 eTItem 2 R R R R R<|At.next ?_
   obtain ⟨x8,H1,H0⟩:=bnd H0
   refine G.sJ (σ:={ v:TQueue×List TItem×List TItem // x8=v }) (fun q=>[(0,.a (.c (.p 0 0))),(1,.a (.c (.v (.int .i64 a1)))),(4,.a (.c (.p 115 0))),(6,.a (.c (.p 118 0))),(10,.a (.c (.p 119 0)))]) (fun q=>(tkQueue 0 1 2 3 4 5 6 7 8 q.1.1 [(116,lrow 116 28 eTItem 2 ([]:List TItem)),(117,lrow 117 28 eTItem 2 ([]:List TItem)),(115,blk 115 [.nv 116,.nv 117] 64),(118,blk 118 [.v (.int .i64 x2.1.op.time),.v (.bool x2.1.op.insert),.v (.int .i64 x2.1.op.item.key),.v (.int .i64 x2.1.op.item.id),.v (.bool x2.1.here),.v (.bool x2.1.took.found),.v (.int .i64 x2.1.took.item.key),.v (.int .i64 x2.1.took.item.id)] 101),(120,lrow 120 28 eTItem 2 q.1.2.1),(121,lrow 121 28 eTItem 2 q.1.2.2),(119,blk 119 [.nv 120,.nv 121] 64)])) ?_ ?_
   ·
    refine G.seq<|G.rg<|K.fieldAddr Y g0 R t101 R R<|K.load1 Y g0 R R t4 R R<|K.un (V:=.bool (!x2.1.here)) g0 R (fun _=>R) R<|K.nil<|At.next<|G.cond R (fun h3=>?_) (fun h3=>?_)
    ·
     replace H1:=bif_t H1 h3
     obtain ⟨x9,hx9,H1⟩:=bnd H1
     exact G.rg<|K.mv R R<|K.mv R R<|K.bin (V:=.int .i64 (w64 (x4+1))) g0 R R (fun _=>R) R<|K.c0 (cf 62 R) (partial_Queue_leave_con hx9 0 1 2 3 4 5 6 7 8 122 123 R) g0 R R R R<|K.store Y _ g0 R R R t64 R R R R R<|K.nil<|At.jd ⟨(x9.2,x9.1.in_,x9.1.out),oi H1⟩ [(115,100),(116,101),(117,102),(118,103),(119,112),(120,122),(121,123)] [_,_,_,_,_,_,_,_,_,_,_,_,_,_,_,_] R ⟨R,R,R,R,R,trivial⟩ ⟨R,(blk_ren R R),R,(blk_ren R R),R,(pl_ren R),R,(blk_ren R R),R,(pl_ren R),R,(blk_ren R R),R,(pl_ren R),R,(blk_ren R R),R,(pl_ren R),R,(lrow_ren R),R,(lrow_ren R),R,(blk_ren R R),R,(blk_ren R R),R,(lrow_ren R),R,(lrow_ren R),R,(blk_ren R R),trivial⟩ R
    ·
     replace H1:=bif_f H1 h3
     exact G.skip<|At.jd ⟨(q0,([]:List TItem),([x2.1.op.item]:List TItem)),oi H1⟩ [(115,100),(116,101),(117,102),(118,103),(119,112),(120,114),(121,111)] [_,_,_,_,_,_,_,_,_,_,_,_,_,_,_,_] R ⟨R,R,R,R,R,trivial⟩ ⟨R,(blk_ren R R),R,(blk_ren R R),R,(pl_ren R),R,(blk_ren R R),R,(pl_ren R),R,(blk_ren R R),R,(pl_ren R),R,(blk_ren R R),R,(pl_ren R),R,(lrow_ren R),R,(lrow_ren R),R,(blk_ren R R),R,(blk_ren R R),R,(lrow_ren R),R,(lrow_ren R),R,(blk_ren R R),trivial⟩ R
   ·
    rintro ⟨_,rfl⟩
    show G _ _ [(0,.a (.c (.p 0 0))),(1,.a (.c (.v (.int .i64 a1)))),(4,.a (.c (.p 115 0))),(6,.a (.c (.p 118 0))),(10,.a (.c (.p 119 0)))] (sm (tkQueue 0 1 2 3 4 5 6 7 8 x8.1 [(116,lrow 116 28 eTItem 2 ([]:List TItem)),(117,lrow 117 28 eTItem 2 ([]:List TItem)),(115,blk 115 [.nv 116,.nv 117] 64),(118,blk 118 [.v (.int .i64 x2.1.op.time),.v (.bool x2.1.op.insert),.v (.int .i64 x2.1.op.item.key),.v (.int .i64 x2.1.op.item.id),.v (.bool x2.1.here),.v (.bool x2.1.took.found),.v (.int .i64 x2.1.took.item.key),.v (.int .i64 x2.1.took.item.id)] 101),(120,lrow 120 28 eTItem 2 x8.2.1),(121,lrow 121 28 eTItem 2 x8.2.2),(119,blk 119 [.nv 120,.nv 121] 64)])) _ _
    refine G.seq ?_
    obtain ⟨x10,hx10,H0⟩:=bnd H0
    obtain ⟨x11,hx11,H0⟩:=bnd H0
    refine G.rd mixed<|K.mv R R<|K.nilCheck g0 R R<|K.fieldAddr Y g0 R t99 R R<|K.load1 Y g0 R R t97 R R<|K.mv R R<|K.cR (cf 58 R) (wave_Key_con hx10) g0 R R R R<|K.c0 (cf 61 R) (Tree_DropM_con hx11 1 2) g0 R R R R<|K.nil<|And.intro (by kernel_rfl)<|At.ns ?_
    obtain ⟨x12,hx12,H0⟩:=bnd H0
    obtain ⟨x13,hx13,H0⟩:=bnd H0
    refine G.rd mixed<|K.mv R R<|K.nilCheck g0 R R<|K.fieldAddr Y g0 R t99 R R<|K.load1 Y g0 R R t75 R R<|K.fieldAddr Y g0 R t101 R R<|K.fieldAddr Y g0 R t45 R R<|K.loadS Y _ g0 R R t28 R R R<|K.cR (cf 45 R) (shelf_Of_con hx12) g0 R R R R<|K.c0 (cf 63 R) (Tree_DropS_con hx13 3 4) g0 R R R R<|K.nil<|And.intro (by kernel_rfl)<|At.ns ?_
    obtain ⟨x14,hx14,H0⟩:=bnd H0
    obtain ⟨x15,hx15,H0⟩:=bnd H0
    refine G.rd mixed<|K.mv R R<|K.nilCheck g0 R R<|K.fieldAddr Y g0 R t99 R R<|K.load1 Y g0 R R t75 R R<|K.fieldAddr Y g0 R t101 R R<|K.fieldAddr Y g0 R t45 R R<|K.loadS Y _ g0 R R t28 R R R<|K.cR (cf 45 R) (shelf_Of_con hx14) g0 R R R R<|K.c0 (cf 63 R) (Tree_DropS_con hx15 5 6) g0 R R R R<|K.nil<|And.intro (by kernel_rfl)<|At.ns ?_
    obtain ⟨x16,hx16,H0⟩:=bnd H0
    obtain ⟨x17,hx17,H0⟩:=bnd H0
    refine G.rd mixed<|K.mv R R<|K.nilCheck g0 R R<|K.fieldAddr Y g0 R t99 R R<|K.load1 Y g0 R R t75 R R<|K.fieldAddr Y g0 R t101 R R<|K.fieldAddr Y g0 R t45 R R<|K.loadS Y _ g0 R R t28 R R R<|K.cR (cf 45 R) (shelf_Of_con hx16) g0 R R R R<|K.c0 (cf 63 R) (Tree_DropS_con hx17 7 8) g0 R R R R<|K.nil<|And.intro (by kernel_rfl)<|At.nr<|K.loadS Y _ g0 R R t64 R R R<|K.store Y _ g0 R R R t64 R R R R R<|K.as R R<|K.nil<|At.next<|G.ret<|At.ren (fs':=[(4,.a (.c (.p 115 0))),(5,.a (.c (.v (.int .i64 0))))]) (tl:=(tkQueue 0 1 2 3 4 5 6 7 8 (TQueue.mk x8.1.capacity (TS.mk x11.2.2.2 x11.2.2.1) (TS.mk x13.2.2.2 x13.2.2.1) (TS.mk x15.2.2.2 x15.2.2.1) (TS.mk x17.2.2.2 x17.2.2.1) x8.1.excess) [(60,lrow 60 28 eTItem 2 x8.2.1),(61,lrow 61 28 eTItem 2 x8.2.2),(115,blk 115 [.nv 60,.nv 61] 64)])) [(60,120),(61,121)] [_,_,_,_,_,_,_,_,_,_,_,_] R ⟨R,R,trivial⟩ ⟨R,(blk_ren R R),R,(blk_ren R R),R,(pl_ren R),R,(blk_ren R R),R,(pl_ren R),R,(blk_ren R R),R,(pl_ren R),R,(blk_ren R R),R,(pl_ren R),R,(lrow_ren R),R,(lrow_ren R),R,(blk_ren R R),trivial⟩ R<|At.done Y [(.cell 4 64,.agg [_,_]),(.tmp 5,.c _)] R ⟨.st R R t64 R R,.tmp R,trivial⟩ (to':=[(0,_),(1,_),(2,_),(3,_),(4,_),(5,_),(6,_),(7,_),(8,_),(60,_),(61,_)]) ⟨R,R,R,R,R,R,R,R,R,R,R,trivial⟩ ?_ ?_ R R R (.inl R)
    · cases H0;rfl
    · cases H0;rfl
theorem partial_Queue_Revoke_con {k:Nat}  {q0:TQueue} {a1:Int} {r:TChange×Int×TQueue}  (H0:partial_Queue_Revoke.f k q0 a1=some r) (m0 m1 m2 m3 m4 m5 m6 m7 m8 m60 m61:Nat) (hd:ndB [m0,m1,m2,m3,m4,m5,m6,m7,m8,m60,m61]=true):partial_Queue_Revoke_st q0 a1 r m0 m1 m2 m3 m4 m5 m6 m7 m8 m60 m61 :=
 SCon.ren (rn [(0,m0),(1,m1),(2,m2),(3,m3),(4,m4),(5,m5),(6,m6),(7,m7),(8,m8),(60,m60),(61,m61)]) (partial_Queue_Revoke_con0 (k:=k)   H0) ⟨(blk_ren R R),(blk_ren R R),(pl_ren R),(blk_ren R R),(pl_ren R),(blk_ren R R),(pl_ren R),(blk_ren R R),(pl_ren R),trivial⟩ ⟨(blk_ren R R),(blk_ren R R),(pl_ren R),(blk_ren R R),(pl_ren R),(blk_ren R R),(pl_ren R),(blk_ren R R),(pl_ren R),(lrow_ren R),(lrow_ren R),trivial⟩ (rn_nd hd R R) (rn_ks hd R R R)
abbrev partial_Queue_Ops_st (q0:TQueue) (r:List TOp) (m0:Nat) (m1:Nat) (m2:Nat) (m3:Nat) (m4:Nat) (m5:Nat) (m6:Nat) (m7:Nat) (m8:Nat) (m30:Nat):Prop:=SCon Tryz.prog 38 [SV.p m0 0] (tkQueue m0 m1 m2 m3 m4 m5 m6 m7 m8 q0 []) (.a (.c (.nv m30))) (tkQueue m0 m1 m2 m3 m4 m5 m6 m7 m8 q0 [(m30,lrow m30 45 eTOp 4 r)]) [m30]
theorem partial_Queue_Ops_con0 {k:Nat}  {q0:TQueue} {r:List TOp}  (H0:partial_Queue_Ops.f k q0=some r):partial_Queue_Ops_st q0 r 0 1 2 3 4 5 6 7 8 30:=by
 rw [partial_Queue_Ops.f] at H0
 refine spec_of [(0,_)] [(0,_),(1,_),(2,_),(3,_),(4,_),(5,_),(6,_),(7,_),(8,_)] 23 Tryz.func38 R Tryz.ntmps38 R R R R (fun β W F=>?_)
 refine G.seq<|G.rg<|K.nilRow 100 45 eTOp 4 (.inl R) g0 R R R<|K.nil<|At.nr<|K.nilRow 101 45 eTOp 4 (.inl R) g0 R R R<|K.nil<|At.next ?_
 obtain ⟨x1,H1,H0⟩:=bnd H0
 refine G.sJ (σ:={ v:List TOp // x1=v }) (fun q=>[(3,.a (.c (.nv 102)))]) (fun q=>((102,lrow 102 45 eTOp 4 q.1)::(tkQueue 0 1 2 3 4 5 6 7 8 q0 []))) ?_ ?_
 ·
  refine G.seq ?_
  obtain ⟨x2,hx2,H1⟩:=bnd H1
  refine G.rg<|K.mv R R<|K.nilCheck g0 R R<|K.fieldAddr Y g0 R t99 R R<|K.load1 Y g0 R R t97 R R<|K.c0 (cf 64 R) (Tree_AllM_con hx2 1 2 103 R) g0 R R R R<|K.lenL (lrowV 103 101 eTMark 8 x2) (lrowV_is eTMark_len (by decide)) g0 R R Tryz.underlying111 R<|K.mv R R<|K.nil<|At.next<|G.block<|G.lp (σ:={ q:Nat×(List TOp×Int) // partial_Queue_Ops.l0 k x2 q.1 q.2=some x1 }) (fun q=>[(3,.a (.c (.nv 108))),(10,.a (.c (.nv 109))),(11,.a (.c (.v (.int .i64 (x2.length:Int))))),(12,.a (.c (.v (.int .i64 q.1.2.2))))]) (fun q=>((108,lrow 108 45 eTOp 4 q.1.2.1)::((109,lrow 109 101 eTMark 8 x2)::(tkQueue 0 1 2 3 4 5 6 7 8 q0 [])))) (fun q=>q.1.1) ⟨(k,(([]:List TOp),0)),H1⟩ ?_ ?_
  · exact At.into [(108,101),(109,103)] [_,_,_,_,_,_,_,_,_,_,_] R ⟨R,R,R,R,trivial⟩ ⟨R,(lrow_ren R),R,(lrow_ren R),R,(blk_ren R R),R,(blk_ren R R),R,(pl_ren R),R,(blk_ren R R),R,(pl_ren R),R,(blk_ren R R),R,(pl_ren R),R,(blk_ren R R),R,(pl_ren R),trivial⟩ R
  ·
   rintro ⟨⟨n0,v1,v2⟩,H1⟩
   show G _ _ [(3,.a (.c (.nv 108))),(10,.a (.c (.nv 109))),(11,.a (.c (.v (.int .i64 (x2.length:Int))))),(12,.a (.c (.v (.int .i64 v2))))] (sm ((108,lrow 108 45 eTOp 4 v1)::((109,lrow 109 101 eTMark 8 x2)::(tkQueue 0 1 2 3 4 5 6 7 8 q0 [])))) _ _
   cases n0 with
   | zero => exact absurd H1 (by simp [partial_Queue_Ops.l0])
   | succ n0 =>
    have HL0:=H1
    rw [partial_Queue_Ops.l0] at H1
    refine G.seq<|G.rg<|K.bin (V:=.bool (decide (v2<(x2.length:Int)))) g0 R R (fun _=>R) R<|K.nil<|At.ns<|G.cond R (fun h1=>?_) (fun h1=>?_)
    ·
     replace H1:=bif_t H1 h1
     refine G.skip<|At.ns<|G.block<|G.seq ?_
     obtain ⟨x3,hx3,H1⟩:=bnd H1
     refine G.rg<|K.idxL (lrowV 109 101 eTMark 8 x2) ((v2).toNat) (lrowV_is eTMark_len (by decide)) (atL_get hx3) (atL_nn hx3) g0 R R R Tryz.underlying111 el111.size_run R<|K.loadSL Y (lrowV 109 101 eTMark 8 x2) ((v2).toNat) 0 [_,_,_,_,_,_,_,_] [_,_,_,_,_,_,_,_] (lrowV_is eTMark_len (by decide)) (atL_get hx3) g0 R R t101 R R R R R<|K.alloc Y 110 _ g0 t101 R R R R R<|K.store Y _ g0 R R R t101 R R R R R<|K.nil<|At.next ?_
     obtain ⟨h2,H1⟩:=grd H1
     exact G.rg<|K.mv R R<|K.fieldAddr Y g0 R t101 R R<|K.loadS Y _ g0 R R t45 R R R<|K.buildL Y 111 ([x3.op]:List TOp) [(0,_)] [((.tmp 18),_)] eTOp_len g0 (AllE.spec ⟨R,trivial⟩) R R Tryz.underlying34 t45 R R R R R R R R<|K.appendL 112 (lrowV 111 45 eTOp 4 ([x3.op]:List TOp)) _ el34 (lrowV_is eTOp_len (by decide)) eTOp_one g0 R R R R R (ap_m h2) (ap_b h2 (by decide)) R R R R R R<|K.as R R<|K.nil<|At.block_normal<|At.next<|G.rg<|K.bin (V:=.int .i64 (w64 (v2+1))) g0 R R (fun _=>R) R<|K.mv R R<|K.nil<|At.ag ⟨(n0,((v1++([x3.op]:List TOp)),(w64 (v2+1)))),H1⟩ [(108,112)] [_,_,_,_,_,_,_,_,_,_,_] (Nat.lt_succ_self _) R ⟨R,R,R,R,trivial⟩ ⟨R,(lrow_ren R),R,(lrow_ren R),R,(blk_ren R R),R,(blk_ren R R),R,(pl_ren R),R,(blk_ren R R),R,(pl_ren R),R,(blk_ren R R),R,(pl_ren R),R,(blk_ren R R),R,(pl_ren R),trivial⟩ R
    ·
     replace H1:=bif_f H1 h1
     exact G.exit<|At.over_exit<|At.over_exit<|At.block_hit<|At.jd ⟨v1,oi H1⟩ [(102,108)] [_,_,_,_,_,_,_,_,_,_] R ⟨R,trivial⟩ ⟨R,(lrow_ren R),R,(blk_ren R R),R,(blk_ren R R),R,(pl_ren R),R,(blk_ren R R),R,(pl_ren R),R,(blk_ren R R),R,(pl_ren R),R,(blk_ren R R),R,(pl_ren R),trivial⟩ R
 ·
  rintro ⟨_,rfl⟩
  show G _ _ [(3,.a (.c (.nv 102)))] (sm ((102,lrow 102 45 eTOp 4 x1)::(tkQueue 0 1 2 3 4 5 6 7 8 q0 []))) _ _
  exact G.seq<|G.rg<|K.mv R R<|K.as R R<|K.nil<|At.next<|G.ret<|At.ren (fs':=[(2,.a (.c (.nv 30)))]) (tl:=(tkQueue 0 1 2 3 4 5 6 7 8 q0 [(30,lrow 30 45 eTOp 4 x1)])) [(30,102)] [_,_,_,_,_,_,_,_,_,_] R ⟨R,trivial⟩ ⟨R,(blk_ren R R),R,(blk_ren R R),R,(pl_ren R),R,(blk_ren R R),R,(pl_ren R),R,(blk_ren R R),R,(pl_ren R),R,(blk_ren R R),R,(pl_ren R),R,(lrow_ren R),trivial⟩ R<|At.dr Y [2] R R (by cases H0;rfl) (by cases H0;rfl) R R R
theorem partial_Queue_Ops_con {k:Nat}  {q0:TQueue} {r:List TOp}  (H0:partial_Queue_Ops.f k q0=some r) (m0 m1 m2 m3 m4 m5 m6 m7 m8 m30:Nat) (hd:ndB [m0,m1,m2,m3,m4,m5,m6,m7,m8,m30]=true):partial_Queue_Ops_st q0 r m0 m1 m2 m3 m4 m5 m6 m7 m8 m30 :=
 SCon.ren (rn [(0,m0),(1,m1),(2,m2),(3,m3),(4,m4),(5,m5),(6,m6),(7,m7),(8,m8),(30,m30)]) (partial_Queue_Ops_con0 (k:=k)   H0) ⟨(blk_ren R R),(blk_ren R R),(pl_ren R),(blk_ren R R),(pl_ren R),(blk_ren R R),(pl_ren R),(blk_ren R R),(pl_ren R),trivial⟩ ⟨(blk_ren R R),(blk_ren R R),(pl_ren R),(blk_ren R R),(pl_ren R),(blk_ren R R),(pl_ren R),(blk_ren R R),(pl_ren R),(lrow_ren R),trivial⟩ (rn_nd hd R R) (rn_ks hd R R R)
abbrev partial_Queue_Len_st (q0:TQueue) (r:Int) (m0:Nat) (m1:Nat) (m2:Nat) (m3:Nat) (m4:Nat) (m5:Nat) (m6:Nat) (m7:Nat) (m8:Nat):Prop:=SCon Tryz.prog 30 [SV.p m0 0] (tkQueue m0 m1 m2 m3 m4 m5 m6 m7 m8 q0 []) (.a (.c (.v (.int .i64 r)))) (tkQueue m0 m1 m2 m3 m4 m5 m6 m7 m8 q0 []) []
theorem partial_Queue_Len_con0 {k:Nat}  {q0:TQueue} {r:Int}  (H0:partial_Queue_Len.f k q0=some r):partial_Queue_Len_st q0 r 0 1 2 3 4 5 6 7 8:=by
 rw [partial_Queue_Len.f] at H0
 refine spec_of [(0,_)] [(0,_),(1,_),(2,_),(3,_),(4,_),(5,_),(6,_),(7,_),(8,_)] 8 Tryz.func30 R Tryz.ntmps30 R R R R (fun β W F=>?_)
 refine G.seq<|G.rg<|K.as R R<|K.nil<|At.ns ?_
 obtain ⟨x1,hx1,H0⟩:=bnd H0
 exact G.rg<|K.mv R R<|K.nilCheck g0 R R<|K.fieldAddr Y g0 R t99 R R<|K.load1 Y g0 R R t97 R R<|K.cR (cf 56 R) (Tree_LenM_con hx1 1 2) g0 R R R R<|K.as R R<|K.nil<|At.next<|G.ret<|At.dr Y [2] R R (by cases H0;rfl) (by cases H0;rfl) R R R
theorem partial_Queue_Len_con {k:Nat}  {q0:TQueue} {r:Int}  (H0:partial_Queue_Len.f k q0=some r) (m0 m1 m2 m3 m4 m5 m6 m7 m8:Nat):partial_Queue_Len_st q0 r m0 m1 m2 m3 m4 m5 m6 m7 m8 :=
 SCon.ren (rn [(0,m0),(1,m1),(2,m2),(3,m3),(4,m4),(5,m5),(6,m6),(7,m7),(8,m8)]) (partial_Queue_Len_con0 (k:=k)   H0) ⟨(blk_ren R R),(blk_ren R R),(pl_ren R),(blk_ren R R),(pl_ren R),(blk_ren R R),(pl_ren R),(blk_ren R R),(pl_ren R),trivial⟩ ⟨(blk_ren R R),(blk_ren R R),(pl_ren R),(blk_ren R R),(pl_ren R),(blk_ren R R),(pl_ren R),(blk_ren R R),(pl_ren R),trivial⟩ (by simp) (by simp)
abbrev partial_Queue_all_st (q0:TQueue) (r:TSwell) (m0:Nat) (m1:Nat) (m2:Nat) (m3:Nat) (m4:Nat) (m5:Nat) (m6:Nat) (m7:Nat) (m8:Nat):Prop:=SCon Tryz.prog 126 [SV.p m0 0] (tkQueue m0 m1 m2 m3 m4 m5 m6 m7 m8 q0 []) (.a (.agg ((eTSwell r).map .v))) (tkQueue m0 m1 m2 m3 m4 m5 m6 m7 m8 q0 []) []
theorem partial_Queue_all_con0 {k:Nat}  {q0:TQueue} {r:TSwell}  (H0:partial_Queue_all.f k q0=some r):partial_Queue_all_st q0 r 0 1 2 3 4 5 6 7 8:=by
 rw [partial_Queue_all.f] at H0
 refine spec_of [(0,_)] [(0,_),(1,_),(2,_),(3,_),(4,_),(5,_),(6,_),(7,_),(8,_)] 13 Tryz.func126 R Tryz.ntmps126 R R R R (fun β W F=>?_)
 refine G.seq<|G.rg<|K.alloc Y 100 _ g0 t105 R R R R R<|K.nil<|At.ns ?_
 obtain ⟨x1,hx1,H0⟩:=bnd H0
 obtain ⟨x2,hx2,H0⟩:=bnd H0
 refine G.rd mixed<|K.mv R R<|K.nilCheck g0 R R<|K.fieldAddr Y g0 R t99 R R<|K.load1 Y g0 R R t97 R R<|K.mv R R<|K.nilCheck g0 R R<|K.fieldAddr Y g0 R t99 R R<|K.load1 Y g0 R R t97 R R<|K.cR (cf 56 R) (Tree_LenM_con hx1 1 2) g0 R R R R<|K.cR (cf 117 R) (Tree_BetweenM_con hx2 1 2) g0 R R R R<|K.store Y _ g0 R R R t105 R R R R R<|K.nil<|And.intro (by kernel_rfl)<|At.next<|G.ret<|At.done Y [(.cell 2 105,.agg [_,_,_,_,_,_,_,_,_,_,_,_,_,_,_,_])] R ⟨.st R R t105 R R,trivial⟩ (to':=[(0,_),(1,_),(2,_),(3,_),(4,_),(5,_),(6,_),(7,_),(8,_)]) ⟨R,R,R,R,R,R,R,R,R,trivial⟩ ?_ ?_ R R R (.inl R)
 · cases H0;rfl
 · cases H0;rfl
theorem partial_Queue_all_con {k:Nat}  {q0:TQueue} {r:TSwell}  (H0:partial_Queue_all.f k q0=some r) (m0 m1 m2 m3 m4 m5 m6 m7 m8:Nat):partial_Queue_all_st q0 r m0 m1 m2 m3 m4 m5 m6 m7 m8 :=
 SCon.ren (rn [(0,m0),(1,m1),(2,m2),(3,m3),(4,m4),(5,m5),(6,m6),(7,m7),(8,m8)]) (partial_Queue_all_con0 (k:=k)   H0) ⟨(blk_ren R R),(blk_ren R R),(pl_ren R),(blk_ren R R),(pl_ren R),(blk_ren R R),(pl_ren R),(blk_ren R R),(pl_ren R),trivial⟩ ⟨(blk_ren R R),(blk_ren R R),(pl_ren R),(blk_ren R R),(pl_ren R),(blk_ren R R),(pl_ren R),(blk_ren R R),(pl_ren R),trivial⟩ (by simp) (by simp)
abbrev partial_Queue_Deletes_st (q0:TQueue) (r:Int) (m0:Nat) (m1:Nat) (m2:Nat) (m3:Nat) (m4:Nat) (m5:Nat) (m6:Nat) (m7:Nat) (m8:Nat):Prop:=SCon Tryz.prog 96 [SV.p m0 0] (tkQueue m0 m1 m2 m3 m4 m5 m6 m7 m8 q0 []) (.a (.c (.v (.int .i64 r)))) (tkQueue m0 m1 m2 m3 m4 m5 m6 m7 m8 q0 []) []
theorem partial_Queue_Deletes_con0 {k:Nat}  {q0:TQueue} {r:Int}  (H0:partial_Queue_Deletes.f k q0=some r):partial_Queue_Deletes_st q0 r 0 1 2 3 4 5 6 7 8:=by
 rw [partial_Queue_Deletes.f] at H0
 refine spec_of [(0,_)] [(0,_),(1,_),(2,_),(3,_),(4,_),(5,_),(6,_),(7,_),(8,_)] 6 Tryz.func96 R Tryz.ntmps96 R R R R (fun β W F=>?_)
 refine G.seq<|G.rg<|K.as R R<|K.nil<|At.ns ?_
 obtain ⟨x1,hx1,H0⟩:=bnd H0
 exact G.rg<|K.mv R R<|K.cR (cf 126 R) (partial_Queue_all_con hx1 0 1 2 3 4 5 6 7 8) g0 R R R R<|K.field1 Y g0 R t105 R t3 R R<|K.as R R<|K.nil<|At.next<|G.ret<|At.dr Y [2] R R (by cases H0;rfl) (by cases H0;rfl) R R R
theorem partial_Queue_Deletes_con {k:Nat}  {q0:TQueue} {r:Int}  (H0:partial_Queue_Deletes.f k q0=some r) (m0 m1 m2 m3 m4 m5 m6 m7 m8:Nat):partial_Queue_Deletes_st q0 r m0 m1 m2 m3 m4 m5 m6 m7 m8 :=
 SCon.ren (rn [(0,m0),(1,m1),(2,m2),(3,m3),(4,m4),(5,m5),(6,m6),(7,m7),(8,m8)]) (partial_Queue_Deletes_con0 (k:=k)   H0) ⟨(blk_ren R R),(blk_ren R R),(pl_ren R),(blk_ren R R),(pl_ren R),(blk_ren R R),(pl_ren R),(blk_ren R R),(pl_ren R),trivial⟩ ⟨(blk_ren R R),(blk_ren R R),(pl_ren R),(blk_ren R R),(pl_ren R),(blk_ren R R),(pl_ren R),(blk_ren R R),(pl_ren R),trivial⟩ (by simp) (by simp)
abbrev partial_Queue_Present_st (q0:TQueue) (m0:Nat) (m1:Nat) (m2:Nat) (m3:Nat) (m4:Nat) (m5:Nat) (m6:Nat) (m7:Nat) (m8:Nat):Prop:=SCon Tryz.prog 93 [SV.p m0 0] (tkQueue m0 m1 m2 m3 m4 m5 m6 m7 m8 q0 []) (.a (.c (.p m3 0))) (tkQueue m0 m1 m2 m3 m4 m5 m6 m7 m8 q0 []) []
theorem partial_Queue_Present_con0 {k:Nat}  {q0:TQueue} {r:Unit}  (H0:partial_Queue_Present.f k q0=some r):partial_Queue_Present_st q0 0 1 2 3 4 5 6 7 8:=by
 rw [partial_Queue_Present.f] at H0
 refine spec_of [(0,_)] [(0,_),(1,_),(2,_),(3,_),(4,_),(5,_),(6,_),(7,_),(8,_)] 7 Tryz.func93 R Tryz.ntmps93 R R R R (fun β W F=>?_)
 exact G.seq<|G.rg<|K.as R R<|K.nil<|At.nr<|K.mv R R<|K.nilCheck g0 R R<|K.fieldAddr Y g0 R t99 R R<|K.load1 Y g0 R R t75 R R<|K.as R R<|K.nil<|At.next<|G.ret<|At.dr Y [2] R R (by cases H0;rfl) (by cases H0;rfl) R R R
theorem partial_Queue_Present_con {k:Nat}  {q0:TQueue} {r:Unit}  (H0:partial_Queue_Present.f k q0=some r) (m0 m1 m2 m3 m4 m5 m6 m7 m8:Nat):partial_Queue_Present_st q0 m0 m1 m2 m3 m4 m5 m6 m7 m8 :=
 SCon.ren (rn [(0,m0),(1,m1),(2,m2),(3,m3),(4,m4),(5,m5),(6,m6),(7,m7),(8,m8)]) (partial_Queue_Present_con0 (k:=k)   H0) ⟨(blk_ren R R),(blk_ren R R),(pl_ren R),(blk_ren R R),(pl_ren R),(blk_ren R R),(pl_ren R),(blk_ren R R),(pl_ren R),trivial⟩ ⟨(blk_ren R R),(blk_ren R R),(pl_ren R),(blk_ren R R),(pl_ren R),(blk_ren R R),(pl_ren R),(blk_ren R R),(pl_ren R),trivial⟩ (by simp) (by simp)
abbrev partial_Queue_Gone_st (q0:TQueue) (m0:Nat) (m1:Nat) (m2:Nat) (m3:Nat) (m4:Nat) (m5:Nat) (m6:Nat) (m7:Nat) (m8:Nat):Prop:=SCon Tryz.prog 95 [SV.p m0 0] (tkQueue m0 m1 m2 m3 m4 m5 m6 m7 m8 q0 []) (.a (.c (.p m5 0))) (tkQueue m0 m1 m2 m3 m4 m5 m6 m7 m8 q0 []) []
theorem partial_Queue_Gone_con0 {k:Nat}  {q0:TQueue} {r:Unit}  (H0:partial_Queue_Gone.f k q0=some r):partial_Queue_Gone_st q0 0 1 2 3 4 5 6 7 8:=by
 rw [partial_Queue_Gone.f] at H0
 refine spec_of [(0,_)] [(0,_),(1,_),(2,_),(3,_),(4,_),(5,_),(6,_),(7,_),(8,_)] 7 Tryz.func95 R Tryz.ntmps95 R R R R (fun β W F=>?_)
 exact G.seq<|G.rg<|K.as R R<|K.nil<|At.nr<|K.mv R R<|K.nilCheck g0 R R<|K.fieldAddr Y g0 R t99 R R<|K.load1 Y g0 R R t75 R R<|K.as R R<|K.nil<|At.next<|G.ret<|At.dr Y [2] R R (by cases H0;rfl) (by cases H0;rfl) R R R
theorem partial_Queue_Gone_con {k:Nat}  {q0:TQueue} {r:Unit}  (H0:partial_Queue_Gone.f k q0=some r) (m0 m1 m2 m3 m4 m5 m6 m7 m8:Nat):partial_Queue_Gone_st q0 m0 m1 m2 m3 m4 m5 m6 m7 m8 :=
 SCon.ren (rn [(0,m0),(1,m1),(2,m2),(3,m3),(4,m4),(5,m5),(6,m6),(7,m7),(8,m8)]) (partial_Queue_Gone_con0 (k:=k)   H0) ⟨(blk_ren R R),(blk_ren R R),(pl_ren R),(blk_ren R R),(pl_ren R),(blk_ren R R),(pl_ren R),(blk_ren R R),(pl_ren R),trivial⟩ ⟨(blk_ren R R),(blk_ren R R),(pl_ren R),(blk_ren R R),(pl_ren R),(blk_ren R R),(pl_ren R),(blk_ren R R),(pl_ren R),trivial⟩ (by simp) (by simp)
end Go.Proofs.YtgjbibabegabnaaGreat
namespace Go.Proofs.YtgjbibabegabnaaGreat.Sx
open Go
def starRes (L:List Res):Res where
  holds:=Star L
  loc hw h:=h.loc hw
  lt h hb:=h.lt hb
def adEnv (a:Nat→Nat):Env:=fun k=>⟨a k,undef⟩
def eltRes (l:List (Nat×Tok)) (a:Nat→Nat):Res:=starRes (l.map fun p=>p.2.r (adEnv a))
section
variable {σ:Type}
def hpL (toks:σ→List (Nat×Tok)) (A:List (Nat→Nat)) (Q:List σ):List Res:=List.zipWith (fun a q=>eltRes (toks q) a) A Q
def hp (k:Nat) (toks:σ→List (Nat×Tok)) (A:List (Nat→Nat)) (Q:List σ):Tok where
  ks:=[]
  r _:=starRes (hpL toks A Q)
  sup _:=rfl
theorem Star_mid {A B:List Res} {r:Res} {w:World} {F:Foot}:Star (A++r::B) w F↔∃ F1 F2:Foot,(∀ b,F b↔F1 b∨F2 b)∧(∀ b,F1 b→¬ F2 b)∧r.holds w F1∧Star (A++B) w F2:=by
  constructor
  · intro h
    obtain ⟨FA,FR,e,d,hA,F1,FB,e',d',h1,hB⟩:=Star_append.1 h
    refine ⟨F1,fun b=>FA b∨FB b,fun b=>?_,?_,h1,Star_append.2 ⟨FA,FB,fun b=>Iff.rfl,fun b ha hb=>d b ha ((e' b).2 (.inr hb)),hA,hB⟩⟩
    · rw [e b,e' b];constructor
      · rintro (h | h | h)
        · exact .inr (.inl h)
        · exact .inl h
        · exact .inr (.inr h)
      · rintro (h | h | h)
        · exact .inr (.inl h)
        · exact .inl h
        · exact .inr (.inr h)
    · rintro b h1 (h | h)
      · exact d b h ((e' b).2 (.inl h1))
      · exact d' b h1 h
  · rintro ⟨F1,F2,e,d,h1,h2⟩
    obtain ⟨FA,FB,e',d',hA,hB⟩:=Star_append.1 h2
    refine Star_append.2 ⟨FA,fun b=>F1 b∨FB b,fun b=>?_,?_,hA,F1,FB,fun b=>Iff.rfl,fun b h h'=>d b h ((e' b).2 (.inr h')),h1,hB⟩
    · rw [e b,e' b];constructor
      · rintro (h | h | h)
        · exact .inr (.inl h)
        · exact .inl h
        · exact .inr (.inr h)
      · rintro (h | h | h)
        · exact .inr (.inl h)
        · exact .inl h
        · exact .inr (.inr h)
    · rintro b ha (h | h)
      · exact d b h ((e' b).2 (.inl ha))
      · exact d' b ha h
theorem hpL_mid {toks:σ→List (Nat×Tok)} : ∀ {A:List (Nat→Nat)} {Q:List σ} {i:Nat} {a:Nat→Nat} {q:σ},A[i]? = some a→Q[i]? = some q→∃ L1 L2:List Res,hpL toks A Q=L1++eltRes (toks q) a::L2∧∀ q',hpL toks A (Q.set i q')=L1++eltRes (toks q') a::L2
  | [], _, i, a, q, h, _ => by simp at h
  | _ :: _, [], i, a, q, _, h => by simp at h
  | x :: A, y :: Q, 0, a, q, h, h' => by
    simp at h h';subst h;subst h'
    exact ⟨[],hpL toks A Q,rfl,fun q'=>rfl⟩
  | x :: A, y :: Q, i + 1, a, q, h, h' => by
    simp at h h'
    obtain ⟨L1,L2,h1,h2⟩:=hpL_mid (toks:=toks) h h'
    refine ⟨eltRes (toks y) x::L1,L2,?_,fun q'=>?_⟩
    · show eltRes (toks y) x::hpL toks A Q=_
      rw [h1];rfl
    · show eltRes (toks y) x::hpL toks A (Q.set i q')=_
      rw [h2];rfl
def ByB (l:List (Nat×Tok)) (ks:List Nat):Prop:=∀ (β:Env) (a:Nat→Nat),(∀ k∈ks,(β k).b=a k)→(l.map fun p=>p.2.r β)=l.map fun p=>p.2.r (adEnv a)
theorem SCon.heap {P : Program} {f : FuncId} {args args' : List SV} {ret ret' : SV} {fr : List Nat} {toks : σ → List (Nat × Tok)} {A : List (Nat → Nat)} {Q : List σ} {i : Nat} {a : Nat → Nat} {q q' : σ} {exi exo : List (Nat × Tok)} (k : Nat) (ks : List Nat)
    (hA:A[i]? = some a) (hQ:Q[i]? = some q) (hb : ∀ q,ByB (toks q) ks) (h:SCon P f args (toks q++exi) ret (toks q'++exo) fr) (hfr : ∀ j∈ks,j∉fr)
    (hi : ∀ p∈exi,∀ j∈p.2.ks,j∉ks) (ho : ∀ p∈exo,∀ j∈p.2.ks,j∉ks)
    (ha : ∀ β β':Env,(∀ j∈ks,(β j).b=a j)→(∀ j,j∉ks→β' j=β j)→args.map (SV.den β)=args'.map (SV.den β'))
    (hr : ∀ β β':Env,(∀ j∈ks,(β j).b=a j)→(∀ j,j∉ks→β' j=β j)→ret.den β=ret'.den β') :
    SCon P f args' ((k,hp k toks A Q)::exi) ret' ((k,hp k toks A (Q.set i q'))::exo) fr:=by
  intro β w F hs
  obtain ⟨FH,FX,e,d,hH,hX⟩:=hs
  obtain ⟨L1,L2,m1,m2⟩:=hpL_mid (toks:=toks) hA hQ
  have hH':Star (hpL toks A Q) w FH:=hH
  rw [m1] at hH'
  obtain ⟨Fi,FR,e1,d1,hE,hR⟩:=Star_mid.1 hH'
  have hE':Star ((toks q).map fun p=>p.2.r (adEnv a)) w Fi:=hE
  let β1:Env:=fun j=>if j∈ks then ⟨a j,undef⟩ else β j
  have hβ1 : ∀ j∈ks,(β1 j).b=a j:=fun j hj=>by simp only [β1,if_pos hj]
  have hβ1' : ∀ j,j∉ks→β j=β1 j:=fun j hj=>by simp only [β1,if_neg hj]
  have eX:(exi.map fun p=>p.2.r β1)=exi.map fun p=>p.2.r β:=List.map_congr_left (fun p hp=>p.2.sup (fun j hj=>(hβ1' j (hi p hp j hj)).symm))
  have hin:Star ((toks q++exi).map fun p=>p.2.r β1) w (fun b=>Fi b∨FX b):=by
    rw [List.map_append]
    refine Star_append.2 ⟨Fi,FX,fun b=>Iff.rfl,fun b h1 h2=>d b ((e1 b).2 (.inl h1)) h2,?_,by rw [eX];exact hX⟩
    rw [hb q β1 a hβ1];exact hE'
  have hcall:=h β1 w _ hin
  rw [ha β1 β hβ1 hβ1'] at hcall
  refine hcall.mono (fun en w' he=>?_)
  obtain ⟨β2,hb2,rfl,F',h2,h3,h4⟩:=he
  have hβ2 : ∀ j∈ks,(β2 j).b=a j:=fun j hj=>by rw [hb2 j (hfr j hj)];exact hβ1 j hj
  let β3:Env:=fun j=>if j∈ks then β j else β2 j
  have hβ3 : ∀ j,j∉ks→β3 j=β2 j:=fun j hj=>by simp only [β3,if_neg hj]
  rw [List.map_append] at h2
  obtain ⟨F1,F2,e2,d2,hT,hO⟩:=Star_append.1 h2
  rw [hb q' β2 a hβ2] at hT
  have eO:(exo.map fun p=>p.2.r β2)=exo.map fun p=>p.2.r β3:=List.map_congr_left (fun p hp=>p.2.sup (fun j hj=>(hβ3 j (ho p hp j hj)).symm))
  have hFR : ∀ b,FR b→¬ F' b:=fun b hb' hf=>by
    rcases h3 b hf with (h | h) | h
    · exact d1 b h hb'
    · exact d b ((e1 b).2 (.inr hb')) h
    · exact absurd (hR.lt hb') (by omega)
  have hR':Star (L1++L2) w' FR:=hR.loc (fun b hb'=>h4.block b (hR.lt hb') (fun h=>by
    rcases h with h | h
    · exact d1 b h hb'
    · exact d b ((e1 b).2 (.inr hb')) h))
  refine ⟨β3,fun j hj=>?_,by rw [hr β2 β3 hβ2 hβ3],fun b=>(F1 b∨FR b)∨F2 b,⟨fun b=>F1 b∨FR b,F2,fun b=>Iff.rfl,?_,?_,by rw [← eO];exact hO⟩,?_,h4.weaken (fun b _ hb'=>?_)⟩
  · by_cases hk:j∈ks
    · simp only [β3,if_pos hk]
    · rw [hβ3 j hk,hb2 j hj,← hβ1' j hk]
  · rintro b (h | h) h'
    · exact d2 b h h'
    · exact hFR b h ((e2 b).2 (.inr h'))
  · show Star (hpL toks A (Q.set i q')) w' _
    rw [m2]
    exact Star_mid.2 ⟨F1,FR,fun b=>Iff.rfl,fun b h h'=>hFR b h' ((e2 b).2 (.inl h)),hT,hR'⟩
  · rintro b ((h | h) | h)
    · rcases h3 b ((e2 b).2 (.inl h)) with (h | h) | h
      · exact .inl ((e b).2 (.inl ((e1 b).2 (.inl h))))
      · exact .inl ((e b).2 (.inr h))
      · exact .inr h
    · exact .inl ((e b).2 (.inl ((e1 b).2 (.inr h))))
    · rcases h3 b ((e2 b).2 (.inr h)) with (h | h) | h
      · exact .inl ((e b).2 (.inl ((e1 b).2 (.inl h))))
      · exact .inl ((e b).2 (.inr h))
      · exact .inr h
  · rcases hb' with h | h
    · exact (e b).2 (.inl ((e1 b).2 (.inl h)))
    · exact (e b).2 (.inr h)
def adr (ks:List Nat) (g:Nat→Nat) (β:Env):Nat→Nat:=fun j=>if j∈ks then (β (g j)).b else 0
def hpN (k:Nat) (toks:σ→List (Nat×Tok)) (A:List (Nat→Nat)) (Q:List σ) (ks:List Nat) (g:Nat→Nat) (q:σ):Tok where
  ks:=ks.map g
  r β:=starRes (hpL toks (A++[adr ks g β]) (Q++[q]))
  sup h:=by
    rename_i β β'
    have:adr ks g β=adr ks g β':=by
      funext j
      unfold adr
      by_cases hj:j∈ks
      · rw [if_pos hj,if_pos hj,h (g j) (List.mem_map_of_mem hj)]
      · rw [if_neg hj,if_neg hj]
    rw [this]
theorem hpL_snoc {toks:σ→List (Nat×Tok)} : ∀ {A:List (Nat→Nat)} {Q:List σ},A.length=Q.length→∀ (a:Nat→Nat) (q:σ),hpL toks (A++[a]) (Q++[q])=hpL toks A Q++[eltRes (toks q) a]
  | [], [], _, a, q => rfl
  | [], _ :: _, h, a, q => by simp at h
  | _ :: _, [], h, a, q => by simp at h
  | x :: A, y :: Q, h, a, q => by
    show eltRes (toks y) x::hpL toks (A++[a]) (Q++[q])=_
    rw [hpL_snoc (by simpa using h)];rfl
theorem Star_perm {A B:List Res} (h:A.Perm B) : ∀ {w:World} {F:Foot},Star A w F→Star B w F:=by
  induction h with
  | nil => intro w F h; exact h
  | cons r _ ih =>
    rintro w F ⟨F1,F2,e,d,h1,h2⟩
    exact ⟨F1,F2,e,d,h1,ih h2⟩
  | swap x y l =>
    intro w F h
    obtain ⟨F1,F2,e,d,h1,G1,G2,e',d',h2,h3⟩:=h
    refine ⟨G1,fun b=>F1 b∨G2 b,fun b=>?_,?_,h2,F1,G2,fun b=>Iff.rfl,fun b h h'=>d b h ((e' b).2 (.inr h')),h1,h3⟩
    · rw [e b,e' b];constructor
      · rintro (h | h | h)
        · exact .inr (.inl h)
        · exact .inl h
        · exact .inr (.inr h)
      · rintro (h | h | h)
        · exact .inr (.inl h)
        · exact .inl h
        · exact .inr (.inr h)
    · rintro b h (h' | h')
      · exact d b h' ((e' b).2 (.inl h))
      · exact d' b h h'
  | trans _ _ ih1 ih2 => intro w F h; exact ih2 (ih1 h)
theorem SCon.perm {P:Program} {f:FuncId} {args:List SV} {ret:SV} {fr:List Nat} {ti ti' to to':List (Nat×Tok)} (h:SCon P f args ti ret to fr) (hi:ti'.Perm ti) (ho:to.Perm to'):SCon P f args ti' ret to' fr:=by
  intro β w F hs
  refine (h β w F (Star_perm (hi.map _) hs)).mono (fun e w' he=>?_)
  obtain ⟨β',h1,h2,F',h3,h4,h5⟩:=he
  exact ⟨β',h1,h2,F',Star_perm (ho.map _) h3,h4,h5⟩
theorem SCon.frame {P:Program} {f:FuncId} {args:List SV} {ret:SV} {fr:List Nat} {ti to:List (Nat×Tok)} (ex:List (Nat×Tok)) (h:SCon P f args ti ret to fr) (hx : ∀ p∈ex,∀ j∈p.2.ks,j∉fr):SCon P f args (ti++ex) ret (to++ex) fr:=by
  intro β w F hs
  rw [List.map_append] at hs
  obtain ⟨F1,F2,e,d,h1,h2⟩:=Star_append.1 hs
  refine (h β w F1 h1).mono (fun en w' he=>?_)
  obtain ⟨β',hb,rfl,F',h3,h4,h5⟩:=he
  have ee:(ex.map fun p=>p.2.r β')=ex.map fun p=>p.2.r β:=List.map_congr_left (fun p hp=>p.2.sup (fun j hj=>hb j (hx p hp j hj)))
  refine ⟨β',hb,rfl,fun b=>F' b∨F2 b,?_,?_,h5.weaken (fun b _ hb=>(e b).2 (.inl hb))⟩
  · rw [List.map_append,ee]
    refine Star_append.2 ⟨F',F2,fun b=>Iff.rfl,fun b h h'=>?_,h3,h2.loc (fun b hb=>h5.block b (h2.lt hb) (fun h=>d b h hb))⟩
    rcases h4 b h with h6 | h6
    · exact d b h6 h'
    · exact absurd (h2.lt h') (by omega)
  · rintro b (h | h)
    · rcases h4 b h with h6 | h6
      · exact .inl ((e b).2 (.inl h6))
      · exact .inr h6
    · exact .inl ((e b).2 (.inr h))
end
end Go.Proofs.YtgjbibabegabnaaGreat.Sx
namespace Go.Proofs.YtgjbibabegabnaaGreat
open Go Go.Proofs.YtgjbibabegabnaaGreat.Sx
abbrev qks:List Nat:=[1,2,3,4,5,6,7,8,9]
abbrev tq (q:TQueue):List (Nat×Tok):=tkQueue 1 2 3 4 5 6 7 8 9 q []
theorem tq_byB (q:TQueue):ByB (tq q) qks:=by
  intro β a h
  have h1:=h 1 (by decide)
  have h2:=h 2 (by decide)
  have h3:=h 3 (by decide)
  have h4:=h 4 (by decide)
  have h5:=h 5 (by decide)
  have h6:=h 6 (by decide)
  have h7:=h 7 (by decide)
  have h8:=h 8 (by decide)
  have h9:=h 9 (by decide)
  simp only [tq,tkQueue,List.map_cons,List.map_nil,blk,pl,Cl.den,adEnv,h1,h2,h3,h4,h5,h6,h7,h8,h9]
def gN (l:List Nat) (j:Nat):Nat:=l.getD (j - 1) 0
theorem tq_at (n0 n1 n2 n3 n4 n5 n6 n7 n8:Nat) (q:TQueue) (β:Env):((tkQueue n0 n1 n2 n3 n4 n5 n6 n7 n8 q []).map fun p=>p.2.r β)=(tq q).map fun p=>p.2.r (adEnv (adr qks (gN [n0,n1,n2,n3,n4,n5,n6,n7,n8]) β)):=by
  have h : ∀ j∈qks,(adr qks (gN [n0,n1,n2,n3,n4,n5,n6,n7,n8]) β) j=(β (gN [n0,n1,n2,n3,n4,n5,n6,n7,n8] j)).b:=fun j hj=>by unfold adr;rw [if_pos hj]
  have h1:=h 1 (by decide)
  have h2:=h 2 (by decide)
  have h3:=h 3 (by decide)
  have h4:=h 4 (by decide)
  have h5:=h 5 (by decide)
  have h6:=h 6 (by decide)
  have h7:=h 7 (by decide)
  have h8:=h 8 (by decide)
  have h9:=h 9 (by decide)
  simp only [tq,tkQueue,List.map_cons,List.map_nil,blk,pl,Cl.den,adEnv,h1,h2,h3,h4,h5,h6,h7,h8,h9]
  rfl
end Go.Proofs.YtgjbibabegabnaaGreat
namespace Go.Proofs.YtgjbibabegabnaaGreat.Sx
open Go
section
variable {P:Program} {n:Nat} {ops:Array Oper} {rest:List Oper} {fs fs':FL} {L L':TL} {ss:List Step}
end
section
variable {P:Program} {n:Nat} {ops:Array Oper} {rest:List Oper} {fs:FL} {L:TL} {K:List Step→FL→TL→Prop} {d:Nat} {az:Array Operand} {ats:Array TypeId} {ty:TypeId} {pos:String} {after:Array Edge} {g:Option (Nat×Bool)} {gr:FL} {f:FuncId} {args:List SV} {ti to:List (Nat×Tok)} {fr:List Nat} {args':Env→List SV}
end
end Go.Proofs.YtgjbibabegabnaaGreat.Sx
namespace Go.Proofs.YtgjbibabegabnaaGreat.Sx
open Go
def SConAt (β:Env) (P:Program) (f:FuncId) (args:List SV) (ti:List (Nat×Tok)) (ret:SV) (to:List (Nat×Tok)) (fr:List Nat):Prop :=
  ∀ (w:World) (F:Foot),Star (ti.map fun p=>p.2.r β) w F→Calls P f (args.map (SV.den β)).toArray w (Ret F w fr β ret to)
theorem adr_congr {ks:List Nat} {g:Nat→Nat} {β β':Env} (h : ∀ j∈ks,β (g j)=β' (g j)):adr ks g β=adr ks g β':=by
  funext j
  unfold adr
  by_cases hj:j∈ks
  · rw [if_pos hj,if_pos hj,h j hj]
  · rw [if_neg hj,if_neg hj]
theorem SCon.late {β:Env} {P:Program} {f:FuncId} {args args2:List SV} {ti ti0 to to0:List (Nat×Tok)} {ret:SV} {fr:List Nat} (ks:List Nat) (g:Nat→Nat) (h:SCon P f args ti0 ret to0 fr) (ha:args2.map (SV.den β)=args.map (SV.den β)) (h1:(ti.map fun p=>p.2.r β)=ti0.map fun p=>p.2.r β) (h2 : ∀ β',adr ks g β'=adr ks g β→(to.map fun p=>p.2.r β')=to0.map fun p=>p.2.r β') (hfr:ks.all (fun j=>!fr.contains (g j))=true):SConAt β P f args2 ti ret to fr:=by
  intro w F hs
  have hc:=h β w F (by rw [← h1];exact hs)
  rw [ha]
  refine hc.mono (fun e w' he=>?_)
  obtain ⟨β',hb,rfl,F',g1,g2⟩:=he
  refine ⟨β',hb,rfl,F',?_,g2⟩
  rw [h2 β' (adr_congr (fun j hj=>hb _ (by have:=List.all_eq_true.1 hfr j hj;simpa using this)))]
  exact g1
theorem SCon.post {P:Program} {f:FuncId} {args:List SV} {ret:SV} {ti to to':List (Nat×Tok)} {fr:List Nat} (h:SCon P f args ti ret to fr) (ho : ∀ β w F,Star (to.map fun p=>p.2.r β) w F→Star (to'.map fun p=>p.2.r β) w F):SCon P f args ti ret to' fr:=by
  intro β w F hs
  refine (h β w F hs).mono (fun e w' he=>?_)
  obtain ⟨β',hb,h1,F',g1,g2⟩:=he
  exact ⟨β',hb,h1,F',ho _ _ _ g1,g2⟩
theorem hpN_r {σ:Type} {toks:σ→List (Nat×Tok)} {A:List (Nat→Nat)} {Q:List σ} {k:Nat} {ks:List Nat} {g:Nat→Nat} {q:σ} {β:Env}:(hpN k toks A Q ks g q).r β=(hp k toks (A++[adr ks g β]) (Q++[q])).r β:=rfl
theorem hp_addS {σ:Type} {toks:σ→List (Nat×Tok)} {A:List (Nat→Nat)} {Q:List σ} {q:σ} {tn:List (Nat×Tok)} {k:Nat} (ks:List Nat) (g:Nat→Nat) (hAQ:A.length=Q.length) (β:Env) (hT:(tn.map fun p=>p.2.r β)=(toks q).map fun p=>p.2.r (adEnv (adr ks g β))) {w:World} {F:Foot} (hs:Star (((k,hp k toks A Q)::tn).map fun p=>p.2.r β) w F):Star ([(k,hpN k toks A Q ks g q)].map fun p=>p.2.r β) w F:=by
  obtain ⟨F1,F2,e,d,h1,h2⟩:=hs
  refine Star_one.2 ?_
  show Star (hpL toks (A++[adr ks g β]) (Q++[q])) w F
  rw [hpL_snoc hAQ]
  refine Star_append.2 ⟨F1,F2,e,d,h1,Star_one.2 ?_⟩
  have:Star (tn.map fun p=>p.2.r β) w F2:=h2
  rw [hT] at this;exact this
def lrowA {α:Type} (k:Nat) (T:TypeId) (ks:List Nat) (g:Nat→Nat) (e:(Nat→Nat)→α→List Value) (s:Nat) (l:List α):Tok where
  ks:=k::ks.map g
  r β:=(lrow k T (e (adr ks g β)) s l).r β
  sup h:=by
    rename_i β β'
    rw [adr_congr (ks:=ks) (g:=g) (β:=β) (β':=β') (fun j hj=>h (g j) (List.mem_cons_of_mem _ (List.mem_map_of_mem hj)))]
    exact (lrow k T (e (adr ks g β')) s l).sup (fun j hj=>h j (by cases hj with | head=>exact List.mem_cons_self | tail _ h=>cases h))
theorem lrowA_r {α:Type} {k:Nat} {T:TypeId} {ks:List Nat} {g:Nat→Nat} {e:(Nat→Nat)→α→List Value} {s:Nat} {l:List α} {β:Env}:(lrowA k T ks g e s l).r β=(lrow k T (e (adr ks g β)) s l).r β:=rfl
theorem mc {β:Env} {x y:SV} {l l':List SV} (h:x.den β=y.den β) (t:l.map (SV.den β)=l'.map (SV.den β)):(x::l).map (SV.den β)=(y::l').map (SV.den β):=by rw [List.map_cons,List.map_cons,h,t]
theorem At.fixA {σ α : Type} {C : Ctx} {fs : FL} {L : TL} {R : Act → World → Prop} {toks : σ → List (Nat × Tok)} {A : List (Nat → Nat)} {Q : List σ} {ks : List Nat} {g : Nat → Nat} {q : σ} {t j0 T s : Nat} {e : (Nat → Nat) → α → List Value} {l : List α} (k r : Nat) (hk : lkT L k = some (hpN k toks A Q ks g q)) (hr : lkT L r = some (lrowA r T ks g e s l)) (hl : lk fs t = some (SV.p (g j0) 0)) (hj : j0 ∈ ks)
    (h : ∀ a:Nat→Nat,At C ((t,SV.raw (ptr (a j0) 0))::fs) ((r,some (lrow r T (e a) s l))::(k,some (hp k toks (A++[a]) (Q++[q])))::L) R):At C fs L R:=by
  rintro a w ⟨β,F,hβ,hfs,hlt,hn,hd,hs,hF,hM⟩
  refine h (adr ks g β) a w ⟨β,F,hβ,fun t' x hx=>?_,fun t' ht=>?_,hn,hd,?_,hF,hM⟩
  · rw [lk_cons] at hx
    by_cases e:t'=t
    · subst e
      simp at hx;subst hx
      rw [hfs _ _ hl]
      simp [SV.den,Av.den,Cl.den,ptr,adr,hj]
    · rw [upd_ne _ _ e] at hx
      exact hfs _ _ hx
  · rw [lk_cons] at ht
    by_cases e:t'=t
    · subst e;exact hlt _ (by rw [hl];rfl)
    · rw [upd_ne _ _ e] at ht;exact hlt _ ht
  · obtain ⟨φ,h1,h2,h3,h4⟩:=hs
    refine ⟨φ,fun j tk hj=>?_,fun j hj=>?_,h3,h4⟩
    · rw [lkT_cons] at hj
      by_cases e:j=r
      · subst e
        simp at hj;subst hj
        have h5:=h1 j (lrowA j T ks g e s l) hr
        exact h5
      · rw [upd_ne _ _ e,lkT_cons] at hj
        by_cases e:j=k
        · subst e
          simp at hj;subst hj
          have h5:=h1 j (hpN j toks A Q ks g q) hk
          exact h5
        · rw [upd_ne _ _ e] at hj
          exact h1 _ _ hj
    · rw [lkT_cons] at hj
      by_cases e:j=r
      · subst e;simp at hj
      · rw [upd_ne _ _ e,lkT_cons] at hj
        by_cases e:j=k
        · subst e;simp at hj
        · rw [upd_ne _ _ e] at hj
          exact h2 _ hj
section
variable {P:Program} {n:Nat} {ops:Array Oper} {rest:List Oper} {fs fs':FL} {L L':TL} {ss:List Step}
theorem Run.callA {d : Nat} {c : Call} {ty : TypeId} {pos : String} {after : Array Edge} {g : Option (Nat × Bool)} {gr : FL} {f : FuncId} {args : List SV} {ret : SV} {fr : List Nat} (l : List (Operand × SV)) (tr ti to : List (Nat × Tok))
    (hs : ∀ (β:Env) (w:World) (S:Foot),Star (tr.map fun p=>p.2.r β) w S→SConAt β P f args ((0,rd S w)::ti) ret ((0,rd S w)::to) fr)
    (hc:ToFn P c ty l f args) (hg:Gd ops ⟨some d,.call c,ty,pos,after,g⟩ fs gr) (hev : ∀ p∈l,ev fs p.1=some p.2)
    (htk : ∀ p∈tr++ti,lkT L p.1=some p.2) (hnd:((tr++ti).map (·.1)).Nodup) (hnd':((tr++to).map (·.1)).Nodup) (hsub : ∀ p∈ti,p.1∈to.map (·.1)) (hout : ∀ p∈to,p.1∈ti.map (·.1)∨lkT L p.1=none)
    (hfr:frB fr fs L=true) (hn:Nat.blt d n=true)
    (h:Run P n ops rest ((d,ret)::fs) (to.map (fun p=>(p.1,some p.2))++L) ss fs' L'):Run P n ops (⟨some d,.call c,ty,pos,after,g⟩::rest) fs L (⟨gr++opds l,some d,ret,tr,ti,to,fr⟩::ss) fs' L':=by
  obtain ⟨f1,f2,f3⟩:=frB_spec hfr
  refine Run.cons ?_ ?_ ?_ (fun j=>?_) h
  · intro β a w G K Q hrs hsz hst hK
    have hw:=hg.wanted hrs hsz
    unfold opW Oper.wp
    rw [if_pos hw]
    have h1:=hc β a.eval w (opds_eval hg hev hrs)
    simp only [execOp]
    rw [h1,Oper.upon_enter]
    rw [List.map_append] at hst
    obtain ⟨S,F2,e,dj,hS,hT⟩:=Star_append.1 hst
    have hin:Star (((0,rd S w)::ti).map fun p=>p.2.r β) w G:=⟨S,F2,e,dj,⟨fun b=>Iff.rfl,fun b hb=>⟨hS.lt hb,rfl⟩⟩,hT⟩
    have hcall:=hs β w S hS w G hin
    refine hcall.mono (fun e' w' he=>?_)
    obtain ⟨β',hb,rfl,F',h2,h3,h4⟩:=he
    obtain ⟨S',F3,eF,dF,hS',hT'⟩:=h2
    have hS2:Star (tr.map fun p=>p.2.r β') w' S:=by
      have:(tr.map fun p=>p.2.r β')=tr.map fun p=>p.2.r β:=List.map_congr_left (fun p hp=>(p.2.sup (fun k hk=>hb k (f3 p.1 p.2 (htk p (List.mem_append_left _ hp)) k hk))))
      rw [this]
      exact hS.loc (fun b hb=>(hS'.2 b hb).2)
    refine hK β' w' F' hb ?_ h3 h4
    rw [List.map_append]
    have eS : ∀ b,S' b↔S b:=hS'.1
    exact Star_append.2 ⟨S,F3,fun b=>by rw [eF b,eS b],fun b h1 h2=>dF b ((eS b).2 h1) h2,hS2,hT'⟩
  · refine ⟨fun t z hz=>?_,fun d' hd'=>?_,htk,hnd,hnd',hout,f1,f2,fun j t hj _=>f3 j t hj⟩
    · rw [lk_append] at hz
      cases hx':lk gr t with
      | some z' => rw [hx'] at hz; simp at hz; subst hz; exact hg.fs hx'
      | none => rw [hx'] at hz; simp at hz; exact opds_fs hev hz
    · simp at hd';subst hd'
      rw [Nat.blt_eq] at hn
      exact hn
  · simp only [Step.outF,lk_cons]
  · rw [Step.outM_eq]
    have e1 : ∀ (to:List (Nat×Tok)),lkT (to.map (fun p=>(p.1,some p.2))++L) j=(lkP to j).or (lkT L j):=by
      intro to
      induction to with
      | nil => simp [lkP]
      | cons p to ih =>
        rw [List.map_cons,List.cons_append,lkT_cons]
        simp only [upd,lkP]
        split <;> simp [ih]
    rw [e1]
    cases hp:lkP to j with
    | some x => rfl
    | none =>
      simp only [Option.none_or]
      rw [if_neg]
      intro hm
      obtain ⟨p,hp',rfl⟩:=List.mem_map.1 hm
      obtain ⟨q,hq,e⟩:=List.mem_map.1 (hsub p hp')
      have : ∀ l:List (Nat×Tok),q∈l→lkP l p.1≠none:=by
        intro l
        induction l with
        | nil => intro h; cases h
        | cons r l ih =>
          intro h
          simp only [lkP]
          split
          · simp
          · rename_i hne
            rcases List.mem_cons.1 h with rfl | h
            · exact absurd e.symm hne
            · exact ih h
      exact this to hq hp
end
section
variable {P:Program} {n:Nat} {ops:Array Oper} {rest:List Oper} {fs:FL} {L:TL} {K:List Step→FL→TL→Prop} {d:Nat} {az:Array Operand} {ats:Array TypeId} {ty:TypeId} {pos:String} {after:Array Edge} {g:Option (Nat×Bool)} {gr:FL} {f:FuncId} {ti to:List (Nat×Tok)} {fr:List Nat} {ret:SV}
theorem K.cA (hf : fnB P f = true) (ks : List Nat) (hs : ∀ (β : Env) (w : World) (S : Foot), Star ((getT L ks).map fun p => p.2.r β) w S → SConAt β P f ((opl fs az).map (·.2)) ((0, rd S w) :: ti) ret ((0, rd S w) :: to) fr) (hg : Gd ops ⟨some d, .call ⟨.value (.func f), az, ats⟩, ty, pos, after, g⟩ fs gr)
    (hev:az.toList.all (fun o=>(ev fs o).isSome)=true) (htk:getT L (ti.map (·.1))=ti)
    (hb:(ndB ((getT L ks++ti).map (·.1))&&(ndB ((getT L ks++to).map (·.1))&&(ti.all (fun p=>(to.map (·.1)).contains p.1)&&(to.all (fun p=>(ti.map (·.1)).contains p.1 || (lkT L p.1).isNone)&&(frB fr fs L&&Nat.blt d n)))))=true)
    (h:RunK P n ops rest ((d,ret)::fs) (to.map (fun p=>(p.1,some p.2))++L) (fun ss fs' L'=>K (⟨gr++opds (fnl f fs az),some d,ret,getT L ks,ti,to,fr⟩::ss) fs' L')):RunK P n ops (⟨some d,.call ⟨.value (.func f),az,ats⟩,ty,pos,after,g⟩::rest) fs L K:=by
  simp only [Bool.and_eq_true] at hb
  have ht:AllT L (getT L ks++ti):=by
    have : ∀ l:List (Nat×Tok),AllT L l→AllT L (l++ti):=fun l=>by
      induction l with
      | nil => intro _; exact getT_of htk
      | cons p l ih => intro h; exact ⟨h.1, ih h.2⟩
    exact this _ (getT_all _)
  refine RunK.of (fun _ _ _ h=>Run.callA (fnl f fs az) (getT L ks) ti to hs (fnl_to hf) hg (fnl_all hev).spec ht.spec (ndB_spec hb.1) (ndB_spec hb.2.1) (fun p hp=>by simpa using List.all_eq_true.1 hb.2.2.1 p hp) (fun p hp=>by
    have:=List.all_eq_true.1 hb.2.2.2.1 p hp
    rw [Bool.or_eq_true] at this
    rcases this with h | h
    · exact .inl (by simpa using h)
    · exact .inr (by simpa using h)) hb.2.2.2.2.1 hb.2.2.2.2.2 h) h
end
end Go.Proofs.YtgjbibabegabnaaGreat.Sx
namespace Go.Proofs.YtgjbibabegabnaaGreat.Sx
open Go
def frOk (new old:List Nat):Bool:=ndB new&&new.all fun k=>!old.contains k
theorem rn_nd2 {f:Nat→Nat} {fr olds:List Nat} (hd:frOk (fr.map f) (olds.map f)=true):(fr.map f).Nodup:=by
  unfold frOk at hd
  rw [Bool.and_eq_true] at hd
  exact ndB_spec hd.1
theorem rn_ks2 {f:Nat→Nat} {ks fr olds:List Nat} (hd:frOk (fr.map f) (olds.map f)=true) (hk:ks.all (fun k=>fr.contains k || olds.contains k)=true) : ∀ k∈ks,k∉fr→f k∉fr.map f:=by
  unfold frOk at hd
  rw [Bool.and_eq_true] at hd
  intro k hk1 hk2 hm
  have h1:=List.all_eq_true.1 hd.2 _ hm
  have h2:=List.all_eq_true.1 hk k hk1
  simp only [Bool.or_eq_true,List.contains_iff_mem] at h2
  rcases h2 with h2 | h2
  · exact hk2 h2
  · have h3:(olds.map f).contains (f k)=true:=by simpa only [List.contains_iff_mem] using List.mem_map_of_mem (f:=f) h2
    rw [h3] at h1;cases h1
inductive PT (ω α:Type) where
  | nil : PT ω α
  | node (op : ω) (gone : Bool) (lf rt : PT ω α) (n : Int) (q : α) : PT ω α
namespace PT
section
variable {ω α:Type}
def isNil:PT ω α→Bool
  | .nil => true
  | .node .. => false
def lf:PT ω α→PT ω α
  | .nil => .nil
  | .node _ _ l _ _ _ => l
def rt:PT ω α→PT ω α
  | .nil => .nil
  | .node _ _ _ r _ _ => r
def gone:PT ω α→Bool
  | .nil => false
  | .node _ g _ _ _ _ => g
def n:PT ω α→Int
  | .nil => 0
  | .node _ _ _ _ n _ => n
def op [Inhabited ω]:PT ω α→ω
  | .nil => default
  | .node o _ _ _ _ _ => o
def q [Inhabited α]:PT ω α→α
  | .nil => default
  | .node _ _ _ _ _ q => q
theorem eta [Inhabited ω] [Inhabited α] {t:PT ω α} (h:t.isNil=false):t=.node t.op t.gone t.lf t.rt t.n t.q:=by
  cases t with
  | nil => cases h
  | node => rfl
end
end PT
def pureRes (p:Prop):Res where
  holds _ F:=(∀ b,¬ F b)∧p
  loc _ h:=h
  lt h hb:=absurd hb (h.1 _)
def exR {X:Type} (f:X→Res):Res where
  holds w F:=∃ x,(f x).holds w F
  loc hw h:=by obtain ⟨x,h⟩:=h;exact ⟨x,(f x).loc hw h⟩
  lt h hb:=by obtain ⟨x,h⟩:=h;exact (f x).lt h hb
theorem Star_pure {p:Prop} {L:List Res} {w:World} {F:Foot}:Star (pureRes p::L) w F↔p∧Star L w F:=by
  constructor
  · rintro ⟨F1,F2,e,d,⟨h1,h2⟩,h3⟩
    have:F=F2:=funext fun b=>propext (by rw [e b];exact ⟨fun h=>h.elim (fun h'=>absurd h' (h1 b)) id,.inr⟩)
    rw [this];exact ⟨h2,h3⟩
  · rintro ⟨h1,h2⟩
    exact ⟨fun _=>False,F,fun b=>by simp,fun _ h=>h.elim,⟨fun _ h=>h,h1⟩,h2⟩
section
variable {ω α:Type}
def ptRes (enc:ω→List Value) (pay:α→Value→Res) (T:TypeId):PT ω α→Value→Res
  | .nil, v => pureRes (v = .pointer none)
  | .node op g l r n q, v => exR fun z : Nat × Value × Value × Value => starRes [pureRes (v = ptr z.1 0), blkRes z.1 (enc op ++ [.bool g, one1 z.2.1, one1 z.2.2.1, .int .i64 n, z.2.2.2]) T, ptRes enc pay T l (one1 z.2.1), ptRes enc pay T r (one1 z.2.2.1), pay q z.2.2.2]
def ptT (enc:ω→List Value) (pay:α→Value→Res) (T:TypeId) (k:Nat) (t:PT ω α):Tok where
  ks:=[k]
  r β:=ptRes enc pay T t (one1 (β k).v)
  sup h:=by rw [h _ (List.mem_cons_self)]
def eqP (a k:Nat):Tok where
  ks:=[a,k]
  r β:=pureRes (one1 (β k).v=ptr (β a).b 0)
  sup h:=by rw [h a (by simp),h k (by simp)]
structure Pay (pay:α→Value→Res) (q:α) (pt:List (Nat×Tok)) (pc:Cl) (fr:List Nat):Prop where
  op : ∀ (β:Env) (w:World) (F:Foot) (v:Value),(pay q v).holds w F→∃ β':Env,(∀ j,j∉fr→β' j=β j)∧Star (pt.map fun p=>p.2.r β') w F∧pc.den β'=v
structure PayC (pay:α→Value→Res) (q:α) (pt:List (Nat×Tok)) (pc:Cl):Prop where
  cl : ∀ (β:Env) (w:World) (F:Foot),Star (pt.map fun p=>p.2.r β) w F→(pay q (pc.den β)).holds w F
variable {enc:ω→List Value} {pay:α→Value→Res} {T:TypeId}
def ndC (enc:ω→List Value) (op:ω) (g:Bool) (kl kr:Nat) (n:Int) (pc:Cl):List Cl:=(enc op).map .v++[.v (.bool g),.nv kl,.nv kr,.v (.int .i64 n),pc]
theorem ndC_den (op:ω) (g:Bool) (kl kr:Nat) (n:Int) (pc:Cl) (β:Env):(ndC enc op g kl kr n pc).map (Cl.den β)=enc op++[.bool g,one1 (β kl).v,one1 (β kr).v,.int .i64 n,pc.den β]:=by
  unfold ndC
  rw [List.map_append,List.map_map]
  congr 1
  have:((Cl.den β) ∘ Cl.v)=id:=funext fun x=>rfl
  rw [this,List.map_id]
theorem PT.open [Inhabited ω] [Inhabited α] {t : PT ω α} {pt : List (Nat × Tok)} {pc : Cl} {fr : List Nat} (k ka kl kr kp : Nat) (ht : t.isNil = false) (hp : Pay pay t.q pt pc fr) (hnd : ndB (k :: ka :: kl :: kr :: fr) = true) :
    Ent [(k,ptT enc pay T k t)] ((ka,blk ka (ndC enc t.op t.gone kl kr t.n pc) T)::(kl,ptT enc pay T kl t.lf)::(kr,ptT enc pay T kr t.rt)::(kp,eqP ka k)::pt) (ka::kl::kr::fr):=by
  have hnd':=ndB_spec hnd
  cases t with
  | nil => cases ht
  | node op g l r n q =>
    intro β w F hs
    obtain ⟨z,hz⟩:=Star_one.1 hs
    obtain ⟨hv,F1,F2,e1,d1,hb,F3,F4,e2,d2,hl,F5,F6,e3,d3,hr,hq⟩:=Star_pure.1 hz
    have hq:=Star_one.1 hq
    let β1:Env:=upd (upd (upd β ka ⟨z.1,undef⟩) kl ⟨0,z.2.1⟩) kr ⟨0,z.2.2.1⟩
    obtain ⟨β2,hb2,hst,hpc⟩:=hp.op β1 w F6 z.2.2.2 hq
    simp only [List.nodup_cons,List.mem_cons,not_or] at hnd'
    obtain ⟨⟨n1,n2,n3,n4⟩,⟨n5,n6,n7⟩,⟨n8,n9⟩,n10,_⟩:=hnd'
    have eka:β2 ka=⟨z.1,undef⟩:=by rw [hb2 ka n7];show upd _ kr _ ka=_;rw [upd_ne _ _ n6];show upd _ kl _ ka=_;rw [upd_ne _ _ n5,upd_same]
    have ekl:β2 kl=⟨0,z.2.1⟩:=by rw [hb2 kl n9];show upd _ kr _ kl=_;rw [upd_ne _ _ n8,upd_same]
    have ekr:β2 kr=⟨0,z.2.2.1⟩:=by rw [hb2 kr n10];show upd _ kr _ kr=_;rw [upd_same]
    have ek:β2 k=β k:=by rw [hb2 k n4];show upd _ kr _ k=_;rw [upd_ne _ _ n3];show upd _ kl _ k=_;rw [upd_ne _ _ n2];show upd _ ka _ k=_;rw [upd_ne _ _ n1]
    refine ⟨β2,fun j hj=>?_,F,fun _ h=>h,F1,F2,e1,d1,?_,F3,F4,e2,d2,?_,F5,F6,e3,d3,?_,?_⟩
    · simp only [List.mem_cons,not_or] at hj
      rw [hb2 j hj.2.2.2]
      show upd _ kr _ j=_
      rw [upd_ne _ _ hj.2.2.1]
      show upd _ kl _ j=_
      rw [upd_ne _ _ hj.2.1]
      show upd _ ka _ j=_
      rw [upd_ne _ _ hj.1]
    · show (blkRes (β2 ka).b _ T).holds w F1
      rw [ndC_den,eka,ekl,ekr,hpc];exact hb
    · show (ptRes enc pay T l (one1 (β2 kl).v)).holds w F3
      rw [ekl];exact hl
    · show (ptRes enc pay T r (one1 (β2 kr).v)).holds w F5
      rw [ekr];exact hr
    · refine Star_pure.2 ⟨?_,hst⟩
      rw [ek,eka];exact hv
theorem PT.close {op : ω} {g : Bool} {l r : PT ω α} {n : Int} {q : α} {pt : List (Nat × Tok)} {pc : Cl} (k ka kl kr kp : Nat) (hp : PayC pay q pt pc) :
    Ent ((ka,blk ka (ndC enc op g kl kr n pc) T)::(kl,ptT enc pay T kl l)::(kr,ptT enc pay T kr r)::(kp,eqP ka k)::pt) [(k,ptT enc pay T k (.node op g l r n q)),(kp,eqP ka k)] []:=by
  rintro β w F ⟨F1,F2,e1,d1,hb,F3,F4,e2,d2,hl,F5,F6,e3,d3,hr,hq⟩
  obtain ⟨hv,hst⟩:=Star_pure.1 hq
  have hb':(blkRes (β ka).b ((ndC enc op g kl kr n pc).map (Cl.den β)) T).holds w F1:=hb
  rw [ndC_den] at hb'
  refine ⟨β,fun _ _=>rfl,F,fun _ h=>h,F,fun _=>False,fun b=>by simp,fun _ _ h=>h,⟨((β ka).b,(β kl).v,(β kr).v,pc.den β),Star_pure.2 ⟨hv,F1,F2,e1,d1,hb',F3,F4,e2,d2,hl,F5,F6,e3,d3,hr,Star_one.2 (hp.cl β w F6 hst)⟩⟩,Star_one.2 ⟨fun _ h=>h,hv⟩⟩
theorem PT.closeE [Inhabited ω] [Inhabited α] {t : PT ω α} (ht : t.isNil = false) {pt : List (Nat × Tok)} {pc : Cl} (k ka kl kr kp : Nat) (hp : PayC pay t.q pt pc) :
    Ent ((ka,blk ka (ndC enc t.op t.gone kl kr t.n pc) T)::(kl,ptT enc pay T kl t.lf)::(kr,ptT enc pay T kr t.rt)::(kp,eqP ka k)::pt) [(k,ptT enc pay T k t),(kp,eqP ka k)] []:=by
  have h:=PT.close (enc:=enc) (T:=T) (op:=t.op) (g:=t.gone) (l:=t.lf) (r:=t.rt) (n:=t.n) k ka kl kr kp hp
  rw [← PT.eta ht] at h
  exact h
theorem PT.close0 {op : ω} {g : Bool} {l r : PT ω α} {n : Int} {q : α} {pt : List (Nat × Tok)} {pc : Cl} (k ka kl kr kp : Nat) (hp : PayC pay q pt pc) (hne : Nat.beq ka k = false) :
    Ent ((ka,blk ka (ndC enc op g kl kr n pc) T)::(kl,ptT enc pay T kl l)::(kr,ptT enc pay T kr r)::pt) [(k,ptT enc pay T k (.node op g l r n q)),(kp,eqP ka k)] [k]:=by
  rintro β w F ⟨F1,F2,e1,d1,hb,F3,F4,e2,d2,hl,F5,F6,e3,d3,hr,hst⟩
  have hb':(blkRes (β ka).b ((ndC enc op g kl kr n pc).map (Cl.den β)) T).holds w F1:=hb
  rw [ndC_den] at hb'
  have hne':ka≠k:=fun h=>by rw [h,Nat.beq_refl] at hne;cases hne
  have hv:one1 (upd β k ⟨0,ptr (β ka).b 0⟩ k).v=ptr (upd β k ⟨0,ptr (β ka).b 0⟩ ka).b 0:=by rw [upd_same,upd_ne _ _ hne'];rfl
  refine ⟨upd β k ⟨0,ptr (β ka).b 0⟩,fun j hj=>upd_ne _ _ (by simpa using hj),F,fun _ h=>h,F,fun _=>False,fun b=>by simp,fun _ _ h=>h,⟨((β ka).b,(β kl).v,(β kr).v,pc.den β),Star_pure.2 ⟨?_,F1,F2,e1,d1,hb',F3,F4,e2,d2,hl,F5,F6,e3,d3,hr,Star_one.2 (hp.cl β w F6 hst)⟩⟩,Star_one.2 ⟨fun _ h=>h,hv⟩⟩
  rw [hv,upd_ne _ _ hne']
theorem PT.nilT (k:Nat):Ent [] [(k,ptT enc pay T k (.nil:PT ω α))] [k]:=by
  intro β w F hs
  exact ⟨upd β k ⟨0,.pointer none⟩,fun j hj=>upd_ne _ _ (by simpa using hj),F,fun _ h=>h,Star_one.2 ⟨hs,by rw [upd_same];rfl⟩⟩
theorem At.alt {C : Ctx} {fs : FL} {L : TL} {R : Act → World → Prop} {t kp : Nat} {x y : SV} {tk : Tok} (hl : lk fs t = some x) (hk : lkT L kp = some tk)
    (he : ∀ (β:Env) (w:World) (F:Foot),(tk.r β).holds w F→x.den β=y.den β) (h:At C ((t,y)::fs) L R):At C fs L R:=by
  rintro a w ⟨β,F,hβ,hfs,hlt,hn,hd,hs,hF,hM⟩
  obtain ⟨φ,h1,h2,h3,h4⟩:=hs
  refine h a w ⟨β,F,hβ,fun t' x' hx=>?_,fun t' ht=>?_,hn,hd,⟨φ,h1,h2,h3,h4⟩,hF,hM⟩
  · rw [lk_cons] at hx
    by_cases e:t'=t
    · subst e
      simp at hx;subst hx
      rw [hfs _ _ hl]
      exact he β w _ (h1 kp tk hk)
    · rw [upd_ne _ _ e] at hx
      exact hfs _ _ hx
  · rw [lk_cons] at ht
    by_cases e:t'=t
    · subst e;exact hlt _ (by rw [hl];rfl)
    · rw [upd_ne _ _ e] at ht;exact hlt _ ht
theorem At.toP {C:Ctx} {fs:FL} {L:TL} {R:Act→World→Prop} {t a k:Nat} (kp:Nat) (hl:lk fs t=some (.a (.c (.nv k)))) (hk:lkT L kp=some (eqP a k)) (h:At C ((t,SV.p a 0)::fs) L R):At C fs L R :=
  At.alt (y:=SV.p a 0) hl hk (fun β w F h=>h.2) h
theorem At.toN {C:Ctx} {fs:FL} {L:TL} {R:Act→World→Prop} {t a k:Nat} (kp:Nat) (hl:lk fs t=some (SV.p a 0)) (hk:lkT L kp=some (eqP a k)) (h:At C ((t,.a (.c (.nv k)))::fs) L R):At C fs L R :=
  At.alt (y:=.a (.c (.nv k))) hl hk (fun β w F h=>h.2.symm) h
theorem At.nilN {C:Ctx} {fs:FL} {L:TL} {R:Act→World→Prop} {t k:Nat} (hl:lk fs t=some (SV.raw (.pointer none))) (hk:lkT L k=some (ptT enc pay T k (.nil:PT ω α))) (h:At C ((t,.a (.c (.nv k)))::fs) L R):At C fs L R :=
  At.alt (y:=.a (.c (.nv k))) hl hk (fun β w F h=>h.2.symm) h
theorem Ent.nilC {b:Nat} {cs cs':List Cl} {Tb:TypeId} {k:Nat} (he : ∀ β:Env,one1 (β k).v=.pointer none→cs.map (Cl.den β)=cs'.map (Cl.den β)):Ent [(b,blk b cs Tb),(k,ptT enc pay T k (.nil:PT ω α))] [(b,blk b cs' Tb),(k,ptT enc pay T k (.nil:PT ω α))] []:=by
  rintro β w F ⟨F1,F2,e,d,h1,h2⟩
  have h3:=(Star_one.1 h2).2
  refine ⟨β,fun _ _=>rfl,F,fun _ h=>h,F1,F2,e,d,?_,h2⟩
  show (blkRes (β b).b (cs'.map (Cl.den β)) Tb).holds w F1
  rw [← he β h3];exact h1
theorem eqP_ren {f:Nat→Nat} {a k a' k':Nat} (h1:f a'=a) (h2:f k'=k):RenT f (eqP a' k') (eqP a k):=by
  subst h1;subst h2;intro β;rfl
theorem ptT_ren {f:Nat→Nat} {k k':Nat} {t:PT ω α} (h:f k'=k):RenT f (ptT enc pay T k' t) (ptT enc pay T k t):=by
  subst h;intro β;rfl
end
section
variable {ω α:Type} {enc:ω→List Value} {pay:α→Value→Res} {T0:TypeId}
variable {P:Program} {n:Nat} {ops:Array Oper} {rest:List Oper} {fs fs':FL} {L L':TL} {ss:List Step} {K:List Step→FL→TL→Prop}
theorem pt_val {t:PT ω α} {v:Value} {w:World} {F:Foot} (h:(ptRes enc pay T0 t v).holds w F):(t.isNil=true∧v=.pointer none)∨(t.isNil=false∧∃ b,v=ptr b 0):=by
  cases t with
  | nil => exact .inl ⟨rfl, h.2⟩
  | node =>
    obtain ⟨z,hz⟩:=h
    exact .inr ⟨rfl,z.1,(Star_pure.1 hz).1⟩
theorem Run.eqnT {d k : Nat} {op : BinOp} {t ty : TypeId} {x z : Operand} {T : TypeId} {pos : String} {after : Array Edge} {g : Option (Nat × Bool)} {gr : FL} {tr : PT ω α} {V : Bool} (hg : Gd ops ⟨some d, .binOp op t x z ty, T, pos, after, g⟩ fs gr)
    (hx:ev fs x=some (.a (.c (.nv k)))) (hz:ev fs z=some (SV.raw (.pointer none))) (hk:lkT L k=some (ptT enc pay T0 k tr))
    (hr:(∀ a w,tr.isNil=false→(do eqGuard op t x z (.pointer (some a)) (.pointer none);binOp op t (.pointer (some a)) (.pointer none):Sem Value).run P w=.ok (.bool V) w)∧(∀ w,tr.isNil=true→(do eqGuard op t x z (.pointer none) (.pointer none);binOp op t (.pointer none) (.pointer none):Sem Value).run P w=.ok (.bool V) w)) (hn:Nat.blt d n=true)
    (h:Run P n ops rest ((d,SV.b V)::fs) L ss fs' L'):Run P n ops (⟨some d,.binOp op t x z ty,T,pos,after,g⟩::rest) fs L (⟨gr++opds [(x,.a (.c (.nv k))),(z,SV.raw (.pointer none))],some d,SV.b V,[(k,ptT enc pay T0 k tr)],[],[],[]⟩::ss) fs' L' :=
  Run.pureR [(x,.a (.c (.nv k))),(z,SV.raw (.pointer none))] (SV.b V) [(k,ptT enc pay T0 k tr)] rfl hg (fun p hp=>by simp at hp;rcases hp with rfl | rfl <;> assumption) (fun p hp=>by simp at hp;subst hp;exact hk) (by simp) hn (fun β ρ w F hs hρ=>by
    have h1:ρ x=one1 (β k).v:=hρ (x,.a (.c (.nv k))) (by simp)
    have h2:ρ z=.pointer none:=hρ (z,SV.raw (.pointer none)) (by simp)
    have h3:(ptRes enc pay T0 tr (one1 (β k).v)).holds w F:=Star_one.1 hs
    rcases pt_val h3 with ⟨e1,e2⟩ | ⟨e1,b,e2⟩
    · rw [e2] at h1
      simp only [execOp,h1,h2]
      rw [run_bind_ok (hr.2 w e1)];rfl
    · rw [e2] at h1
      simp only [execOp,h1,h2,ptr]
      rw [run_bind_ok (hr.1 _ w e1)];rfl) h
theorem K.eqnT {d k : Nat} {op : BinOp} {t ty : TypeId} {x z : Operand} {T : TypeId} {pos : String} {after : Array Edge} {g : Option (Nat × Bool)} {gr : FL} {tr : PT ω α} {V : Bool} (hg : Gd ops ⟨some d, .binOp op t x z ty, T, pos, after, g⟩ fs gr)
    (hx:ev fs x=some (.a (.c (.nv k)))) (hz:ev fs z=some (SV.raw (.pointer none))) (hk:lkT L k=some (ptT enc pay T0 k tr))
    (hr:(∀ a w,tr.isNil=false→(do eqGuard op t x z (.pointer (some a)) (.pointer none);binOp op t (.pointer (some a)) (.pointer none):Sem Value).run P w=.ok (.bool V) w)∧(∀ w,tr.isNil=true→(do eqGuard op t x z (.pointer none) (.pointer none);binOp op t (.pointer none) (.pointer none):Sem Value).run P w=.ok (.bool V) w)) (hn:Nat.blt d n=true)
    (h:RunK P n ops rest ((d,SV.b V)::fs) L (fun ss fs' L'=>K (⟨gr++opds [(x,.a (.c (.nv k))),(z,SV.raw (.pointer none))],some d,SV.b V,[(k,ptT enc pay T0 k tr)],[],[],[]⟩::ss) fs' L')):RunK P n ops (⟨some d,.binOp op t x z ty,T,pos,after,g⟩::rest) fs L K :=
  RunK.of (fun _ _ _ h=>Run.eqnT hg hx hz hk hr hn h) h
theorem en_eql {P:Program} {T e:TypeId} {x z:Operand} (tr:PT ω α) (h:P.underlying T=some (.pointer e)):(∀ a w,tr.isNil=false→(do eqGuard .eql T x z (.pointer (some a)) (.pointer none);binOp .eql T (.pointer (some a)) (.pointer none):Sem Value).run P w=.ok (.bool tr.isNil) w)∧(∀ w,tr.isNil=true→(do eqGuard .eql T x z (.pointer none) (.pointer none);binOp .eql T (.pointer none) (.pointer none):Sem Value).run P w=.ok (.bool tr.isNil) w) :=
  ⟨fun a w h1=>by rw [h1];exact pn_eql_some h a w,fun w h1=>by rw [h1];exact pn_eql_none h w⟩
theorem en_neq {P:Program} {T e:TypeId} {x z:Operand} (tr:PT ω α) (h:P.underlying T=some (.pointer e)):(∀ a w,tr.isNil=false→(do eqGuard .neq T x z (.pointer (some a)) (.pointer none);binOp .neq T (.pointer (some a)) (.pointer none):Sem Value).run P w=.ok (.bool !tr.isNil) w)∧(∀ w,tr.isNil=true→(do eqGuard .neq T x z (.pointer none) (.pointer none);binOp .neq T (.pointer none) (.pointer none):Sem Value).run P w=.ok (.bool !tr.isNil) w) :=
  ⟨fun a w h1=>by rw [h1];exact pn_neq_some h a w,fun w h1=>by rw [h1];exact pn_neq_none h w⟩
theorem Run.load1P (Y : Tys P) (kp : Nat) {d : Nat} {T : TypeId} {x : Operand} {ty : TypeId} {pos : String} {after : Array Edge} {g : Option (Nat × Bool)} {gr : FL} {k off a kk : Nat} {z : Value} {cs : List Cl} {Tb : TypeId} (hg : Gd ops ⟨some d, .load T x, ty, pos, after, g⟩ fs gr)
    (hx:ev fs x=some (SV.p k off)) (hl:lkT L k=some (blk k cs Tb)) (hk:lkT L kp=some (eqP a kk)) (hne:Nat.beq k kp=false) (hT:Y.f T=.one z) (hv:cs[off]? = some (.nv kk)) (hn:Nat.blt d n=true)
    (h:Run P n ops rest ((d,SV.p a 0)::fs) L ss fs' L'):Run P n ops (⟨some d,.load T x,ty,pos,after,g⟩::rest) fs L (⟨gr++opds [(x,SV.p k off)],some d,SV.p a 0,[(k,blk k cs Tb),(kp,eqP a kk)],[],[],[]⟩::ss) fs' L' :=
  have hne':k≠kp:=fun h=>by rw [h,Nat.beq_refl] at hne;cases hne
  have hty:Ty1 P T z:=by have:=Y.ok T;rw [hT] at this;exact this
  Run.pureR [(x,SV.p k off)] (SV.p a 0) [(k,blk k cs Tb),(kp,eqP a kk)] rfl hg (fun p hp=>by simp at hp;subst hp;exact hx) (fun p hp=>by simp at hp;rcases hp with rfl | rfl <;> assumption) (by simpa using hne') hn (fun β ρ w F hs hρ=>by
    have h1:ρ x=.pointer (some ⟨(β k).b,off,none⟩):=hρ (x,SV.p k off) (by simp)
    obtain ⟨F1,F2,e,d',hb,hq⟩:=hs
    have hq:=(Star_one.1 hq).2
    have h3:=run_load1 hty hb.2 (off:=off) (v:=(Cl.nv kk).den β) (by simp [hv])
    simp only [execOp,h1]
    rw [run_bind_ok h3]
    have e2:(Cl.nv kk).den β=ptr (β a).b 0:=hq
    rw [e2];rfl) h
theorem K.load1P (Y : Tys P) (kp : Nat) {d : Nat} {T : TypeId} {x : Operand} {ty : TypeId} {pos : String} {after : Array Edge} {g : Option (Nat × Bool)} {gr : FL} {k off a kk : Nat} {z : Value} {cs : List Cl} {Tb : TypeId} (hg : Gd ops ⟨some d, .load T x, ty, pos, after, g⟩ fs gr)
    (hx:ev fs x=some (SV.p k off)) (hl:lkT L k=some (blk k cs Tb)) (hk:lkT L kp=some (eqP a kk)) (hne:Nat.beq k kp=false) (hT:Y.f T=.one z) (hv:cs[off]? = some (.nv kk)) (hn:Nat.blt d n=true)
    (h:RunK P n ops rest ((d,SV.p a 0)::fs) L (fun ss fs' L'=>K (⟨gr++opds [(x,SV.p k off)],some d,SV.p a 0,[(k,blk k cs Tb),(kp,eqP a kk)],[],[],[]⟩::ss) fs' L')):RunK P n ops (⟨some d,.load T x,ty,pos,after,g⟩::rest) fs L K :=
  RunK.of (fun _ _ _ h=>Run.load1P Y kp hg hx hl hk hne hT hv hn h) h
theorem G.toP {C:Ctx} {P:Program} {fs:FL} {L:TL} {c:Code} {Q:Exit→Act→World→Prop} {t a k:Nat} (kp:Nat) (hl:lk fs t=some (.a (.c (.nv k)))) (hk:lkT L kp=some (eqP a k)) (h:G C P ((t,SV.p a 0)::fs) L c Q):G C P fs L c Q :=
  At.toP (R:=fun a w=>c.wp P Q a w) kp hl hk h
theorem G.toN {C:Ctx} {P:Program} {fs:FL} {L:TL} {c:Code} {Q:Exit→Act→World→Prop} {t a k:Nat} (kp:Nat) (hl:lk fs t=some (SV.p a 0)) (hk:lkT L kp=some (eqP a k)) (h:G C P ((t,.a (.c (.nv k)))::fs) L c Q):G C P fs L c Q :=
  At.toN (R:=fun a w=>c.wp P Q a w) kp hl hk h
theorem isn_f {b:Bool} (h:(!b)=true):b=false:=by cases b <;> simp_all
end
end Go.Proofs.YtgjbibabegabnaaGreat.Sx
namespace Go.Proofs.YtgjbibabegabnaaGreat.Sx
open Go
structure PF (ω α:Type) where
  op:ω
  gone:Bool
  n:Int
  q:α
  left:Bool
  sib:PT ω α
section
variable {ω α:Type}
def PF.fill (f:PF ω α) (t:PT ω α):PT ω α:=bif f.left then .node f.op f.gone t f.sib f.n f.q else .node f.op f.gone f.sib t f.n f.q
def plug:List (PF ω α)→PT ω α→PT ω α
  | [], t => t
  | f :: p, t => plug p (f.fill t)
def holeRes (enc:ω→List Value) (pay:α→Value→Res) (T:TypeId):List (PF ω α)→Value→Value→Res
  | [], v, u => pureRes (v = u)
  | f :: p, v, u => exR fun z : Nat × Value × Value => starRes [blkRes z.1 (enc f.op ++ [.bool f.gone, (bif f.left then u else one1 z.2.1), (bif f.left then one1 z.2.1 else u), .int .i64 f.n, z.2.2]) T, ptRes enc pay T f.sib (one1 z.2.1), pay f.q z.2.2, holeRes enc pay T p v (ptr z.1 0)]
def holeT (enc:ω→List Value) (pay:α→Value→Res) (T:TypeId) (kr kf:Nat) (p:List (PF ω α)):Tok where
  ks:=[kr,kf]
  r β:=holeRes enc pay T p (one1 (β kr).v) (one1 (β kf).v)
  sup h:=by rw [h kr (by simp),h kf (by simp)]
variable {enc:ω→List Value} {pay:α→Value→Res} {T:TypeId}
theorem hole_ren {f:Nat→Nat} {a k a' k':Nat} {p:List (PF ω α)} (h1:f a'=a) (h2:f k'=k):RenT f (holeT enc pay T a' k' p) (holeT enc pay T a k p):=by
  subst h1;subst h2;intro β;rfl
theorem hole0 (kh k:Nat):Ent [] [(kh,holeT enc pay T k k ([]:List (PF ω α)))] []:=by
  intro β w F hs
  exact ⟨β,fun _ _=>rfl,F,fun _ h=>h,Star_one.2 ⟨hs,rfl⟩⟩
theorem Star_swap {a b:Res} {L:List Res} {w:World} {F:Foot} (h:Star (a::b::L) w F):Star (b::a::L) w F:=Star_perm (List.Perm.swap b a L) h
theorem holeL {op : ω} {g : Bool} {n : Int} {q : α} {r : PT ω α} {p : List (PF ω α)} {pt : List (Nat × Tok)} {pc : Cl} (kh kt kf ka kl kr kp : Nat) (hp : PayC pay q pt pc) :
    Ent ((kh,holeT enc pay T kt kf p)::(ka,blk ka (ndC enc op g kl kr n pc) T)::(kr,ptT enc pay T kr r)::(kp,eqP ka kf)::pt) [(kh,holeT enc pay T kt kl (⟨op,g,n,q,true,r⟩::p))] []:=by
  rintro β w F ⟨F0,F9,e0,d0,hh,F1,F2,e1,d1,hb,F5,F6,e3,d3,hr,hq⟩
  obtain ⟨hv,hst⟩:=Star_pure.1 hq
  have hb':(blkRes (β ka).b ((ndC enc op g kl kr n pc).map (Cl.den β)) T).holds w F1:=hb
  rw [ndC_den] at hb'
  have hh':(holeRes enc pay T p (one1 (β kt).v) (one1 (β kf).v)).holds w F0:=hh
  rw [hv] at hh'
  refine ⟨β,fun _ _=>rfl,F,fun _ h=>h,Star_one.2 ⟨((β ka).b,(β kr).v,pc.den β),?_⟩⟩
  have h1:Star [holeRes enc pay T p (one1 (β kt).v) (ptr (β ka).b 0),blkRes (β ka).b (enc op++[.bool g,one1 (β kl).v,one1 (β kr).v,.int .i64 n,pc.den β]) T,ptRes enc pay T r (one1 (β kr).v),pay q (pc.den β)] w F :=
    ⟨F0,F9,e0,d0,hh',F1,F2,e1,d1,hb',F5,F6,e3,d3,hr,Star_one.2 (hp.cl β w F6 hst)⟩
  exact Star_perm (List.perm_append_comm (l₁:=[_]) (l₂:=[_,_,_])) h1
theorem holeR {op : ω} {g : Bool} {n : Int} {q : α} {l : PT ω α} {p : List (PF ω α)} {pt : List (Nat × Tok)} {pc : Cl} (kh kt kf ka kl kr kp : Nat) (hp : PayC pay q pt pc) :
    Ent ((kh,holeT enc pay T kt kf p)::(ka,blk ka (ndC enc op g kl kr n pc) T)::(kl,ptT enc pay T kl l)::(kp,eqP ka kf)::pt) [(kh,holeT enc pay T kt kr (⟨op,g,n,q,false,l⟩::p))] []:=by
  rintro β w F ⟨F0,F9,e0,d0,hh,F1,F2,e1,d1,hb,F5,F6,e3,d3,hr,hq⟩
  obtain ⟨hv,hst⟩:=Star_pure.1 hq
  have hb':(blkRes (β ka).b ((ndC enc op g kl kr n pc).map (Cl.den β)) T).holds w F1:=hb
  rw [ndC_den] at hb'
  have hh':(holeRes enc pay T p (one1 (β kt).v) (one1 (β kf).v)).holds w F0:=hh
  rw [hv] at hh'
  refine ⟨β,fun _ _=>rfl,F,fun _ h=>h,Star_one.2 ⟨((β ka).b,(β kl).v,pc.den β),?_⟩⟩
  have h1:Star [holeRes enc pay T p (one1 (β kt).v) (ptr (β ka).b 0),blkRes (β ka).b (enc op++[.bool g,one1 (β kl).v,one1 (β kr).v,.int .i64 n,pc.den β]) T,ptRes enc pay T l (one1 (β kl).v),pay q (pc.den β)] w F :=
    ⟨F0,F9,e0,d0,hh',F1,F2,e1,d1,hb',F5,F6,e3,d3,hr,Star_one.2 (hp.cl β w F6 hst)⟩
  exact Star_perm (List.perm_append_comm (l₁:=[_]) (l₂:=[_,_,_])) h1
theorem plug_res : ∀ (p:List (PF ω α)) {t:PT ω α} {v u:Value} {w:World} {F:Foot},Star [holeRes enc pay T p v u,ptRes enc pay T t u] w F→one1 u=u→(ptRes enc pay T (plug p t) v).holds w F
  | [], t, v, u, w, F, h, _ => by
    obtain ⟨e,h2⟩:=Star_pure.1 h
    subst e
    exact Star_one.1 h2
  | f :: p, t, v, u, w, F, h, hu => by
    obtain ⟨F1,F2,e,d,⟨z,hz⟩,h2⟩:=h
    have h3:Star [blkRes z.1 (enc f.op++[.bool f.gone,(bif f.left then u else one1 z.2.1),(bif f.left then one1 z.2.1 else u),.int .i64 f.n,z.2.2]) T,ptRes enc pay T f.sib (one1 z.2.1),pay f.q z.2.2,holeRes enc pay T p v (ptr z.1 0),ptRes enc pay T t u] w F:=Star_append.2 ⟨F1,F2,e,d,hz,h2⟩
    obtain ⟨G1,G2,e',d',hb,h4⟩:=h3
    obtain ⟨G3,G4,e2,d2,hs,h5⟩:=h4
    obtain ⟨G5,G6,e3,d3,hq,h6⟩:=h5
    obtain ⟨G7,G8,e4,d4,hh,h7⟩:=h6
    have ht:=Star_one.1 h7
    refine plug_res p (t:=f.fill t) (u:=ptr z.1 0) ?_ rfl
    have main:Star [holeRes enc pay T p v (ptr z.1 0),blkRes z.1 (enc f.op++[.bool f.gone,(bif f.left then u else one1 z.2.1),(bif f.left then one1 z.2.1 else u),.int .i64 f.n,z.2.2]) T,ptRes enc pay T f.sib (one1 z.2.1),ptRes enc pay T t u,pay f.q z.2.2] w F:=by
      have h8:Star ([blkRes z.1 (enc f.op++[.bool f.gone,(bif f.left then u else one1 z.2.1),(bif f.left then one1 z.2.1 else u),.int .i64 f.n,z.2.2]) T,ptRes enc pay T f.sib (one1 z.2.1),pay f.q z.2.2]++[holeRes enc pay T p v (ptr z.1 0),ptRes enc pay T t u]) w F:=⟨G1,G2,e',d',hb,G3,G4,e2,d2,hs,G5,G6,e3,d3,hq,G7,G8,e4,d4,hh,h7⟩
      refine Star_perm ?_ h8
      have p1 : ∀ (a b c d e:Res),([a,b,c]++[d,e]).Perm [d,a,b,e,c]:=fun a b c d e=>by
        have h1:([a,b,c]++[d,e]).Perm ([d,e]++[a,b,c]):=List.perm_append_comm
        refine h1.trans (List.Perm.cons d ?_)
        have h2:([e]++[a,b]).Perm ([a,b]++[e]):=List.perm_append_comm
        exact h2.append_right [c]
      exact p1 _ _ _ _ _
    obtain ⟨K1,K2,e5,d5,hh',K3,K4,e6,d6,hb',hrest⟩:=main
    have fin : ∀ (a b:PT ω α) (x y:Value),Star [ptRes enc pay T a (one1 x),ptRes enc pay T b (one1 y),pay f.q z.2.2] w K4→(blkRes z.1 (enc f.op++[.bool f.gone,one1 x,one1 y,.int .i64 f.n,z.2.2]) T).holds w K3→(ptRes enc pay T (.node f.op f.gone a b f.n f.q) (ptr z.1 0)).holds w K2:=fun a b x y h1 h2 =>
      ⟨(z.1,x,y,z.2.2),Star_pure.2 ⟨rfl,K3,K4,e6,d6,h2,h1⟩⟩
    refine ⟨K1,K2,e5,d5,hh',Star_one.2 ?_⟩
    unfold PF.fill
    cases hl:f.left with
    | true =>
      rw [hl] at hb'
      refine fin t f.sib u z.2.1 ?_ ?_
      · rw [hu];exact Star_swap hrest
      · rw [hu];exact hb'
    | false =>
      rw [hl] at hb'
      refine fin f.sib t z.2.1 u ?_ ?_
      · rw [hu];exact hrest
      · rw [hu];exact hb'
theorem plugE {t:PT ω α} {p:List (PF ω α)} (kh kr kf:Nat):Ent [(kh,holeT enc pay T kr kf p),(kf,ptT enc pay T kf t)] [(kr,ptT enc pay T kr (plug p t))] []:=by
  intro β w F h
  refine ⟨β,fun _ _=>rfl,F,fun _ h=>h,Star_one.2 (plug_res p h ?_)⟩
  generalize (β kf).v=v
  cases h:v.oneCell' with
  | true => have e : one1 v = v := by simp only [one1, h]
            rw [e,e]
  | false => have e : one1 v = .bool false := by simp only [one1, h]
             rw [e];rfl
def holeX (enc:ω→List Value) (pay:α→Value→Res) (T:TypeId) (kr kf:Nat) (e t:PT ω α):Tok where
  ks:=[kr,kf]
  r β:=exR fun p:List (PF ω α)=>starRes [pureRes (plug p t=e),holeRes enc pay T p (one1 (β kr).v) (one1 (β kf).v)]
  sup h:=by rw [h kr (by simp),h kf (by simp)]
theorem holeX_ren {f:Nat→Nat} {a k a' k':Nat} {e t:PT ω α} (h1:f a'=a) (h2:f k'=k):RenT f (holeX enc pay T a' k' e t) (holeX enc pay T a k e t):=by
  subst h1;subst h2;intro β;rfl
theorem holeX0 (kh k:Nat) (t:PT ω α):Ent [] [(kh,holeX enc pay T k k t t)] []:=by
  intro β w F hs
  exact ⟨β,fun _ _=>rfl,F,fun _ h=>h,Star_one.2 ⟨[],Star_pure.2 ⟨rfl,Star_one.2 ⟨hs,rfl⟩⟩⟩⟩
theorem holeXL [Inhabited ω] [Inhabited α] {e t : PT ω α} (ht : t.isNil = false) {pt : List (Nat × Tok)} {pc : Cl} (kh kt kf ka kl kr kp : Nat) (hp : PayC pay t.q pt pc) :
    Ent ((kh,holeX enc pay T kt kf e t)::(ka,blk ka (ndC enc t.op t.gone kl kr t.n pc) T)::(kr,ptT enc pay T kr t.rt)::(kp,eqP ka kf)::pt) [(kh,holeX enc pay T kt kl e t.lf)] []:=by
  rintro β w F ⟨F0,F9,e0,d0,⟨p,hh⟩,hrest⟩
  obtain ⟨hpl,hh⟩:=Star_pure.1 hh
  obtain ⟨β',hb,F',hs,h⟩:=holeL (enc:=enc) (T:=T) (p:=p) (op:=t.op) (g:=t.gone) (n:=t.n) (r:=t.rt) kh kt kf ka kl kr kp hp β w F ⟨F0,F9,e0,d0,Star_one.1 hh,hrest⟩
  refine ⟨β',hb,F',hs,Star_one.2 ⟨_,Star_pure.2 ⟨?_,h⟩⟩⟩
  rw [← hpl]
  show plug p (PT.node t.op t.gone t.lf t.rt t.n t.q)=plug p t
  rw [← PT.eta ht]
theorem holeXR [Inhabited ω] [Inhabited α] {e t : PT ω α} (ht : t.isNil = false) {pt : List (Nat × Tok)} {pc : Cl} (kh kt kf ka kl kr kp : Nat) (hp : PayC pay t.q pt pc) :
    Ent ((kh,holeX enc pay T kt kf e t)::(ka,blk ka (ndC enc t.op t.gone kl kr t.n pc) T)::(kl,ptT enc pay T kl t.lf)::(kp,eqP ka kf)::pt) [(kh,holeX enc pay T kt kr e t.rt)] []:=by
  rintro β w F ⟨F0,F9,e0,d0,⟨p,hh⟩,hrest⟩
  obtain ⟨hpl,hh⟩:=Star_pure.1 hh
  obtain ⟨β',hb,F',hs,h⟩:=holeR (enc:=enc) (T:=T) (p:=p) (op:=t.op) (g:=t.gone) (n:=t.n) (l:=t.lf) kh kt kf ka kl kr kp hp β w F ⟨F0,F9,e0,d0,Star_one.1 hh,hrest⟩
  refine ⟨β',hb,F',hs,Star_one.2 ⟨_,Star_pure.2 ⟨?_,h⟩⟩⟩
  rw [← hpl]
  show plug p (PT.node t.op t.gone t.lf t.rt t.n t.q)=plug p t
  rw [← PT.eta ht]
theorem plugX {e t:PT ω α} (kh kr kf:Nat):Ent [(kh,holeX enc pay T kr kf e t),(kf,ptT enc pay T kf t)] [(kr,ptT enc pay T kr e)] []:=by
  rintro β w F ⟨F0,F9,e0,d0,⟨p,hh⟩,hrest⟩
  obtain ⟨hpl,hh⟩:=Star_pure.1 hh
  obtain ⟨β',hb,F',hs,h⟩:=plugE (enc:=enc) (pay:=pay) (T:=T) (p:=p) (t:=t) kh kr kf β w F ⟨F0,F9,e0,d0,Star_one.1 hh,hrest⟩
  rw [hpl] at h
  exact ⟨β',hb,F',hs,h⟩
end
section
variable {P:Program} {n:Nat} {ops:Array Oper} {rest:List Oper} {fs fs':FL} {L L':TL} {ss:List Step} {K:List Step→FL→TL→Prop}
end
end Go.Proofs.YtgjbibabegabnaaGreat.Sx
namespace Go.Proofs.YtgjbibabegabnaaGreat
open Go Go.Proofs.YtgjbibabegabnaaGreat.Sx
def payQ (q:TQueue) (v:Value):Res:=exR fun a:Nat→Nat=>starRes [pureRes (v=ptr (a 1) 0),eltRes (tq q) a]
theorem payQ_op (n0 n1 n2 n3 n4 n5 n6 n7 n8:Nat) (q:TQueue) (hnd:ndB [n0,n1,n2,n3,n4,n5,n6,n7,n8]=true):Pay payQ q (tkQueue n0 n1 n2 n3 n4 n5 n6 n7 n8 q []) (.p n0 0) [n0,n1,n2,n3,n4,n5,n6,n7,n8] where
  op:=by
    rintro β w F v ⟨a,h⟩
    obtain ⟨hv,h2⟩:=Star_pure.1 h
    have h2:Star ((tq q).map fun p=>p.2.r (adEnv a)) w F:=Star_one.1 h2
    have hn:=ndB_spec hnd
    simp only [List.nodup_cons,List.mem_cons,not_or,List.not_mem_nil,not_false_eq_true,and_true] at hn
    obtain ⟨⟨a1,a2,a3,a4,a5,a6,a7,a8⟩,⟨b2,b3,b4,b5,b6,b7,b8⟩,⟨c3,c4,c5,c6,c7,c8⟩,⟨d4,d5,d6,d7,d8⟩,⟨e5,e6,e7,e8⟩,⟨f6,f7,f8⟩,⟨g7,g8⟩,h8,_⟩:=hn
    let β':Env:=fun j=>if j=n0 then ⟨a 1,undef⟩ else if j=n1 then ⟨a 2,undef⟩ else if j=n2 then ⟨a 3,undef⟩ else if j=n3 then ⟨a 4,undef⟩ else if j=n4 then ⟨a 5,undef⟩ else if j=n5 then ⟨a 6,undef⟩ else if j=n6 then ⟨a 7,undef⟩ else if j=n7 then ⟨a 8,undef⟩ else if j=n8 then ⟨a 9,undef⟩ else β j
    have k1:β' n0=⟨a 1,undef⟩:=by simp [β']
    have k2:β' n1=⟨a 2,undef⟩:=by simp [β',Ne.symm a1]
    have k3:β' n2=⟨a 3,undef⟩:=by simp [β',Ne.symm a2,Ne.symm b2]
    have k4:β' n3=⟨a 4,undef⟩:=by simp [β',Ne.symm a3,Ne.symm b3,Ne.symm c3]
    have k5:β' n4=⟨a 5,undef⟩:=by simp [β',Ne.symm a4,Ne.symm b4,Ne.symm c4,Ne.symm d4]
    have k6:β' n5=⟨a 6,undef⟩:=by simp [β',Ne.symm a5,Ne.symm b5,Ne.symm c5,Ne.symm d5,Ne.symm e5]
    have k7:β' n6=⟨a 7,undef⟩:=by simp [β',Ne.symm a6,Ne.symm b6,Ne.symm c6,Ne.symm d6,Ne.symm e6,Ne.symm f6]
    have k8:β' n7=⟨a 8,undef⟩:=by simp [β',Ne.symm a7,Ne.symm b7,Ne.symm c7,Ne.symm d7,Ne.symm e7,Ne.symm f7,Ne.symm g7]
    have k9:β' n8=⟨a 9,undef⟩:=by simp [β',Ne.symm a8,Ne.symm b8,Ne.symm c8,Ne.symm d8,Ne.symm e8,Ne.symm f8,Ne.symm g8,Ne.symm h8]
    refine ⟨β',fun j hj=>?_,?_,?_⟩
    · simp only [List.mem_cons,not_or,List.not_mem_nil,not_false_eq_true,and_true] at hj
      obtain ⟨j0,j1,j2,j3,j4,j5,j6,j7,j8⟩:=hj
      simp [β',j0,j1,j2,j3,j4,j5,j6,j7,j8]
    · have e : ((tkQueue n0 n1 n2 n3 n4 n5 n6 n7 n8 q []).map fun p => p.2.r β') = (tq q).map fun p => p.2.r (adEnv a) := by
        simp only [tq,tkQueue,List.map_cons,List.map_nil,blk,pl,Cl.den,adEnv,k1,k2,k3,k4,k5,k6,k7,k8,k9]
      rw [e];exact h2
    · rw [hv];simp [Cl.den,k1,ptr]
theorem payQ_cl (n0 n1 n2 n3 n4 n5 n6 n7 n8:Nat) (q:TQueue):PayC payQ q (tkQueue n0 n1 n2 n3 n4 n5 n6 n7 n8 q []) (.p n0 0) where
  cl:=by
    intro β w F h
    rw [tq_at] at h
    refine ⟨adr qks (gN [n0,n1,n2,n3,n4,n5,n6,n7,n8]) β,Star_pure.2 ⟨?_,Star_one.2 h⟩⟩
    simp [Cl.den,ptr,adr,gN]
end Go.Proofs.YtgjbibabegabnaaGreat
namespace Go.Proofs.YtgjbibabegabnaaGreat
open Go Go.Proofs.YtgjbibabegabnaaGreat.Sx
variable {ω:Type}
def pQ:PT ω TQueue→List TQueue
  | .nil => []
  | .node _ _ l r _ q => q :: (pQ l ++ pQ r)
def pI:Nat→PT ω TQueue→PT ω Nat
  | _, .nil => .nil
  | i, .node o g l r n _ => .node o g (pI (i + 1) l) (pI (i + 1 + (pQ l).length) r) n i
end Go.Proofs.YtgjbibabegabnaaGreat
namespace Go.Proofs.YtgjbibabegabnaaGreat
open Go Go.Proofs.YtgjbibabegabnaaGreat.Sx
structure THp where
  q:Nat
  c:Nat
def hA (A:List (Nat→Nat)) (e:THp):Nat:=A.getD e.q (fun _=>0) e.c
def hTree (Q:List TQueue) (e:THp):Option (TS TSlot TSize):=(Q[e.q]?).bind fun q=>match e.c with
  | 4 => some q.present
  | 6 => some q.gone
  | _ => none
def hQueue (Q:List TQueue) (e:THp):Option TQueue:=if e.c=1 then Q[e.q]? else none
structure TPart where
  shelf:THp
  floor:TTook
def eTPart (A:List (Nat→Nat)) (x:TPart):List Value:=[ptr (hA A x.shelf) 0,.bool x.floor.found,.int .i64 x.floor.item.key,.int .i64 x.floor.item.id]
theorem eTPart_len (A:List (Nat→Nat)) : ∀ x,(eTPart A x).length=4:=fun _=>rfl
theorem eTPart_one (A:List (Nat→Nat)) : ∀ x,(eTPart A x).all Value.oneCell'=true:=fun _=>rfl
def partsIn (n:Nat) (l:List TPart):Bool:=l.all fun x=>decide (x.shelf.q<n)
structure TViews where
  parts:List TPart
instance:Inhabited TOp:=⟨⟨0,false,⟨0,0⟩⟩⟩
instance:Inhabited TQueue:=⟨⟨0,⟨⟨[],[],0,0,0⟩,⟨0,0⟩⟩,⟨⟨[],[],0,0,0⟩,⟨0,0⟩⟩,⟨⟨[],[],0,0,0⟩,⟨0,0⟩⟩,⟨⟨[],[],0,0,0⟩,⟨0,0⟩⟩,0⟩⟩
structure TPast where
  capacity:Int
  root:PT TOp TQueue
structure TPastI where
  capacity:Int
  root:PT TOp Nat
def shelf_Above.f (k:Nat) (p1:Pool (TNode TSlot TSize)) (rt0:TRef) (a1:TItem):Option (Int):=(Tree_Len.f opsS k p1 rt0).bind fun x1=>(shelf_Of.f k a1).bind fun x2=>(Tree_Rank.f opsS k p1 rt0 x2).bind fun x3=>(shelf_Of.f k a1).bind fun x4=>(Tree_Find.f opsS k p1 rt0 x4).bind fun x5=>bif x5.2 then (some (w64 ((w64 (x1 - x3)) - 1))) else (some (w64 (x1 - x3)))
def fuse_part_ahead.f (k:Nat) (Q:List TQueue) (a0:TPart):Option (Int):=bif (!a0.floor.found) then (some 0) else ((hTree Q a0.shelf).bind fun x1=>(Tree_Len.f opsS k x1.p x1.r).bind fun x2=>(hTree Q a0.shelf).bind fun x3=>(shelf_Above.f k x3.p x3.r a0.floor.item).bind fun x4=>some (w64 (x2 - x4)))
def fuse_part_size.f (k:Nat) (Q:List TQueue) (a0:TPart):Option (Int):=(hTree Q a0.shelf).bind fun x1=>(Tree_Len.f opsS k x1.p x1.r).bind fun x2=>(fuse_part_ahead.f k Q a0).bind fun x3=>some (w64 (x2 - x3))
def fuse_part_rank.f (k:Nat) (Q:List TQueue) (a0:TPart) (a1:TItem):Option (Int):=(shelf_Of.f k a1).bind fun x1=>(hTree Q a0.shelf).bind fun x2=>(Tree_Rank.f opsS k x2.p x2.r x1).bind fun x3=>(fuse_part_ahead.f k Q a0).bind fun x4=>some (gmax 0 (w64 (x3 - x4)))
def fuse_Views_Len.l0 (k:Nat) (Q:List TQueue) (a0:TViews):Nat→(Int×Int)→Option (Int)
  | 0, _ => none
  | n + 1, (v1, v2) => bif (decide (v2 < (a0.parts.length : Int))) then ((atL a0.parts v2).bind fun x2 => (fuse_part_size.f k Q x2).bind fun x3 => fuse_Views_Len.l0 k Q a0 n ((w64 (v1 + x3)), (w64 (v2 + 1)))) else (some v1)
def fuse_Views_Len.f (k:Nat) (Q:List TQueue) (a0:TViews):Option (Int):=(fuse_Views_Len.l0 k Q a0 k (0,0)).bind fun x1=>some x1
def fuse_Views_rank.l0 (k:Nat) (Q:List TQueue) (a0:TViews) (a1:TItem):Nat→(Int×Int)→Option (Int)
  | 0, _ => none
  | n + 1, (v1, v2) => bif (decide (v2 < (a0.parts.length : Int))) then ((atL a0.parts v2).bind fun x2 => (fuse_part_rank.f k Q x2 a1).bind fun x3 => fuse_Views_rank.l0 k Q a0 a1 n ((w64 (v1 + x3)), (w64 (v2 + 1)))) else (some v1)
def fuse_Views_rank.f (k:Nat) (Q:List TQueue) (a0:TViews) (a1:TItem):Option (Int):=(fuse_Views_rank.l0 k Q a0 a1 k (0,0)).bind fun x1=>some x1
def Tree_At.l0 {E A:Type} (O:Ops E A) (k:Nat) (p1:Pool (TNode E A)):Nat→(Int×TRef)→Option (Sum (E×Bool) (Unit))
  | 0, _ => none
  | n + 1, (v1, v2) => bif (v2.gen != 0) then ((Tree_get.f O k p1 v2).bind fun x2 => (Tree_get.f O k p1 x2.left).bind fun x3 => bif (v1 == x3.size) then (some (Sum.inl (x2.e, true))) else (bif (decide (v1 < x3.size)) then (Tree_At.l0 O k p1 n (v1, x2.left)) else (Tree_At.l0 O k p1 n ((w64 (v1 - (w64 (x3.size + 1)))), x2.right)))) else (some (Sum.inr ()))
def Tree_At.f {E A:Type} (O:Ops E A) (k:Nat) (p1:Pool (TNode E A)) (rt0:TRef) (a1:Int):Option (E×Bool):=bif (decide (a1<0)) then (some (O.zE,false)) else ((Tree_At.l0 O k p1 k (a1,rt0)).bind (Sum.elim (fun r=>some r) (fun w1=>some (O.zE,false))))
def fuse_Views_within.l0 (k:Nat) (Q:List TQueue) (a0:TViews) (a1:TPart) (a2:Int):Nat→(Int×Int)→Option (Sum (TItem×Bool) (Unit))
  | 0, _ => none
  | n + 1, (v1, v2) => bif (decide (v1 < v2)) then ((hTree Q a1.shelf).bind fun x5 => (Tree_At.f opsS k x5.p x5.r (w64 ((w64 (v1 + v2)).tdiv 2))).bind fun x6 => (fuse_Views_rank.f k Q a0 x6.1.item).bind fun x7 => bif (x7 == a2) then (some (Sum.inl (x6.1.item, true))) else (bif (decide (x7 < a2)) then (fuse_Views_within.l0 k Q a0 a1 a2 n ((w64 ((w64 ((w64 (v1 + v2)).tdiv 2)) + 1)), v2)) else (fuse_Views_within.l0 k Q a0 a1 a2 n (v1, (w64 ((w64 (v1 + v2)).tdiv 2)))))) else (some (Sum.inr ()))
def fuse_Views_within.f (k:Nat) (Q:List TQueue) (a0:TViews) (a1:TPart) (a2:Int):Option (TItem×Bool):=(fuse_part_ahead.f k Q a1).bind fun x1=>(hTree Q a1.shelf).bind fun x2=>(Tree_Len.f opsS k x2.p x2.r).bind fun x3=>(fuse_Views_within.l0 k Q a0 a1 a2 k (x1,x3)).bind (Sum.elim (fun r=>some r) (fun w4=>some (zTItem,false)))
def fuse_Views_At.l0 (k:Nat) (Q:List TQueue) (a0:TViews) (a1:Int):Nat→Int→Option (Sum (TItem×Bool) (Unit))
  | 0, _ => none
  | n + 1, v1 => bif (decide (v1 < (a0.parts.length : Int))) then ((atL a0.parts v1).bind fun x2 => (fuse_Views_within.f k Q a0 x2 a1).bind fun x3 => bif x3.2 then (some (Sum.inl (x3.1, true))) else (fuse_Views_At.l0 k Q a0 a1 n (w64 (v1 + 1)))) else (some (Sum.inr ()))
def fuse_Views_At.f (k:Nat) (Q:List TQueue) (a0:TViews) (a1:Int):Option (TItem×Bool):=(fuse_Views_At.l0 k Q a0 a1 k 0).bind (Sum.elim (fun r=>some r) (fun w1=>some (zTItem,false)))
def fuse_part_raised.f (k:Nat) (Q:List TQueue) (a0:TPart) (a1:TItem):Option (TPart):=bif (!a0.floor.found) then (some (TPart.mk a0.shelf (TTook.mk true a1))) else ((item_Compare.f k a0.floor.item a1).bind fun x1=>bif (decide (x1<0)) then (some (TPart.mk a0.shelf (TTook.mk true a1))) else (some a0))
def slices_Clone.f (k:Nat) (Q:List TQueue) (l0:List TPart):Option (List TPart):=bif decide (([]:List TPart).length+l0.length<4294967296) then (some (([]:List TPart)++l0)) else none
def fuse_Views_Then.l0 (k:Nat) (Q:List TQueue) (a1:THp) (x3:List TPart) (x10:TItem×Bool):Nat→(List TPart×Int)→Option (List TPart)
  | 0, _ => none
  | n + 1, (v1, v2) => bif (decide (v2 < ((x3 ++ ([(TPart.mk (THp.mk a1.q 6) zTTook)] : List TPart)).length : Int))) then ((atL v1 v2).bind fun x11 => (fuse_part_raised.f k Q x11 x10.1).bind fun x12 => fuse_Views_Then.l0 k Q a1 x3 x10 n ((v1.set ((v2).toNat) x12), (w64 (v2 + 1)))) else (some v1)
def fuse_Views_Then.f (k:Nat) (Q:List TQueue) (a0:TViews) (a1:THp):Option (TViews):=(hQueue Q a1).bind fun x1=>(partial_Queue_Present.f k x1).bind fun x2=>(slices_Clone.f k Q a0.parts).bind fun x3=>(hQueue Q a1).bind fun x4=>(partial_Queue_Gone.f k x4).bind fun x5=>bif decide (x3.length+([(TPart.mk (THp.mk a1.q 6) zTTook)]:List TPart).length<4294967296) then ((hQueue Q a1).bind fun x6=>(partial_Queue_Deletes.f k x6).bind fun x7=>(fuse_Views_Len.f k Q (TViews.mk (x3++([(TPart.mk (THp.mk a1.q 6) zTTook)]:List TPart)))).bind fun x8=>bif (decide (x7≥x8)) then (some (TViews.mk ([(TPart.mk (THp.mk a1.q 4) zTTook)]:List TPart))) else (((fuse_Views_At.f k Q (TViews.mk (x3++([(TPart.mk (THp.mk a1.q 6) zTTook)]:List TPart))) (w64 (x7 - 1))).bind fun x10=>bif x10.2 then (fuse_Views_Then.l0 k Q a1 x3 x10 k ((x3++([(TPart.mk (THp.mk a1.q 6) zTTook)]:List TPart)),0)) else (some (x3++([(TPart.mk (THp.mk a1.q 6) zTTook)]:List TPart)))).bind fun x9=>bif decide (x9.length+([(TPart.mk (THp.mk a1.q 4) zTTook)]:List TPart).length<4294967296) then (some (TViews.mk (x9++([(TPart.mk (THp.mk a1.q 4) zTTook)]:List TPart)))) else none)) else none
def fuse_Views_Min.f (k:Nat) (Q:List TQueue) (a0:TViews):Option (TItem×Bool):=(fuse_Views_At.f k Q a0 0).bind fun x1=>some (x1.1,x1.2)
def slices_IndexFunc.l0 (k:Nat) (l0:List TPart) (fn1:TPart→Option Bool):Nat→Int→Option (Sum (Int) (Unit))
  | 0, _ => none
  | n + 1, v1 => bif (decide (v1 < (l0.length : Int))) then ((atL l0 v1).bind fun x2 => (fn1 x2).bind fun x3 => bif x3 then (some (Sum.inl v1)) else (slices_IndexFunc.l0 k l0 fn1 n (w64 (v1 + 1)))) else (some (Sum.inr ()))
def slices_IndexFunc.f (k:Nat) (Q:List TQueue) (l0:List TPart) (fn1:TPart→Option Bool):Option (Int):=(slices_IndexFunc.l0 k l0 fn1 k 0).bind (Sum.elim (fun r=>some r) (fun w1=>some (-1)))
def slices_ContainsFunc.f (k:Nat) (Q:List TQueue) (l0:List TPart) (fn1:TPart→Option Bool):Option (Bool):=(slices_IndexFunc.f k Q l0 fn1).bind fun x1=>some (decide (x1≥0))
def fuse_Views_Has_1.f (k:Nat) (Q:List TQueue) (a0:TPart) (c0:TItem):Option (Bool):=(shelf_Of.f k c0).bind fun x1=>(hTree Q a0.shelf).bind fun x2=>(Tree_Find.f opsS k x2.p x2.r x1).bind fun x3=>bif x3.2 then (bif (!a0.floor.found) then (some true) else ((item_Compare.f k a0.floor.item c0).bind fun x4=>some (decide (x4<0)))) else (some false)
def fuse_Views_Has.f (k:Nat) (Q:List TQueue) (a0:TViews) (a1:TItem):Option (Bool):=(slices_ContainsFunc.f k Q a0.parts (fun z0=>fuse_Views_Has_1.f k Q z0 a1)).bind fun x1=>some x1
def fuse_None.f (k:Nat):Option (TViews):=some (TViews.mk ([]:List TPart))
def past_node_size.f (k:Nat) (t0:PT TOp TQueue):Option (Int):=bif t0.isNil then (some 0) else (some t0.n)
def past_node_leans.f (k:Nat) (t0:PT TOp TQueue):Option (Bool):=bif decide (t0.isNil=false) then ((past_node_size.f k t0.lf).bind fun x1=>(past_node_size.f k t0.rt).bind fun x2=>some (decide ((w64 (3*(gmax x1 x2)))>(w64 ((w64 (2*t0.n))+1))))) else none
def past_node_height.r (k:Nat):Nat→PT TOp TQueue→Option (Int)
  | 0, _ => none
  | n + 1, t0 => bif t0.isNil then (some 0) else ((past_node_height.r k n t0.lf).bind fun x1 => (past_node_height.r k n t0.rt).bind fun x2 => some (w64 (1 + (gmax x1 x2))))
def past_node_height.f (k:Nat) (t0:PT TOp TQueue):Option (Int):=past_node_height.r k k t0
def past_add.f (k:Nat) (q0:TQueue) (a1:TOp):Option (Int×TQueue):=bif a1.insert then ((partial_Queue_Insert.f k q0 a1.time a1.item).bind fun x1=>some (x1.2.1,x1.2.2)) else ((partial_Queue_Delete.f k q0 a1.time).bind fun x2=>some (x2.2.1,x2.2.2))
def past_Past_queue.l0 (k:Nat) (l1:List TOp):Nat→(TQueue×Int)→Option (TQueue)
  | 0, _ => none
  | n + 1, (v1, v2) => bif (decide (v2 < (l1.length : Int))) then ((atL l1 v2).bind fun x3 => (past_add.f k v1 x3).bind fun x4 => past_Past_queue.l0 k l1 n (x4.2, (w64 (v2 + 1)))) else (some v1)
def past_Past_queue.f (k:Nat) (a0:Int) (l1:List TOp):Option (TQueue):=(partial_New.f k a0).bind fun x1=>(past_Past_queue.l0 k l1 k (x1,0)).bind fun x2=>some x2
def past_Past_build.r (k:Nat):Nat→Int→List TOp→Option (PT TOp TQueue)
  | 0, _, _ => none
  | n + 1, a0, l1 => bif ((l1.length : Int) == 0) then (some (PT.nil : PT TOp TQueue)) else ((atL l1 (w64 ((l1.length : Int).tdiv 2))).bind fun x1 => bif decide (0 ≤ (w64 ((l1.length : Int).tdiv 2)) ∧ (w64 ((l1.length : Int).tdiv 2)) ≤ (l1.length : Int)) then ((past_Past_build.r k n a0 ((l1.drop 0).take ((((w64 ((l1.length : Int).tdiv 2))).toNat) - 0))).bind fun x2 => bif decide (0 ≤ (w64 ((w64 ((l1.length : Int).tdiv 2)) + 1)) ∧ (w64 ((w64 ((l1.length : Int).tdiv 2)) + 1)) ≤ (l1.length : Int)) then ((past_Past_build.r k n a0 ((l1.drop (((w64 ((w64 ((l1.length : Int).tdiv 2)) + 1))).toNat)).take (l1.length - (((w64 ((w64 ((l1.length : Int).tdiv 2)) + 1))).toNat)))).bind fun x3 => (past_Past_queue.f k a0 l1).bind fun x4 => some (PT.node x1 false x2 x3 (l1.length : Int) x4)) else none) else none)
def past_Past_build.f (k:Nat) (a0:Int) (l1:List TOp):Option (PT TOp TQueue):=past_Past_build.r k k a0 l1
def past_Past_put.r (k:Nat):Nat→Int→PT TOp TQueue→TOp→Option (PT TOp TQueue)
  | 0, _, _, _ => none
  | n + 1, a0, t1, a2 => bif t1.isNil then ((past_Past_build.f k a0 ([a2] : List TOp)).bind fun x1 => some x1) else ((past_add.f k t1.q a2).bind fun x2 => bif (decide (a2.time < t1.op.time)) then ((past_Past_put.r k n a0 t1.lf a2).bind fun x3 => (past_node_size.f k x3).bind fun x4 => (past_node_size.f k t1.rt).bind fun x5 => some (PT.node t1.op t1.gone x3 t1.rt (w64 ((w64 (x4 + 1)) + x5)) x2.2)) else (bif (decide (a2.time > t1.op.time)) then ((past_Past_put.r k n a0 t1.rt a2).bind fun x6 => (past_node_size.f k t1.lf).bind fun x7 => (past_node_size.f k x6).bind fun x8 => some (PT.node t1.op t1.gone t1.lf x6 (w64 ((w64 (x7 + 1)) + x8)) x2.2)) else ((past_node_size.f k t1.lf).bind fun x9 => (past_node_size.f k t1.rt).bind fun x10 => some (PT.node a2 false t1.lf t1.rt (w64 ((w64 (x9 + 1)) + x10)) x2.2))))
def past_Past_put.f (k:Nat) (a0:Int) (t1:PT TOp TQueue) (a2:TOp):Option (PT TOp TQueue):=past_Past_put.r k k a0 t1 a2
def past_Past_even.r (k:Nat):Nat→Int→PT TOp TQueue→Int→Option (PT TOp TQueue)
  | 0, _, _, _ => none
  | n + 1, a0, t1, a2 => bif t1.isNil then (some (PT.nil : PT TOp TQueue)) else ((past_node_leans.f k t1).bind fun x1 => bif x1 then ((partial_Queue_Ops.f k t1.q).bind fun x2 => (past_Past_build.f k a0 x2).bind fun x3 => some x3) else (bif (decide (a2 < t1.op.time)) then ((past_Past_even.r k n a0 t1.lf a2).bind fun x4 => (past_node_size.f k x4).bind fun x5 => (past_node_size.f k t1.rt).bind fun x6 => some (PT.node t1.op t1.gone x4 t1.rt (w64 ((w64 (x5 + 1)) + x6)) t1.q)) else ((past_Past_even.r k n a0 t1.rt a2).bind fun x7 => (past_node_size.f k t1.lf).bind fun x8 => (past_node_size.f k x7).bind fun x9 => some (PT.node t1.op t1.gone t1.lf x7 (w64 ((w64 (x8 + 1)) + x9)) t1.q))))
def past_Past_even.f (k:Nat) (a0:Int) (t1:PT TOp TQueue) (a2:Int):Option (PT TOp TQueue):=past_Past_even.r k k a0 t1 a2
def past_New.f (k:Nat) (a0:Int):Option (TPast):=some (TPast.mk (gmin (gmax a0 0) 65536) (PT.nil:PT TOp TQueue))
def past_Past_insert.f (k:Nat) (q0:TPast) (a1:TOp):Option (Int×TPast):=bif q0.root.isNil then ((past_Past_queue.f k q0.capacity ([]:List TOp)).bind fun x1=>(past_add.f k x1 a1).bind fun x2=>bif (x2.1 != 0) then (some (x2.1,q0)) else ((past_Past_build.f k q0.capacity ([a1]:List TOp)).bind fun x3=>some (0,(TPast.mk q0.capacity x3)))) else ((past_add.f k q0.root.q a1).bind fun x4=>bif (x4.1 != 0) then (some (x4.1,(TPast.mk q0.capacity (PT.node q0.root.op q0.root.gone q0.root.lf q0.root.rt q0.root.n x4.2)))) else ((partial_Queue_Revoke.f k x4.2 a1.time).bind fun x5=>(past_Past_put.f k q0.capacity (PT.node q0.root.op q0.root.gone q0.root.lf q0.root.rt q0.root.n x5.2.2) a1).bind fun x6=>(past_Past_even.f k q0.capacity x6 a1.time).bind fun x7=>some (0,(TPast.mk q0.capacity x7))))
def past_Past_Insert.f (k:Nat) (q0:TPast) (a1:Int) (a2:TItem):Option (Int×TPast):=(past_Past_insert.f k q0 (TOp.mk a1 true a2)).bind fun x1=>some (x1.1,x1.2)
def past_Past_Delete.f (k:Nat) (q0:TPast) (a1:Int):Option (Int×TPast):=(past_Past_insert.f k q0 (TOp.mk a1 false zTItem)).bind fun x1=>some (x1.1,x1.2)
def past_Past_Len.f (k:Nat) (q0:TPast):Option (Int):=bif q0.root.isNil then (some 0) else ((partial_Queue_Len.f k q0.root.q).bind fun x1=>some x1)
def past_Past_Ops.f (k:Nat) (q0:TPast):Option (List TOp):=bif q0.root.isNil then (some ([]:List TOp)) else ((partial_Queue_Ops.f k q0.root.q).bind fun x1=>some x1)
def past_Past_Height.f (k:Nat) (q0:TPast):Option (Int):=(past_node_height.f k q0.root).bind fun x1=>some x1
def past_Past_Len_x.f (k:Nat) (q0:TPast):Option (Int):=(partial_Queue_Len.f k q0.root.q).bind fun x1=>some x1
def past_Past_Revoke.l0 (k:Nat) (a1:Int):Nat→(PT TOp TQueue×List (PF TOp TQueue))→Option (PT TOp TQueue×List (PF TOp TQueue))
  | 0, _ => none
  | n + 1, (v1, v2) => bif decide (v1.isNil = false) then (bif (v1.op.time != a1) then (bif (decide (a1 < v1.op.time)) then (bif decide (v1.lf.isNil = false) then ((partial_Queue_Revoke.f k v1.lf.q a1).bind fun x3 => past_Past_Revoke.l0 k a1 n ((PT.node v1.lf.op v1.lf.gone v1.lf.lf v1.lf.rt v1.lf.n x3.2.2), ((PF.mk v1.op v1.gone v1.n v1.q true v1.rt) :: v2))) else none) else (bif decide (v1.rt.isNil = false) then ((partial_Queue_Revoke.f k v1.rt.q a1).bind fun x4 => past_Past_Revoke.l0 k a1 n ((PT.node v1.rt.op v1.rt.gone v1.rt.lf v1.rt.rt v1.rt.n x4.2.2), ((PF.mk v1.op v1.gone v1.n v1.q false v1.lf) :: v2))) else none)) else (some (v1, v2))) else none
def past_Past_Revoke.f (k:Nat) (q0:TPast) (a1:Int):Option (Int×TPast):=bif q0.root.isNil then (some (14,q0)) else ((partial_Queue_Revoke.f k q0.root.q a1).bind fun x1=>bif (x1.2.1 != 0) then (some (x1.2.1,(TPast.mk q0.capacity (PT.node q0.root.op q0.root.gone q0.root.lf q0.root.rt q0.root.n x1.2.2)))) else ((past_Past_Revoke.l0 k a1 k ((PT.node q0.root.op q0.root.gone q0.root.lf q0.root.rt q0.root.n x1.2.2),([]:List (PF TOp TQueue)))).bind fun x2=>bif decide (x2.1.isNil=false) then (bif decide ((plug x2.2 (PT.node x2.1.op true x2.1.lf x2.1.rt x2.1.n x2.1.q)).isNil=false) then ((past_Past_Len_x.f k (TPast.mk q0.capacity (plug x2.2 (PT.node x2.1.op true x2.1.lf x2.1.rt x2.1.n x2.1.q)))).bind fun x5=>bif (decide ((w64 (2*x5))<((plug x2.2 (PT.node x2.1.op true x2.1.lf x2.1.rt x2.1.n x2.1.q)).n))) then ((past_Past_Ops.f k (TPast.mk q0.capacity (plug x2.2 (PT.node x2.1.op true x2.1.lf x2.1.rt x2.1.n x2.1.q)))).bind fun x6=>(past_Past_build.f k q0.capacity x6).bind fun x7=>some (0,(TPast.mk q0.capacity x7))) else (some (0,(TPast.mk q0.capacity (plug x2.2 (PT.node x2.1.op true x2.1.lf x2.1.rt x2.1.n x2.1.q)))))) else none) else none))
def past_Past_until.l0 (k:Nat) (Q:List TQueue) (q0:TPastI) (a1:Int) (a2:Bool):Nat→(List TPart×PT TOp Nat×List TQueue)→Option (List TPart×List TQueue)
  | 0, _ => none
  | n + 1, (v1, v2, v3) => bif (!v2.isNil) then (bif decide (v2.q < Q.length) then (bif (decide (a1 < v2.op.time)) then (past_Past_until.l0 k Q q0 a1 a2 n (v1, v2.lf, v3)) else (bif (a1 == v2.op.time) then (bif (!a2) then (past_Past_until.l0 k Q q0 a1 a2 n (v1, v2.lf, v3)) else (bif (!v2.lf.isNil) then (bif decide (v2.lf.q < Q.length) then ((fuse_Views_Then.f k v3 (TViews.mk v1) (THp.mk v2.lf.q 1)).bind fun x3 => bif (!v2.gone) then ((past_Past_queue.f k q0.capacity ([v2.op] : List TOp)).bind fun x4 => bif decide (partsIn v3.length x3.parts = true) then ((fuse_Views_Then.f k (v3 ++ [x4]) x3 (THp.mk v3.length 1)).bind fun x5 => bif decide (partsIn v3.length ([] : List TPart) = true) then (bif decide (partsIn v3.length v1 = true) then (bif decide ((THp.mk v2.lf.q 1).q < v3.length) then (bif decide (v2.q < Q.length) then (past_Past_until.l0 k Q q0 a1 a2 n (x5.parts, v2.rt, (v3 ++ [x4]))) else none) else none) else none) else none) else none) else (past_Past_until.l0 k Q q0 a1 a2 n (x3.parts, v2.rt, v3))) else none) else (bif (!v2.gone) then ((past_Past_queue.f k q0.capacity ([v2.op] : List TOp)).bind fun x6 => bif decide (partsIn v3.length v1 = true) then ((fuse_Views_Then.f k (v3 ++ [x6]) (TViews.mk v1) (THp.mk v3.length 1)).bind fun x7 => bif decide (partsIn v3.length ([] : List TPart) = true) then (bif decide (v2.q < Q.length) then (past_Past_until.l0 k Q q0 a1 a2 n (x7.parts, v2.rt, (v3 ++ [x6]))) else none) else none) else none) else (past_Past_until.l0 k Q q0 a1 a2 n (v1, v2.rt, v3))))) else (bif (!v2.lf.isNil) then (bif decide (v2.lf.q < Q.length) then ((fuse_Views_Then.f k v3 (TViews.mk v1) (THp.mk v2.lf.q 1)).bind fun x8 => bif (!v2.gone) then ((past_Past_queue.f k q0.capacity ([v2.op] : List TOp)).bind fun x9 => bif decide (partsIn v3.length x8.parts = true) then ((fuse_Views_Then.f k (v3 ++ [x9]) x8 (THp.mk v3.length 1)).bind fun x10 => bif decide (partsIn v3.length ([] : List TPart) = true) then (bif decide (partsIn v3.length v1 = true) then (bif decide ((THp.mk v2.lf.q 1).q < v3.length) then (bif decide (v2.q < Q.length) then (past_Past_until.l0 k Q q0 a1 a2 n (x10.parts, v2.rt, (v3 ++ [x9]))) else none) else none) else none) else none) else none) else (past_Past_until.l0 k Q q0 a1 a2 n (x8.parts, v2.rt, v3))) else none) else (bif (!v2.gone) then ((past_Past_queue.f k q0.capacity ([v2.op] : List TOp)).bind fun x11 => bif decide (partsIn v3.length v1 = true) then ((fuse_Views_Then.f k (v3 ++ [x11]) (TViews.mk v1) (THp.mk v3.length 1)).bind fun x12 => bif decide (partsIn v3.length ([] : List TPart) = true) then (bif decide (v2.q < Q.length) then (past_Past_until.l0 k Q q0 a1 a2 n (x12.parts, v2.rt, (v3 ++ [x11]))) else none) else none) else none) else (past_Past_until.l0 k Q q0 a1 a2 n (v1, v2.rt, v3)))))) else none) else (some (v1, v3))
def past_Past_until.f (k:Nat) (Q:List TQueue) (q0:TPastI) (a1:Int) (a2:Bool):Option (TViews×List TQueue):=(fuse_None.f k).bind fun x1=>(past_Past_until.l0 k Q q0 a1 a2 k (x1.parts,q0.root,Q)).bind fun x2=>some ((TViews.mk x2.1),x2.2)
def past_Past_At.f (k:Nat) (Q:List TQueue) (q0:TPastI) (a1:Int):Option (TViews×List TQueue):=(past_Past_until.f k Q q0 a1 true).bind fun x1=>some (x1.1,x1.2)
def past_Past_Ahead.f (k:Nat) (Q:List TQueue) (q0:TPastI) (a1:Int):Option (TViews×List TQueue):=(past_Past_until.f k Q q0 a1 false).bind fun x1=>some (x1.1,x1.2)
def Lw14_awake.f (k:Nat):Option (Bool):=(past_New.f k 9).bind fun x1=>((past_Past_Insert.f k x1 1 (TItem.mk 5 0)).bind fun x3=>bif (x3.1 != 0) then (some (Sum.inl false)) else ((past_Past_Insert.f k x3.2 2 (TItem.mk 3 0)).bind fun x4=>bif (x4.1 != 0) then (some (Sum.inl false)) else ((past_Past_Delete.f k x4.2 3).bind fun x5=>bif (x5.1 != 0) then (some (Sum.inl false)) else (some (Sum.inr (x5.2.capacity,x5.2.root)))))).bind (Sum.elim (fun r=>some r) (fun w2=>(past_Past_At.f k (pQ w2.2) (TPastI.mk w2.1 (pI 0 w2.2)) 9).bind fun x6=>(fuse_Views_Min.f k x6.2 x6.1).bind fun x7=>bif x7.2 then (bif (x7.1.key == 5) then (bif decide (partsIn x6.2.length x6.1.parts=true) then ((past_Past_At.f k x6.2 (TPastI.mk w2.1 (pI 0 w2.2)) 2).bind fun x8=>(fuse_Views_Len.f k x8.2 x8.1).bind fun x9=>bif (x9 == 2) then (bif decide (partsIn x8.2.length x6.1.parts=true) then (bif decide (partsIn x8.2.length x8.1.parts=true) then ((past_Past_Ahead.f k x8.2 (TPastI.mk w2.1 (pI 0 w2.2)) 2).bind fun x10=>(fuse_Views_Len.f k x10.2 x10.1).bind fun x11=>some (x11 == 1)) else none) else none) else (some false)) else none) else (some false)) else (some false)))
def R14_Height.l0 (k:Nat):Nat→(Int×Int)→Option (Int)
  | 0, _ => none
  | n + 1, (v1, v2) => bif (decide (v2 > 1)) then (R14_Height.l0 k n ((w64 (v1 + 3)), (w64 (v2.tdiv 2)))) else (some v1)
def R14_Height.f (k:Nat) (a0:Int):Option (Int):=(R14_Height.l0 k k (8,(w64 (a0+1)))).bind fun x1=>some x1
def Lw14_PastHeights.l0 (k:Nat):Nat→(Int×PT TOp TQueue×Int×Int×Int)→Option (Sum (Bool) (Int×PT TOp TQueue×Int×Int))
  | 0, _ => none
  | n + 1, (v1, v2, v3, v4, v5) => bif (decide (v5 < v3)) then ((past_Past_Insert.f k (TPast.mk v1 v2) ((w64 (v5 * v4)).tmod 64) (TItem.mk v5 v5)).bind fun x4 => bif (x4.1 != 0) then (some (Sum.inl false)) else ((past_Past_Height.f k x4.2).bind fun x5 => (past_Past_Len.f k x4.2).bind fun x6 => (R14_Height.f k x6).bind fun x7 => bif (decide (x5 > x7)) then (some (Sum.inl false)) else (Lw14_PastHeights.l0 k n (x4.2.capacity, x4.2.root, v3, v4, (w64 (v5 + 1)))))) else (some (Sum.inr (v1, v2, v3, v4)))
def Lw14_PastHeights.l1 (k:Nat) (a2:Int) (w3:Int×PT TOp TQueue×Int×Int):Nat→(Int×PT TOp TQueue×Int)→Option (Sum (Bool) (Unit))
  | 0, _ => none
  | n + 1, (v101, v102, v103) => bif (decide (v103 < w3.2.2.1)) then (bif decide ((w64 (1 + ((w64 a2).tmod 5))) ≠ 0) then (bif ((v103.tmod (w64 (1 + ((w64 a2).tmod 5)))) == 0) then ((past_Past_Revoke.f k (TPast.mk v101 v102) ((w64 (v103 * w3.2.2.2)).tmod 64)).bind fun x9 => bif (x9.1 != 0) then (some (Sum.inl false)) else ((past_Past_Height.f k x9.2).bind fun x10 => (past_Past_Len.f k x9.2).bind fun x11 => (R14_Height.f k x11).bind fun x12 => bif (decide (x10 > x12)) then (some (Sum.inl false)) else (Lw14_PastHeights.l1 k a2 w3 n (x9.2.capacity, x9.2.root, (w64 (v103 + 1)))))) else (Lw14_PastHeights.l1 k a2 w3 n (v101, v102, (w64 (v103 + 1))))) else none) else (some (Sum.inr ()))
def Lw14_PastHeights.f (k:Nat) (a0:Int) (a1:Int) (a2:Int):Option (Bool):=(Lw14_awake.f k).bind fun x1=>bif (!x1) then (some false) else ((past_New.f k 200).bind fun x2=>(Lw14_PastHeights.l0 k k (x2.capacity,x2.root,((w64 a0).tmod 60),(w64 ((w64 (2*((w64 a1).tmod 30)))+1)),0)).bind (Sum.elim (fun r=>some r) (fun w3=>(Lw14_PastHeights.l1 k a2 w3 k (w3.1,w3.2.1,0)).bind (Sum.elim (fun r=>some r) (fun w8=>some true)))))
end Go.Proofs.YtgjbibabegabnaaGreat
namespace Go.Proofs.YtgjbibabegabnaaGreat
open Go Go.Proofs.YtgjbibabegabnaaGreat.Sx
theorem noks {x:SV} (hx:x.ks.isEmpty=true) (β β':Env):x.den β=x.den β':=SV.den_congr x (fun j hj=>by rw [List.isEmpty_iff] at hx;rw [hx] at hj;cases hj)
theorem perm4 {α:Type} (x1 x2 x3 x4 x5 x6 x7 x8 x9:α) (ex:List α):([x1,x2,x3,x4,x5,x6,x7,x8,x9]++ex).Perm (([x4,x5]++ex)++[x1,x2,x3,x6,x7,x8,x9]):=by
  have h1:([x1,x2,x3]++[x4,x5]).Perm ([x4,x5]++[x1,x2,x3]):=List.perm_append_comm
  have h2:([x1,x2,x3]++[x4,x5]++([x6,x7,x8,x9]++ex)).Perm ([x4,x5]++[x1,x2,x3]++([x6,x7,x8,x9]++ex)):=h1.append_right _
  refine h2.trans ?_
  rw [List.append_assoc,List.append_assoc]
  refine List.Perm.append_left [x4,x5] ?_
  rw [← List.append_assoc]
  exact List.perm_append_comm
theorem perm6 {α:Type} (x1 x2 x3 x4 x5 x6 x7 x8 x9:α) (ex:List α):([x1,x2,x3,x4,x5,x6,x7,x8,x9]++ex).Perm (([x6,x7]++ex)++[x1,x2,x3,x4,x5,x8,x9]):=by
  have h1:([x1,x2,x3,x4,x5]++[x6,x7]).Perm ([x6,x7]++[x1,x2,x3,x4,x5]):=List.perm_append_comm
  have h2:([x1,x2,x3,x4,x5]++[x6,x7]++([x8,x9]++ex)).Perm ([x6,x7]++[x1,x2,x3,x4,x5]++([x8,x9]++ex)):=h1.append_right _
  refine h2.trans ?_
  rw [List.append_assoc,List.append_assoc]
  refine List.Perm.append_left [x6,x7] ?_
  rw [← List.append_assoc]
  exact List.perm_append_comm
theorem onTree {f : FuncId} {args : List SV} {ret : SV} {A : List (Nat → Nat)} {Q : List TQueue} {e : THp} {t : TS TSlot TSize} {fr : List Nat} {ex : List (Nat × Tok)} (k : Nat) (hAQ : A.length = Q.length) (ht : hTree Q e = some t)
    (h4:SCon Tryz.prog f (SV.p 4 0::args) [(4,blk 4 [.p 5 0,.i t.r.index,.i t.r.gen] 121),(5,plS 5 t.p)] ret ((4,blk 4 [.p 5 0,.i t.r.index,.i t.r.gen] 121)::(5,plS 5 t.p)::ex) fr)
    (h6:SCon Tryz.prog f (SV.p 6 0::args) [(6,blk 6 [.p 7 0,.i t.r.index,.i t.r.gen] 121),(7,plS 7 t.p)] ret ((6,blk 6 [.p 7 0,.i t.r.index,.i t.r.gen] 121)::(7,plS 7 t.p)::ex) fr)
    (ha:args.all (fun x=>x.ks.isEmpty)=true) (hr:ret.ks.all (fun j=>!qks.contains j)=true) (hfr:fr.all (fun j=>!qks.contains j)=true) (hex:ex.all (fun p=>p.2.ks.all fun j=>!qks.contains j)=true) :
    SCon Tryz.prog f (SV.raw (ptr (hA A e) 0)::args) [(k,hp k tq A Q)] ret ((k,hp k tq A Q)::ex) fr:=by
  obtain ⟨i,c⟩:=e
  unfold hTree at ht
  obtain ⟨q,hQ,hc⟩:=Option.bind_eq_some_iff.1 ht
  simp only at hQ hc
  have hlt:i<A.length:=by rw [hAQ];exact (List.getElem?_eq_some_iff.1 hQ).1
  have hAi:A[i]? = some A[i]:=List.getElem?_eq_getElem hlt
  have hAe : ∀ c,hA A ⟨i,c⟩=A[i] c:=fun c=>by simp [hA,List.getD_eq_getElem?_getD,hAi]
  have hset:Q.set i q=Q:=by
    apply List.ext_getElem?
    intro j
    rw [List.getElem?_set]
    by_cases hj:i=j
    · subst hj
      rw [if_pos rfl,if_pos (List.getElem?_eq_some_iff.1 hQ).1,hQ]
    · rw [if_neg hj]
  have hfr' : ∀ j∈qks,j∉fr:=fun j hj hm=>by
    have:=List.all_eq_true.1 hfr j hm
    simp only [Bool.not_eq_true',List.contains_eq_mem,decide_eq_false_iff_not] at this
    exact this hj
  have hex' : ∀ p∈ex,∀ j∈p.2.ks,j∉qks:=fun p hp j hj hm=>by
    have:=List.all_eq_true.1 (List.all_eq_true.1 hex p hp) j hj
    simp only [Bool.not_eq_true',List.contains_eq_mem,decide_eq_false_iff_not] at this
    exact this hm
  have hr' : ∀ β β':Env,(∀ j,j∉qks→β' j=β j)→ret.den β=ret.den β':=fun β β' hb=>SV.den_congr ret (fun j hj=>(hb j (fun hm=>by
    have:=List.all_eq_true.1 hr j hj
    simp only [Bool.not_eq_true',List.contains_eq_mem,decide_eq_false_iff_not] at this
    exact this hm)).symm)
  have main : ∀ m0:Nat,m0∈qks→c=m0→SCon Tryz.prog f (SV.p m0 0::args) (tq q) ret (tq q++ex) fr→SCon Tryz.prog f (SV.raw (ptr (hA A ⟨i,c⟩) 0)::args) [(k,hp k tq A Q)] ret ((k,hp k tq A Q)::ex) fr:=by
    intro m0 hm hcm hh
    subst hcm
    have:=SCon.heap (exi:=[]) (exo:=ex) (args':=SV.raw (ptr (hA A ⟨i,c⟩) 0)::args) (ret':=ret) k qks hAi hQ tq_byB (by simpa using hh) hfr' (fun p hp=>by cases hp) hex' (fun β β' hb _=>by
      rw [List.map_cons,List.map_cons]
      congr 1
      · rw [hAe];simp [SV.den,Av.den,Cl.den,ptr,hb c hm]
      · exact List.map_congr_left (fun x hx=>noks (List.all_eq_true.1 ha x hx) β β')) (fun β β' _ hb=>hr' β β' hb)
    rw [hset] at this;exact this
  have fx : ∀ l:List (Nat×Tok),(∀ p∈l,∀ j∈p.2.ks,j∈qks)→∀ p∈l,∀ j∈p.2.ks,j∉fr:=fun l hl p hp j hj=>hfr' j (hl p hp j hj)
  split at hc
  · cases hc
    refine main 4 (by decide) R ?_
    have h1:=h4.frame [(1,blk 1 [.v (.int .i64 q.capacity),.p 2 0,.p 4 0,.p 6 0,.p 8 0,.v (.int .i64 q.excess)] 99),(2,blk 2 [.p 3 0,.v (.int .i64 q.marks.r.index),.v (.int .i64 q.marks.r.gen)] 144),(3,plM 3 q.marks.p),(6,blk 6 [.p 7 0,.v (.int .i64 q.gone.r.index),.v (.int .i64 q.gone.r.gen)] 121),(7,plS 7 q.gone.p),(8,blk 8 [.p 9 0,.v (.int .i64 q.times.r.index),.v (.int .i64 q.times.r.gen)] 121),(9,plS 9 q.times.p)] (fx _ (by simp [blk,pl,Cl.ks]))
    exact h1.perm (by simpa using perm4 _ _ _ _ _ _ _ _ _ []) (perm4 _ _ _ _ _ _ _ _ _ ex).symm
  · cases hc
    refine main 6 (by decide) R ?_
    have h1:=h6.frame [(1,blk 1 [.v (.int .i64 q.capacity),.p 2 0,.p 4 0,.p 6 0,.p 8 0,.v (.int .i64 q.excess)] 99),(2,blk 2 [.p 3 0,.v (.int .i64 q.marks.r.index),.v (.int .i64 q.marks.r.gen)] 144),(3,plM 3 q.marks.p),(4,blk 4 [.p 5 0,.v (.int .i64 q.present.r.index),.v (.int .i64 q.present.r.gen)] 121),(5,plS 5 q.present.p),(8,blk 8 [.p 9 0,.v (.int .i64 q.times.r.index),.v (.int .i64 q.times.r.gen)] 121),(9,plS 9 q.times.p)] (fx _ (by simp [blk,pl,Cl.ks]))
    exact h1.perm (by simpa using perm6 _ _ _ _ _ _ _ _ _ []) (perm6 _ _ _ _ _ _ _ _ _ ex).symm
  · cases hc
theorem onQueueG {f : FuncId} {args : List SV} {ret ret' : SV} {A : List (Nat → Nat)} {Q : List TQueue} {e : THp} {q : TQueue} (k : Nat) (hAQ : A.length = Q.length) (hq : hQueue Q e = some q)
    (h:SCon Tryz.prog f (SV.p 1 0::args) (tq q) ret (tq q) []) (ha:args.all (fun x=>x.ks.isEmpty)=true) (hr : ∀ β β':Env,(∀ j∈qks,(β j).b=hA A ⟨e.q,j⟩)→ret.den β=ret'.den β') :
    SCon Tryz.prog f (SV.raw (ptr (hA A e) 0)::args) [(k,hp k tq A Q)] ret' [(k,hp k tq A Q)] []:=by
  obtain ⟨i,c⟩:=e
  unfold hQueue at hq
  simp only at hq hr
  split at hq
  · rename_i hc
    subst hc
    have hlt:i<A.length:=by rw [hAQ];exact (List.getElem?_eq_some_iff.1 hq).1
    have hAi:A[i]? = some A[i]:=List.getElem?_eq_getElem hlt
    have hAe : ∀ c,hA A ⟨i,c⟩=A[i] c:=fun c=>by simp [hA,List.getD_eq_getElem?_getD,hAi]
    have hset:Q.set i q=Q:=by
      apply List.ext_getElem?
      intro j
      rw [List.getElem?_set]
      by_cases hj:i=j
      · subst hj
        rw [if_pos rfl,if_pos (List.getElem?_eq_some_iff.1 hq).1,hq]
      · rw [if_neg hj]
    have:=SCon.heap (exi:=[]) (exo:=[]) (args':=SV.raw (ptr (hA A ⟨i,1⟩) 0)::args) (ret':=ret') k qks hAi hq tq_byB (by simpa using h) (fun j _=>by simp) (fun p hp=>by cases hp) (fun p hp=>by cases hp) (fun β β' hb _=>by
      rw [List.map_cons,List.map_cons]
      congr 1
      · rw [hAe];simp [SV.den,Av.den,Cl.den,ptr,hb 1 (by decide)]
      · exact List.map_congr_left (fun x hx=>noks (List.all_eq_true.1 ha x hx) β β')) (fun β β' hb _=>hr β β' (fun j hj=>by rw [hAe];exact hb j hj))
    rw [hset] at this;exact this
  · cases hq
theorem onQueue {f : FuncId} {args : List SV} {ret : SV} {A : List (Nat → Nat)} {Q : List TQueue} {e : THp} {q : TQueue} (k : Nat) (hAQ : A.length = Q.length) (hq : hQueue Q e = some q)
    (h:SCon Tryz.prog f (SV.p 1 0::args) (tq q) ret (tq q) []) (ha:args.all (fun x=>x.ks.isEmpty)=true) (hr:ret.ks.isEmpty=true) :
    SCon Tryz.prog f (SV.raw (ptr (hA A e) 0)::args) [(k,hp k tq A Q)] ret [(k,hp k tq A Q)] [] :=
  onQueueG k hAQ hq h ha (fun β β' _=>noks hr β β')
theorem onQueueP {f : FuncId} {args : List SV} {A : List (Nat → Nat)} {Q : List TQueue} {e : THp} {q : TQueue} (k c : Nat) (hc : c ∈ qks) (hAQ : A.length = Q.length) (hq : hQueue Q e = some q)
    (h:SCon Tryz.prog f (SV.p 1 0::args) (tq q) (SV.p c 0) (tq q) []) (ha:args.all (fun x=>x.ks.isEmpty)=true) :
    SCon Tryz.prog f (SV.raw (ptr (hA A e) 0)::args) [(k,hp k tq A Q)] (SV.raw (ptr (hA A ⟨e.q,c⟩) 0)) [(k,hp k tq A Q)] [] :=
  onQueueG k hAQ hq h ha (fun β β' hb=>by simp [SV.den,Av.den,Cl.den,ptr,hb c hc])
theorem lrow_grow {α:Type} {f g:α→List Value} {k T s:Nat} : ∀ {l:List α},(∀ x∈l,f x=g x)→lrow k T f s l=lrow k T g s l:=by
  intro l h
  have:l.flatMap f=l.flatMap g:=by
    induction l with
    | nil => rfl
    | cons x l ih => rw [List.flatMap_cons, List.flatMap_cons, h x (by simp), ih (fun y hy => h y (by simp [hy]))]
  unfold lrow;rw [this]
theorem hA_grow {A:List (Nat→Nat)} {e:THp} (a:Nat→Nat) (h:e.q<A.length):hA (A++[a]) e=hA A e:=by
  simp [hA,List.getD_eq_getElem?_getD,List.getElem?_append_left h]
theorem parts_grow {A:List (Nat→Nat)} {Q:List TQueue} {k T s:Nat} {l:List TPart} (a:Nat→Nat) (hAQ:A.length=Q.length) (h:partsIn Q.length l=true):lrow k T (eTPart A) s l=lrow k T (eTPart (A++[a])) s l:=by
  refine lrow_grow (fun x hx=>?_)
  have:=List.all_eq_true.1 h x hx
  unfold eTPart
  rw [hA_grow a (by rw [hAQ];simpa using this)]
theorem len_grow {A:List (Nat→Nat)} {Q:List TQueue} (hAQ:A.length=Q.length) (a:Nat→Nat) (q:TQueue):(A++[a]).length=(Q++[q]).length:=by simp [hAQ]
theorem hA_new {A:List (Nat→Nat)} {Q:List TQueue} (a:Nat→Nat) (hAQ:A.length=Q.length):a 1=hA (A++[a]) ⟨Q.length,1⟩:=by
  simp [hA,List.getD_eq_getElem?_getD,← hAQ]
end Go.Proofs.YtgjbibabegabnaaGreat
namespace Go.Proofs.YtgjbibabegabnaaGreat
open Go Go.Proofs.YtgjbibabegabnaaGreat.Sx
theorem larg_grow {S:Foot} {w:World} {v:Value} {s:Nat} {A:List (Nat→Nat)} {Q:List TQueue} {l:List TPart} (a:Nat→Nat) (hAQ:A.length=Q.length) (hp:partsIn Q.length l=true) (h:LArg S w v (eTPart A) s l):LArg S w v (eTPart (A++[a])) s l:=by
  obtain ⟨b,o,h⟩:=h
  have e:l.flatMap (eTPart A)=l.flatMap (eTPart (A++[a])):=by
    have : ∀ m:List TPart,(∀ x∈m,x∈l)→m.flatMap (eTPart A)=m.flatMap (eTPart (A++[a])):=by
      intro m
      induction m with
      | nil => intro _; rfl
      | cons x m ih =>
        intro hm
        have:=List.all_eq_true.1 hp x (hm x (by simp))
        have ex:eTPart A x=eTPart (A++[a]) x:=by
          unfold eTPart
          rw [hA_grow a (by rw [hAQ];simpa using this)]
        rw [List.flatMap_cons,List.flatMap_cons,ex,ih (fun y hy=>hm y (by simp [hy]))]
    exact this l (fun x hx=>hx)
  refine ⟨b,o,⟨fun c=>?_,h.pos,h.sl,h.inn,fun j u hu=>h.cells j u (by rw [e];exact hu)⟩⟩
  have:=h.len c
  rw [eTPart_len] at this ⊢;exact this
theorem hq_late {A:List (Nat→Nat)} {Q:List TQueue} {n0 n1 n2 n3 n4 n5 n6 n7 n8:Nat} (hAQ:A.length=Q.length) (β:Env):(SV.p n0 0).den β=(SV.a (.c (.v (ptr (hA (A++[adr qks (gN [n0,n1,n2,n3,n4,n5,n6,n7,n8]) β]) ⟨Q.length,1⟩) 0)))).den β:=by
  show _=ptr (hA (A++[adr qks (gN [n0,n1,n2,n3,n4,n5,n6,n7,n8]) β]) ⟨Q.length,1⟩) 0
  rw [← hA_new _ hAQ]
  simp [SV.den,Av.den,Cl.den,ptr,adr,gN]
end Go.Proofs.YtgjbibabegabnaaGreat
namespace Go.Proofs.YtgjbibabegabnaaGreat
open Go Go.Proofs.YtgjbibabegabnaaGreat.Sx
def payI (A0:List (Nat→Nat)) (i:Nat) (v:Value):Res:=pureRes (v=ptr (hA A0 ⟨i,1⟩) 0)
theorem hA_pre {A0 A:List (Nat→Nat)} {e:THp} (hp:A0 <+: A) (h:e.q<A0.length):hA A e=hA A0 e:=by
  obtain ⟨B,rfl⟩:=hp
  simp [hA,List.getD_eq_getElem?_getD,List.getElem?_append_left h]
theorem payI_op {A0 A:List (Nat→Nat)} {i:Nat} (hp:A0 <+: A) (h:i<A0.length):Pay (payI A0) i [] (.v (ptr (hA A ⟨i,1⟩) 0)) [] where
  op:=by
    rintro β w F v ⟨hF,hv⟩
    exact ⟨β,fun _ _=>R,hF,by rw [hA_pre hp h];exact hv.symm⟩
theorem payI_cl {A0 A:List (Nat→Nat)} {i:Nat} (hp:A0 <+: A) (h:i<A0.length):PayC (payI A0) i [] (.v (ptr (hA A ⟨i,1⟩) 0)) where
  cl:=by
    intro β w F hF
    refine ⟨hF,?_⟩
    show ptr (hA A ⟨i,1⟩) 0=_
    rw [hA_pre hp h]
theorem Sx.Ent.refl (l:List (Nat×Tok)):Ent l l []:=fun β w F h=>⟨β,fun _ _=>rfl,F,fun _ h=>h,h⟩
def pkV (k:Nat) (A0:List (Nat→Nat)) (Q0:List TQueue) (T s:Nat) (Q:List TQueue) (l:List TPart):Tok where
  ks:=[k]
  r β:=exR fun A:List (Nat→Nat)=>starRes [pureRes (A0 <+: A∧A.length=Q.length∧Q0 <+: Q),starRes (hpL tq A Q),(lrow k T (eTPart A) s l).r β]
  sup h:=by
    congr 1
    funext A
    rw [(lrow k T (eTPart A) s l).sup (fun j hj=>h j hj)]
theorem pkV_ren {f:Nat→Nat} {k k':Nat} {A0:List (Nat→Nat)} {Q0:List TQueue} {T s:Nat} {Q:List TQueue} {l:List TPart} (h:f k'=k):RenT f (pkV k' A0 Q0 T s Q l) (pkV k A0 Q0 T s Q l):=by
  subst h;intro β;rfl
theorem pk_in {A0 A:List (Nat→Nat)} {T s:Nat} {Q0 Q:List TQueue} {l:List TPart} (kh k:Nat) (hpre:A0 <+: A) (hL:A.length=Q.length) (hqp:Q0 <+: Q):Ent [(kh,hp kh tq A Q),(k,lrow k T (eTPart A) s l)] [(k,pkV k A0 Q0 T s Q l)] []:=by
  rintro β w F ⟨F1,F2,e,d,h1,h2⟩
  exact ⟨β,fun _ _=>R,F,fun _ h=>h,Star_one.2 ⟨A,Star_pure.2 ⟨⟨hpre,hL,hqp⟩,F1,F2,e,d,h1,h2⟩⟩⟩
theorem prefix_grow {A0 A:List (Nat→Nat)} (h:A0 <+: A) (a:Nat→Nat):A0 <+: A++[a]:=h.trans (List.prefix_append _ _)
theorem tq_late1 {P : Program} {f : FuncId} {args : List SV} {ret : SV} {fr : List Nat} {S : Foot} {w : World} {A : List (Nat → Nat)} {Q : List TQueue} {n0 n1 n2 n3 n4 n5 n6 n7 n8 : Nat} {q : TQueue} {b : Nat × Tok} (k : Nat) (hAQ : A.length = Q.length) (h : SCon P f args ((0, rd S w) :: [b]) ret ((0, rd S w) :: b :: tkQueue n0 n1 n2 n3 n4 n5 n6 n7 n8 q []) fr) :
    SCon P f args ((0,rd S w)::[b,(k,hp k tq A Q)]) ret ((0,rd S w)::[b,(k,hpN k tq A Q qks (gN [n0,n1,n2,n3,n4,n5,n6,n7,n8]) q)]) fr:=by
  have h1:=h.frame [(k,hp k tq A Q)] (fun p hp j hj=>by
    cases hp with
    | head => cases hj
    | tail _ h => cases h)
  refine h1.post (fun β w' F hs=>?_)
  obtain ⟨F1,F2,e,d,g1,F3,F4,e',d',g3,g4⟩:=hs
  refine ⟨F1,F2,e,d,g1,F3,F4,e',d',g3,?_⟩
  have g4':Star ((tkQueue n0 n1 n2 n3 n4 n5 n6 n7 n8 q []++[(k,hp k tq A Q)]).map fun p=>p.2.r β) w' F4:=g4
  have g5:=Star_perm ((List.perm_append_comm).map (fun p:Nat×Tok=>p.2.r β)) g4'
  exact hp_addS (k:=k) (tn:=tkQueue n0 n1 n2 n3 n4 n5 n6 n7 n8 q []) (q:=q) qks (gN [n0,n1,n2,n3,n4,n5,n6,n7,n8]) hAQ β (tq_at n0 n1 n2 n3 n4 n5 n6 n7 n8 q β) g5
end Go.Proofs.YtgjbibabegabnaaGreat
namespace Go.Proofs.YtgjbibabegabnaaGreat
open Go Go.Proofs.YtgjbibabegabnaaGreat.Sx
section
variable {ω:Type}
theorem hpL_app {A B:List (Nat→Nat)} {Q1 Q2:List TQueue} (h:A.length=Q1.length):hpL tq (A++B) (Q1++Q2)=hpL tq A Q1++hpL tq B Q2:=by
  unfold hpL
  exact List.zipWith_append h
variable {enc:ω→List Value} {T:TypeId}
theorem expose_res : ∀ (t:PT ω TQueue) {v:Value} {w:World} {F:Foot},(ptRes enc payQ T t v).holds w F→∃ A:List (Nat→Nat),A.length=(pQ t).length∧∀ pre post:List (Nat→Nat),Star (ptRes enc (payI (pre++A++post)) T (pI pre.length t) v::hpL tq A (pQ t)) w F
  | .nil, v, w, F, h => ⟨[], rfl, fun pre post => Star_one.2 h⟩
  | .node o g l r n q, v, w, F, h => by
    obtain ⟨z,hz⟩:=h
    obtain ⟨hv,F1,F2,e1,d1,hb,F3,F4,e2,d2,hl,F5,F6,e3,d3,hr,hq⟩:=Star_pure.1 hz
    obtain ⟨a,ha⟩:=Star_one.1 hq
    obtain ⟨ha1,ha2⟩:=Star_pure.1 ha
    have ha2:=Star_one.1 ha2
    obtain ⟨A1,l1,h1⟩:=expose_res l hl
    obtain ⟨A2,l2,h2⟩:=expose_res r hr
    refine ⟨a::(A1++A2),by simp [pQ,l1,l2],fun pre post=>?_⟩
    have e5:pre++a::(A1++A2)++post=(pre++[a])++A1++(A2++post):=by simp
    have e6:pre++a::(A1++A2)++post=(pre++[a]++A1)++A2++post:=by simp
    have g1:=h1 (pre++[a]) (A2++post)
    have g2:=h2 (pre++[a]++A1) post
    rw [← e5] at g1
    rw [← e6] at g2
    generalize hX:pre++a::(A1++A2)++post=X at g1 g2 ⊢
    have n1:(pre++[a]).length=pre.length+1:=by simp
    have n2:(pre++[a]++A1).length=pre.length+1+(pQ l).length:=by simp [l1];omega
    rw [n1] at g1
    rw [n2] at g2
    have hpos:hA X ⟨pre.length,1⟩=a 1:=by
      rw [← hX];simp [hA,List.getD_eq_getElem?_getD]
    -- all parts side by side
    have all:Star ((blkRes z.1 (enc o++[.bool g,one1 z.2.1,one1 z.2.2.1,.int .i64 n,z.2.2.2]) T)::((ptRes enc (payI X) T (pI (pre.length+1) l) (one1 z.2.1)::hpL tq A1 (pQ l))++((ptRes enc (payI X) T (pI (pre.length+1+(pQ l).length) r) (one1 z.2.2.1)::hpL tq A2 (pQ r))++[eltRes (tq q) a]))) w F:=by
      refine ⟨F1,F2,e1,d1,hb,?_⟩
      refine Star_append.2 ⟨F3,F4,e2,d2,g1,?_⟩
      exact Star_append.2 ⟨F5,F6,e3,d3,g2,Star_one.2 ha2⟩
    have want:Star ([blkRes z.1 (enc o++[.bool g,one1 z.2.1,one1 z.2.2.1,.int .i64 n,z.2.2.2]) T,ptRes enc (payI X) T (pI (pre.length+1) l) (one1 z.2.1),ptRes enc (payI X) T (pI (pre.length+1+(pQ l).length) r) (one1 z.2.2.1)]++(eltRes (tq q) a::(hpL tq A1 (pQ l)++hpL tq A2 (pQ r)))) w F:=by
      refine Star_perm ?_ all
      refine List.Perm.cons _ (List.Perm.cons _ ?_)
      generalize hpL tq A1 (pQ l)=L1
      generalize hpL tq A2 (pQ r)=L2
      have p1 : ∀ (x y:Res),(L1++(x::L2++[y])).Perm ([x]++(y::(L1++L2))):=fun x y=>by
        have q1:(L1++(x::(L2++[y]))).Perm (x::(L1++(L2++[y]))):=List.perm_middle
        refine q1.trans (List.Perm.cons x ?_)
        rw [← List.append_assoc]
        exact List.perm_append_comm
      exact p1 _ _
    obtain ⟨G1,G2,e7,d7,hA1,hA2⟩:=Star_append.1 want
    have ez:hpL tq (a::(A1++A2)) (pQ (.node o g l r n q))=eltRes (tq q) a::(hpL tq A1 (pQ l)++hpL tq A2 (pQ r)):=by
      show eltRes (tq q) a::hpL tq (A1++A2) (pQ l++pQ r)=_
      rw [hpL_app l1]
    rw [ez]
    refine ⟨G1,G2,e7,d7,⟨z,Star_pure.2 ⟨hv,?_⟩⟩,hA2⟩
    obtain ⟨K1,K2,k1,k2,k3,K3,K4,k4,k5,k6,k7⟩:=hA1
    refine ⟨K1,K2,k1,k2,k3,K3,K4,k4,k5,k6,?_⟩
    have k8:=Star_one.1 k7
    exact ⟨K4,fun _=>False,fun b=>by simp,fun _ _ h=>h,k8,Star_one.2 ⟨fun _ h=>h,by rw [hpos];exact ha1⟩⟩
theorem unexpose_res : ∀ (t:PT ω TQueue) {v:Value} {w:World} {F:Foot} (pre A post:List (Nat→Nat)),A.length=(pQ t).length→Star (ptRes enc (payI (pre++A++post)) T (pI pre.length t) v::hpL tq A (pQ t)) w F→(ptRes enc payQ T t v).holds w F
  | .nil, v, w, F, pre, A, post, hAl, h => by
    have:A=[]:=List.eq_nil_of_length_eq_zero hAl
    subst this
    exact Star_one.1 h
  | .node o g l r n q, v, w, F, pre, [], post, hAl, h => by simp [pQ] at hAl
  | .node o g l r n q, v, w, F, pre, a :: B, post, hAl, h => by
    have hB:B.length=(pQ l).length+(pQ r).length:=by simpa [pQ] using hAl
    obtain ⟨A1,A2,rfl,l1⟩ : ∃ A1 A2,B=A1++A2∧A1.length=(pQ l).length:=⟨B.take (pQ l).length,B.drop (pQ l).length,(List.take_append_drop _ _).symm,by rw [List.length_take];omega⟩
    have l2:A2.length=(pQ r).length:=by rw [List.length_append] at hB;omega
    have ez:hpL tq (a::(A1++A2)) (pQ (.node o g l r n q))=eltRes (tq q) a::(hpL tq A1 (pQ l)++hpL tq A2 (pQ r)):=by
      show eltRes (tq q) a::hpL tq (A1++A2) (pQ l++pQ r)=_
      rw [hpL_app l1]
    rw [ez] at h
    obtain ⟨G1,G2,e7,d7,⟨z,hz⟩,hA2⟩:=h
    obtain ⟨hv,K1,K2,k1,k2,hb,K3,K4,k4,k5,hl,K5,K6,k6,k7,hr,hq⟩:=Star_pure.1 hz
    have hq:=(Star_one.1 hq)
    have e5:pre++a::(A1++A2)++post=(pre++[a])++A1++(A2++post):=by simp
    have e6:pre++a::(A1++A2)++post=(pre++[a]++A1)++A2++post:=by simp
    have n1:(pre++[a]).length=pre.length+1:=by simp
    have n2:(pre++[a]++A1).length=pre.length+1+(pQ l).length:=by simp [l1];omega
    have ih1:=fun {v w F}=>unexpose_res l (v:=v) (w:=w) (F:=F) (pre++[a]) A1 (A2++post) l1
    have ih2:=fun {v w F}=>unexpose_res r (v:=v) (w:=w) (F:=F) (pre++[a]++A1) A2 post l2
    rw [← e5,n1] at ih1
    rw [← e6,n2] at ih2
    have hpos:hA (pre++a::(A1++A2)++post) ⟨pre.length,1⟩=a 1:=by simp [hA,List.getD_eq_getElem?_getD]
    have hqv:z.2.2.2=ptr (a 1) 0:=by rw [← hpos];exact hq.2
    generalize pre++a::(A1++A2)++post=X at *
    have hK6 : ∀ b,¬ K6 b:=hq.1
    have all:Star ([blkRes z.1 (enc o++[.bool g,one1 z.2.1,one1 z.2.2.1,.int .i64 n,z.2.2.2]) T,ptRes enc (payI X) T (pI (pre.length+1) l) (one1 z.2.1),ptRes enc (payI X) T (pI (pre.length+1+(pQ l).length) r) (one1 z.2.2.1)]++(eltRes (tq q) a::(hpL tq A1 (pQ l)++hpL tq A2 (pQ r)))) w F:=by
      refine Star_append.2 ⟨G1,G2,e7,d7,⟨K1,K2,k1,k2,hb,K3,K4,k4,k5,hl,?_⟩,hA2⟩
      have:K4=K5:=funext fun b=>propext (by rw [k6 b];exact ⟨fun h=>h.elim id (fun h'=>absurd h' (hK6 b)),.inl⟩)
      rw [this];exact Star_one.2 hr
    have want:Star ((blkRes z.1 (enc o++[.bool g,one1 z.2.1,one1 z.2.2.1,.int .i64 n,z.2.2.2]) T)::((ptRes enc (payI X) T (pI (pre.length+1) l) (one1 z.2.1)::hpL tq A1 (pQ l))++((ptRes enc (payI X) T (pI (pre.length+1+(pQ l).length) r) (one1 z.2.2.1)::hpL tq A2 (pQ r))++[eltRes (tq q) a]))) w F:=by
      refine Star_perm ?_ all
      refine List.Perm.cons _ (List.Perm.cons _ ?_)
      generalize hpL tq A1 (pQ l)=L1
      generalize hpL tq A2 (pQ r)=L2
      have p1 : ∀ (x y:Res),(L1++(x::L2++[y])).Perm ([x]++(y::(L1++L2))):=fun x y=>by
        have q1:(L1++(x::(L2++[y]))).Perm (x::(L1++(L2++[y]))):=List.perm_middle
        refine q1.trans (List.Perm.cons x ?_)
        rw [← List.append_assoc]
        exact List.perm_append_comm
      exact (p1 _ _).symm
    obtain ⟨F1,F2,f1,f2,hb',h8⟩:=want
    obtain ⟨F3,F4,f3,f4,h9,h10⟩:=Star_append.1 h8
    obtain ⟨F5,F6,f5,f6,h11,h12⟩:=Star_append.1 h10
    exact ⟨z,Star_pure.2 ⟨hv,F1,F2,f1,f2,hb',F3,F4,f3,f4,ih1 h9,F5,F6,f5,f6,ih2 h11,Star_one.2 ⟨a,Star_pure.2 ⟨hqv,h12⟩⟩⟩⟩
end
def ptIn {ω:Type} (n:Nat):PT ω Nat→Prop
  | .nil => True
  | .node _ _ l r _ i => i < n ∧ ptIn n l ∧ ptIn n r
theorem pI_in {ω:Type} : ∀ (t:PT ω TQueue) (i n:Nat),i+(pQ t).length≤n→ptIn n (pI i t)
  | .nil, _, _, _ => trivial
  | .node o g l r m q, i, n, h => by
    have h':i+((pQ l).length+(pQ r).length+1)≤n:=by simpa [pQ] using h
    exact ⟨by omega,pI_in l (i+1) n (by omega),pI_in r (i+1+(pQ l).length) n (by omega)⟩
theorem pt_up {ω:Type} {enc:ω→List Value} {T:TypeId} {A A':List (Nat→Nat)} (hp:A <+: A') : ∀ {t:PT ω Nat} {v:Value},ptIn A.length t→ptRes enc (payI A) T t v=ptRes enc (payI A') T t v
  | .nil, v, _ => rfl
  | .node o g l r n i, v, h => by
    have e1 : ∀ u,payI A i u=payI A' i u:=fun u=>by
      unfold payI
      rw [hA_pre hp h.1]
    show exR _=exR _
    congr 1
    funext z
    rw [pt_up hp h.2.1,pt_up hp h.2.2,e1]
theorem eT_up {A A':List (Nat→Nat)} (hp:A <+: A') {x:TPart} (h:x.shelf.q<A.length):eTPart A x=eTPart A' x:=by
  unfold eTPart
  rw [hA_pre hp h]
theorem lrow_up {k T s:Nat} {A A':List (Nat→Nat)} (hp:A <+: A') {l:List TPart} (h:partsIn A.length l=true):lrow k T (eTPart A) s l=lrow k T (eTPart A') s l :=
  lrow_grow (fun x hx=>eT_up hp (by simpa using List.all_eq_true.1 h x hx))
def pkR (A:List (Nat→Nat)) (T s:Nat) (rows:List (Nat×List TPart)):List (Nat×Tok):=rows.map fun p=>(p.1,lrow p.1 T (eTPart A) s p.2)
def pkT (kr TN:Nat) (t:PT TOp TQueue) (T s:Nat) (Q:List TQueue) (rows:List (Nat×List TPart)):Tok where
  ks:=kr::rows.map (·.1)
  r β:=exR fun A:List (Nat→Nat)=>starRes (pureRes (A.length=Q.length∧pQ t <+: Q)::ptRes eTOp (payI A) TN (pI 0 t) (one1 (β kr).v)::starRes (hpL tq A Q)::((pkR A T s rows).map fun p=>p.2.r β))
  sup h:=by
    rename_i β β'
    congr 1
    funext A
    have e:((pkR A T s rows).map fun p=>p.2.r β)=(pkR A T s rows).map fun p=>p.2.r β':=List.map_congr_left (fun p hp=>p.2.sup (fun j hj=>h j (by
      obtain ⟨q,hq,rfl⟩:=List.mem_map.1 hp
      have:j=q.1:=by simpa [lrow,row] using hj
      subst this
      exact List.mem_cons_of_mem _ (List.mem_map_of_mem hq))))
    rw [h kr List.mem_cons_self,e]
theorem pk_open {kr TN:Nat} {t:PT TOp TQueue} {T s:Nat} (id:Nat):Ent [(kr,ptT eTOp payQ TN kr t)] [(id,pkT kr TN t T s (pQ t) [])] []:=by
  intro β w F h
  obtain ⟨A,h1,h2⟩:=expose_res t (Star_one.1 h)
  have h3:=h2 [] []
  simp only [List.nil_append,List.append_nil,List.length_nil] at h3
  refine ⟨β,fun _ _=>R,F,fun _ h=>h,Star_one.2 ⟨A,Star_pure.2 ⟨⟨h1,List.prefix_refl _⟩,?_⟩⟩⟩
  obtain ⟨F1,F2,e,d,g1,g2⟩:=h3
  exact ⟨F1,F2,e,d,g1,Star_one.2 g2⟩
theorem pk_close {kr TN:Nat} {t:PT TOp TQueue} {T s:Nat} {Q:List TQueue} {rows:List (Nat×List TPart)} (id:Nat):Ent [(id,pkT kr TN t T s Q rows)] [(kr,ptT eTOp payQ TN kr t)] []:=by
  intro β w F h
  obtain ⟨A,h1⟩:=Star_one.1 h
  obtain ⟨⟨hA,B,hB⟩,F1,F2,e,d,g1,F3,F4,e',d',g2,g3⟩:=Star_pure.1 h1
  subst hB
  have hA':A.length=(pQ t).length+B.length:=by rw [hA,List.length_append]
  obtain ⟨A1,A2,rfl,l1⟩ : ∃ A1 A2,A=A1++A2∧A1.length=(pQ t).length:=⟨A.take (pQ t).length,A.drop (pQ t).length,(List.take_append_drop _ _).symm,by rw [List.length_take];omega⟩
  have g2':Star (hpL tq (A1++A2) (pQ t++B)) w F3:=g2
  rw [hpL_app l1] at g2'
  obtain ⟨K1,K2,k1,k2,k3,k4⟩:=Star_append.1 g2'
  refine ⟨β,fun _ _=>R,fun b=>F1 b∨K1 b,fun b hb=>(e b).2 (hb.imp (fun h=>h) (fun h=>(e' b).2 (.inl ((k1 b).2 (.inl h))))),Star_one.2 (unexpose_res t [] A1 A2 l1 ?_)⟩
  exact ⟨F1,K1,fun b=>Iff.rfl,fun b h1 h2=>d b h1 ((e' b).2 (.inl ((k1 b).2 (.inl h2)))),g1,k3⟩
theorem SCon.view {P : Program} {f : FuncId} {args : List SV} {ret : SV} {kb kr TN k T s : Nat} {bt : Tok} {t : PT TOp TQueue} {Q Q' : List TQueue} {rows : List (Nat × List TPart)} {parts : List TPart} (id : Nat) (hin : rows.all (fun p => partsIn Q.length p.2) = true)
    (h : ∀ A:List (Nat→Nat),A.length=Q.length→SCon P f args [(19,hp 19 tq A Q),(kb,bt),(kr,ptT eTOp (payI A) TN kr (pI 0 t))] ret [(kb,bt),(kr,ptT eTOp (payI A) TN kr (pI 0 t)),(k,pkV k A Q T s Q' parts)] [k])
    (hne:rows.all (fun p=>!Nat.beq p.1 k)=true):SCon P f args [(kb,bt),(id,pkT kr TN t T s Q rows)] ret [(kb,bt),(id,pkT kr TN t T s Q' (rows++[(k,parts)]))] [k]:=by
  rintro β w F ⟨F1,F2,e1,d1,hb,hpk⟩
  obtain ⟨A,h1⟩:=Star_one.1 hpk
  obtain ⟨⟨hA,hQ⟩,F3,F4,e2,d2,htr,F5,F6,e3,d3,hhp,hrows⟩:=Star_pure.1 h1
  have con:=(h A hA).frame (pkR A T s rows) (fun p hp j hj=>by
    obtain ⟨q,hq,rfl⟩:=List.mem_map.1 hp
    have:j=q.1:=by simpa [lrow,row] using hj
    subst this
    have h9:=List.all_eq_true.1 hne q hq
    intro hm
    rw [List.mem_singleton] at hm
    rw [hm,Nat.beq_refl] at h9;cases h9)
  have hin':Star ((([(19,hp 19 tq A Q),(kb,bt),(kr,ptT eTOp (payI A) TN kr (pI 0 t))]++pkR A T s rows).map fun p=>p.2.r β)) w F:=by
    have a1:Star ((bt.r β)::(ptRes eTOp (payI A) TN (pI 0 t) (one1 (β kr).v))::(starRes (hpL tq A Q))::((pkR A T s rows).map fun p=>p.2.r β)) w F:=⟨F1,F2,e1,d1,hb,F3,F4,e2,d2,htr,F5,F6,e3,d3,hhp,hrows⟩
    refine Star_perm ?_ a1
    rw [List.map_append]
    exact ((List.Perm.swap _ _ _).cons _).trans (List.Perm.swap _ _ _)
  refine (con β w F hin').mono (fun en w' he=>?_)
  obtain ⟨β',hβ,rfl,F',h2,h3,h4⟩:=he
  refine ⟨β',hβ,R,F',?_,h3,h4⟩
  rw [List.map_append] at h2
  obtain ⟨G1,G2,g1,g2,⟨G3,G4,g3,g4,gb,G5,G6,g5,g6,gt,gpk⟩,grows⟩:=Star_append.1 h2
  obtain ⟨A',h5⟩:=Star_one.1 gpk
  obtain ⟨⟨hAA,hA',hQQ⟩,G7,G8,g7,g8,gh,grow⟩:=Star_pure.1 h5
  have grow:=Star_one.1 grow
  have etr:ptRes eTOp (payI A) TN (pI 0 t) (one1 (β' kr).v)=ptRes eTOp (payI A') TN (pI 0 t) (one1 (β' kr).v):=pt_up hAA (pI_in t 0 _ (by rw [hA,Nat.zero_add];exact hQ.length_le))
  have erows:pkR A T s rows=pkR A' T s rows:=List.map_congr_left (fun p hp=>by
    rw [lrow_up hAA (by rw [hA];exact List.all_eq_true.1 hin p hp)])
  have gt':(ptRes eTOp (payI A) TN (pI 0 t) (one1 (β' kr).v)).holds w' G5:=gt
  rw [etr] at gt'
  rw [erows] at grows
  have fin:Star ((bt.r β')::(ptRes eTOp (payI A') TN (pI 0 t) (one1 (β' kr).v))::(starRes (hpL tq A' Q'))::((pkR A' T s (rows++[(k,parts)])).map fun p=>p.2.r β')) w' F':=by
    have e9:((pkR A' T s (rows++[(k,parts)])).map fun p=>p.2.r β')=((pkR A' T s rows).map fun p=>p.2.r β')++[(lrow k T (eTPart A') s parts).r β']:=by
      simp [pkR]
    rw [e9]
    have a2:Star ([bt.r β',ptRes eTOp (payI A') TN (pI 0 t) (one1 (β' kr).v),starRes (hpL tq A' Q'),(lrow k T (eTPart A') s parts).r β']++((pkR A' T s rows).map fun p=>p.2.r β')) w' F' :=
      Star_append.2 ⟨G1,G2,g1,g2,⟨G3,G4,g3,g4,gb,G5,G6,g5,g6,gt',G7,G8,g7,g8,gh,Star_one.2 grow⟩,grows⟩
    refine Star_perm ?_ a2
    refine List.Perm.cons _ (List.Perm.cons _ (List.Perm.cons _ ?_))
    exact List.perm_append_comm (l₁:=[_])
  obtain ⟨K1,K2,k1,k2,kb',krest⟩:=fin
  exact ⟨K1,K2,k1,k2,kb',Star_one.2 ⟨A',Star_pure.2 ⟨⟨hA',hQ.trans hQQ⟩,krest⟩⟩⟩
theorem SCon.views {P : Program} {f : FuncId} {args' : List SV} {args : Value → List SV} {ret : SV} {kr TN k T s : Nat} {t : PT TOp TQueue} {Q : List TQueue} {R1 R2 : List (Nat × List TPart)} {parts : List TPart} {add : List (Nat × Tok)} {fr : List Nat} (id hid : Nat)
    (h : ∀ (A:List (Nat→Nat)) (S:Foot) (W0:World) (v:Value),A.length=Q.length→LArg S W0 v (eTPart A) s parts→SCon P f (args v) [(0,rd S W0),(hid,hp hid tq A Q)] ret ((0,rd S W0)::(hid,hp hid tq A Q)::add) fr)
    (hs:Nat.blt 0 s=true) (hlen : ∀ (A:List (Nat→Nat)) x,(eTPart A x).length=s)
    (ha : ∀ β:Env,(args (one1 (β k).v)).map (SV.den β)=args'.map (SV.den β))
    (hfr:(kr::(R1++(k,parts)::R2).map (·.1)).all (fun j=>!fr.contains j)=true):SCon P f args' [(id,pkT kr TN t T s Q (R1++(k,parts)::R2))] ret ((id,pkT kr TN t T s Q (R1++(k,parts)::R2))::add) fr:=by
  intro β w F hpk
  have hfr' : ∀ j∈kr::(R1++(k,parts)::R2).map (·.1),j∉fr:=fun j hj hm=>by
    have:=List.all_eq_true.1 hfr j hj
    simp only [Bool.not_eq_true',List.contains_eq_mem,decide_eq_false_iff_not] at this
    exact this hm
  obtain ⟨A,h1⟩:=Star_one.1 hpk
  obtain ⟨⟨hA,hQ⟩,hS⟩:=Star_pure.1 h1
  have erow : ∀ γ:Env,((pkR A T s (R1++(k,parts)::R2)).map fun p=>p.2.r γ)=((pkR A T s R1).map fun p=>p.2.r γ)++(lrow k T (eTPart A) s parts).r γ::((pkR A T s R2).map fun p=>p.2.r γ):=fun γ=>by simp [pkR]
  rw [erow] at hS
  let ex:List (Nat×Tok):=(kr,ptT eTOp (payI A) TN kr (pI 0 t))::(pkR A T s R1++pkR A T s R2)
  have hex : ∀ p∈ex,∀ j∈p.2.ks,j∉fr:=fun p hp j hj=>by
    rcases List.mem_cons.1 hp with rfl | hp
    · have:j=kr:=by simpa [ptT] using hj
      subst this;exact hfr' _ List.mem_cons_self
    · have : ∃ q ∈ R1 ++ (k, parts) :: R2, j = q.1 := by
        rcases List.mem_append.1 hp with hp | hp
        · obtain ⟨q,hq,rfl⟩:=List.mem_map.1 hp
          exact ⟨q,List.mem_append_left _ hq,by simpa [lrow,row] using hj⟩
        · obtain ⟨q,hq,rfl⟩:=List.mem_map.1 hp
          exact ⟨q,List.mem_append_right _ (List.mem_cons_of_mem _ hq),by simpa [lrow,row] using hj⟩
      obtain ⟨q,hq,rfl⟩:=this
      exact hfr' _ (List.mem_cons_of_mem _ (List.mem_map_of_mem hq))
  have eex : ∀ γ:Env,(ex.map fun p=>p.2.r γ)=ptRes eTOp (payI A) TN (pI 0 t) (one1 (γ kr).v)::(((pkR A T s R1).map fun p=>p.2.r γ)++((pkR A T s R2).map fun p=>p.2.r γ)):=fun γ=>by
    show _::((pkR A T s R1++pkR A T s R2).map _)=_
    rw [List.map_append];rfl
  have pm : ∀ (x y z:Res) (L1 L2:List Res),(x::y::(L1++z::L2)).Perm (z::y::x::(L1++L2)):=fun x y z L1 L2=>by
    have q1:(L1++z::L2).Perm (z::(L1++L2)):=List.perm_middle
    refine ((q1.cons y).cons x).trans ?_
    have q2:([x,y]++z::(L1++L2)).Perm (z::([x,y]++(L1++L2))):=List.perm_middle
    exact q2.trans ((List.Perm.swap y x _).cons z)
  obtain ⟨S,F2,e1,d1,hrow,F3,F4,e2,d2,hhp,hrest⟩:=Star_perm (pm _ _ _ _ _) hS
  have larg:LArg S w (one1 (β k).v) (eTPart A) s parts:=la (tr:=[(k,lrow k T (eTPart A) s parts)]) (β:=β) 0 rfl (hlen A) hs (Star_one.2 hrow)
  have con:=(h A S w (one1 (β k).v) hA larg).frame ex hex
  have hin:Star ((([(0,rd S w),(hid,hp hid tq A Q)]++ex).map fun p=>p.2.r β)) w F:=by
    rw [List.map_append,eex]
    exact ⟨S,F2,e1,d1,⟨fun b=>Iff.rfl,fun b hb=>⟨((lrow k T (eTPart A) s parts).r β).lt hrow hb,R⟩⟩,F3,F4,e2,d2,hhp,hrest⟩
  have hcall:=con β w F hin
  rw [ha β] at hcall
  refine hcall.mono (fun en w' he=>?_)
  obtain ⟨β',hβ,rfl,F',h2,h3,h4⟩:=he
  refine ⟨β',hβ,R,F',?_,h3,h4⟩
  obtain ⟨S',G2,g1,g2,hrd,G3,G4,g3,g4,gh,grest⟩:=h2
  have grest:Star ((add++ex).map fun p=>p.2.r β') w' G4:=grest
  rw [List.map_append,eex] at grest
  obtain ⟨H1,H2,a1,a2,hadd,hexx⟩:=Star_append.1 grest
  have hSS:S'=S:=funext fun b=>propext (hrd.1 b)
  subst hSS
  have hrow':((lrow k T (eTPart A) s parts).r β').holds w' S':=by
    have e5:(lrow k T (eTPart A) s parts).r β'=(lrow k T (eTPart A) s parts).r β:=(lrow k T (eTPart A) s parts).sup (fun j hj=>hβ j (by
      have:j=k:=by simpa [lrow,row] using hj
      subst this
      exact hfr' _ (List.mem_cons_of_mem _ (List.mem_map_of_mem (List.mem_append_right _ List.mem_cons_self)))))
    rw [e5]
    exact ((lrow k T (eTPart A) s parts).r β).loc (fun b hb=>(hrd.2 b hb).2) hrow
  have fin:Star ((lrow k T (eTPart A) s parts).r β'::starRes (hpL tq A Q)::((add.map fun p=>p.2.r β')++ptRes eTOp (payI A) TN (pI 0 t) (one1 (β' kr).v)::(((pkR A T s R1).map fun p=>p.2.r β')++((pkR A T s R2).map fun p=>p.2.r β')))) w' F' :=
    ⟨S',G2,g1,g2,hrow',G3,G4,g3,g4,gh,Star_append.2 ⟨H1,H2,a1,a2,hadd,hexx⟩⟩
  have pm2 : ∀ (x y z:Res) (L1 L2 M:List Res),(z::y::(M++x::(L1++L2))).Perm ((x::y::(L1++z::L2))++M):=fun x y z L1 L2 M=>by
    have q1:(z::y::(M++x::(L1++L2))).Perm ((z::y::x::(L1++L2))++M):=((List.perm_append_comm (l₁:=M) (l₂:=x::(L1++L2))).cons y).cons z
    exact q1.trans ((pm x y z L1 L2).symm.append_right M)
  obtain ⟨K1,K2,k1,k2,kpk,kadd⟩:=Star_append.1 (Star_perm (pm2 _ _ _ _ _ _) fin)
  refine ⟨K1,K2,k1,k2,⟨A,Star_pure.2 ⟨⟨hA,hQ⟩,?_⟩⟩,kadd⟩
  rw [erow];exact kpk
end Go.Proofs.YtgjbibabegabnaaGreat
