/- My texts that the proof of PastHeights rests on, part 3: a calculus of walks, the walks, and the plain law. -/
import Derived.KernelRfl
import Derived.Test.YtgjbibabegabnaaGreatPhb
set_option linter.unusedVariables false
set_option linter.unusedSimpArgs false
namespace Go.Proofs.YtgjbibabegabnaaGreat
open Go Go.Proofs.YtgjbibabegabnaaGreat.Sx
abbrev plM (k:Nat) (p:Pool (TNode TMark TSwell)):Tok:=pl k 201 195 3 31 fCM p
theorem plgetM {p:Pool (TNode TMark TSwell)} {i g:Int} {x:(TNode TMark TSwell)×Bool} (h:pGet zNodeM p i g=some x) (k:Nat):SCon Tryz.prog 113 [SV.p k 0,SV.agg [.i i,.i g]] [(k,plM k p)] (.tup [avM x.1,.c (.b x.2)]) [(k,plM k p)] []:=by
 obtain ⟨hp,hx⟩:=grd h
 cases hx
 refine SCon.hide fun v=>?_
 obtain ⟨h1,v',h2⟩:=get_vis (p:=p) (z:=zNodeM) v i g
 refine ⟨v',?_⟩
 have:=getM' { p with vis:=v } i g (hp.ok v) (by decide) k
 rw [h1,h2] at this
 exact this
theorem plsetM {p:Pool (TNode TMark TSwell)} {i g:Int} {y:(TNode TMark TSwell)} {x:Bool×Pool (TNode TMark TSwell)} (h:pSet p i g y=some x) (k:Nat):SCon Tryz.prog 164 [SV.p k 0,SV.agg [.i i,.i g],.a (avM y)] [(k,plM k p)] (SV.b x.1) [(k,plM k x.2)] []:=by
 obtain ⟨hp,hx⟩:=grd h
 cases hx
 refine SCon.hide fun v=>?_
 obtain ⟨h1,v',h2⟩:=set_vis (p:=p) v i g y
 refine ⟨v',?_⟩
 have:=setM' { p with vis:=v } i g y (hp.ok v) (by decide) k
 rw [h1,h2] at this
 exact this
theorem plputM {p:Pool (TNode TMark TSwell)} {y:(TNode TMark TSwell)} {x:((Int×Int)×Bool)×Pool (TNode TMark TSwell)} (h:pPut zNodeM p y=some x) (k:Nat):SCon Tryz.prog 163 [SV.p k 0,.a (avM y)] [(k,plM k p)] (.tup [.agg [.i x.1.1.1,.i x.1.1.2],.c (.b x.1.2)]) [(k,plM k x.2)] []:=by
 obtain ⟨hp,hx⟩:=grd h
 cases hx
 refine SCon.hide fun v=>?_
 obtain ⟨h1,v',h2⟩:=put_vis (p:=p) (z:=zNodeM) v y
 refine ⟨v',?_⟩
 have:=putM { p with vis:=v } y (hp.ok v) (by decide) k
 rw [h1,h2] at this
 exact this
theorem pldropM {p:Pool (TNode TMark TSwell)} {i g:Int} {x:((TNode TMark TSwell)×Bool)×Pool (TNode TMark TSwell)} (h:pDrop zNodeM p i g=some x) (k:Nat):SCon Tryz.prog 119 [SV.p k 0,SV.agg [.i i,.i g]] [(k,plM k p)] (.tup [avM x.1.1,.c (.b x.1.2)]) [(k,plM k x.2)] []:=by
 obtain ⟨hp,hx⟩:=grd h
 cases hx
 refine SCon.hide fun v=>?_
 obtain ⟨h1,v',h2⟩:=drop_vis (p:=p) (z:=zNodeM) v i g
 refine ⟨v',?_⟩
 have:=dropM' { p with vis:=v } i g (hp.ok v) (by decide) k
 rw [h1,h2] at this
 exact this
theorem plnewM (c:Int) (k:Nat):SCon Tryz.prog 159 [SV.i c] [] (SV.p k 0) [(k,plM k ⟨[],[],capOf c,0,0⟩)] [k]:=SCon.hideNew (newM c k)
abbrev Tree_NewM_st (a0:Int) (r:TRef×Pool (TNode TMark TSwell)) (m40:Nat) (m41:Nat):Prop:=SCon Tryz.prog 134 [.a (.c (.v (.int .i64 a0)))] [] (.a (.c (.p m40 0))) [(m40,blk m40 [.p m41 0,.i r.1.index,.i r.1.gen] 144),(m41,plM m41 r.2)] [m40,m41]
theorem Tree_NewM_con0 {k:Nat}  {a0:Int} {r:TRef×Pool (TNode TMark TSwell)}  (H0:Tree_New.f opsM k a0=some r):Tree_NewM_st a0 r 40 41:=by
 rw [Tree_New.f] at H0
 refine spec_of [(0,_)] [] 7 Tryz.func134 R Tryz.ntmps134 R R R R (fun β W F=>?_)
 exact G.seq<|G.rg<|K.as R R<|K.nil<|At.nr<|K.mv R R<|K.call0 [(.func 159,_),((.tmp 3),_)] (plnewM a0 100) (toFn_func (cf 159 R) R) g0 ⟨R,R,trivial⟩ trivial R R R R R R<|K.build Y [(0,_)] [_,_,_] [((.tmp 4),_)] g0 (AllE.spec ⟨R,trivial⟩) R R t144 R R<|K.box Y 101 _ g0 R R R R R R<|K.as R R<|K.nil<|At.next<|G.ret<|At.ren (fs':=[(2,.a (.c (.p 40 0)))]) (tl:=[(40,blk 40 [.p 41 0,.v (.int .i64 0),.v (.int .i64 0)] 144),(41,plM 41 (⟨[],[],capOf a0,0,0⟩:Pool (TNode TMark TSwell)))]) [(40,101),(41,100)] [_,_] R ⟨R,trivial⟩ ⟨R,(blk_ren R R),R,(pl_ren R),trivial⟩ R<|At.dr Y [2] R R (by cases H0;rfl) (by cases H0;rfl) R R R
theorem Tree_NewM_con {k:Nat}  {a0:Int} {r:TRef×Pool (TNode TMark TSwell)}  (H0:Tree_New.f opsM k a0=some r) (m40 m41:Nat) (hd:ndB [m40,m41]=true):Tree_NewM_st a0 r m40 m41 :=
 SCon.ren (rn [(40,m40),(41,m41)]) (Tree_NewM_con0 (k:=k)   H0) trivial ⟨(blk_ren R R),(pl_ren R),trivial⟩ (rn_nd hd R R) (rn_ks hd R R R)
abbrev Tree_getM_st (p1:Pool (TNode TMark TSwell)) (a1:TRef) (ri0:Int) (rg0:Int) (r:TNode TMark TSwell) (m0:Nat) (m1:Nat):Prop:=SCon Tryz.prog 83 [SV.p m0 0,.a (.agg ((eTRef a1).map .v))] [(m0,blk m0 [.p m1 0,.i ri0,.i rg0] 144),(m1,plM m1 p1)] (.a (.agg ((eTNode_TMark_TSwell r).map .v))) [(m0,blk m0 [.p m1 0,.i ri0,.i rg0] 144),(m1,plM m1 p1)] []
theorem Tree_getM_con0 {k:Nat}  {p1:Pool (TNode TMark TSwell)} {a1:TRef} {ri0 rg0:Int} {r:TNode TMark TSwell}  (H0:Tree_get.f opsM k p1 a1=some r):Tree_getM_st p1 a1 ri0 rg0 r 0 1:=by
 rw [Tree_get.f] at H0
 refine spec_of [(0,_),(1,_)] [(0,_),(1,_)] 21 Tryz.func83 R Tryz.ntmps83 R R R R (fun β W F=>?_)
 refine G.seq<|G.rg<|K.box Y 100 _ g0 R R R R R R<|K.alloc Y 101 _ g0 t140 R R R R R<|K.nil<|At.ns<|G.seq<|G.rg<|K.fieldAddr Y g0 R t119 R R<|K.load1 Y g0 R R t3 R R<|K.bin (V:=.bool (a1.gen == 0)) g0 R R (fun _=>R) R<|K.nil<|At.next<|G.cond R (fun h1=>?_) (fun h1=>?_)
 ·
  replace H0:=bif_t H0 h1
  refine G.seq<|G.rg<|K.build Y [] [_,_,_,_,_,_,_,_,_,_,_,_,_,_,_,_,_,_,_,_,_,_,_,_,_,_,_,_,_] [] g0 (AllE.spec trivial) R R t140 R R<|K.store Y _ g0 R R R t140 R R R R R<|K.nil<|At.next<|G.ret<|At.over_ret<|At.done Y [(.cell 4 140,.agg [_,_,_,_,_,_,_,_,_,_,_,_,_,_,_,_,_,_,_,_,_,_,_,_,_,_,_,_,_])] R ⟨.st R R t140 R R,trivial⟩ (to':=[(0,_),(1,_)]) ⟨R,R,trivial⟩ ?_ ?_ R R R (.inl R)
  · cases H0;rfl
  · cases H0;rfl
 ·
  replace H0:=bif_f H0 h1
  refine G.skip<|At.ns ?_
  obtain ⟨x1,hx1,H0⟩:=bnd H0
  refine G.rd mixed<|K.mv R R<|K.nilCheck g0 R R<|K.fieldAddr Y g0 R t144 R R<|K.load1 Y g0 R R t142 R R<|K.loadS Y _ g0 R R t119 R R R<|K.callR [(.func 113,_),((.tmp 15),_),((.tmp 16),_)] (plgetM hx1 1) (toFn_func (cf 113 R) R) g0 ⟨R,R,R,trivial⟩ ⟨R,trivial⟩ R R R<|K.mv R R<|K.extract g0 R R R<|K.extract g0 R R R<|K.alloc Y 102 _ g0 t140 R R R R R<|K.store Y _ g0 R R R t140 R R R R R<|K.as R R<|K.nil<|And.intro (by kernel_rfl)<|At.nr<|K.loadS Y _ g0 R R t140 R R R<|K.store Y _ g0 R R R t140 R R R R R<|K.nil<|At.next<|G.ret<|At.done Y [(.cell 4 140,.agg [_,_,_,_,_,_,_,_,_,_,_,_,_,_,_,_,_,_,_,_,_,_,_,_,_,_,_,_,_])] R ⟨.st R R t140 R R,trivial⟩ (to':=[(0,_),(1,_)]) ⟨R,R,trivial⟩ ?_ ?_ R R R (.inl R)
  · cases H0;rfl
  · cases H0;rfl
theorem Tree_getM_con {k:Nat}  {p1:Pool (TNode TMark TSwell)} {a1:TRef} {ri0 rg0:Int} {r:TNode TMark TSwell}  (H0:Tree_get.f opsM k p1 a1=some r) (m0 m1:Nat):Tree_getM_st p1 a1 ri0 rg0 r m0 m1 :=
 SCon.ren (rn [(0,m0),(1,m1)]) (Tree_getM_con0 (k:=k)   H0) ⟨(blk_ren R R),(pl_ren R),trivial⟩ ⟨(blk_ren R R),(pl_ren R),trivial⟩ (by simp) (by simp)
abbrev Tree_LenM_st (p1:Pool (TNode TMark TSwell)) (rt0:TRef) (r:Int) (m0:Nat) (m1:Nat):Prop:=SCon Tryz.prog 56 [SV.p m0 0] [(m0,blk m0 [.p m1 0,.i rt0.index,.i rt0.gen] 144),(m1,plM m1 p1)] (.a (.c (.v (.int .i64 r)))) [(m0,blk m0 [.p m1 0,.i rt0.index,.i rt0.gen] 144),(m1,plM m1 p1)] []
theorem Tree_LenM_con0 {k:Nat}  {p1:Pool (TNode TMark TSwell)} {rt0:TRef} {r:Int}  (H0:Tree_Len.f opsM k p1 rt0=some r):Tree_LenM_st p1 rt0 r 0 1:=by
 rw [Tree_Len.f] at H0
 refine spec_of [(0,_)] [(0,_),(1,_)] 10 Tryz.func56 R Tryz.ntmps56 R R R R (fun β W F=>?_)
 refine G.seq<|G.rg<|K.as R R<|K.nil<|At.ns ?_
 obtain ⟨x1,hx1,H0⟩:=bnd H0
 exact G.rg<|K.mv R R<|K.mv R R<|K.nilCheck g0 R R<|K.fieldAddr Y g0 R t144 R R<|K.loadS Y _ g0 R R t119 R R R<|K.cR (cf 83 R) (Tree_getM_con hx1 0 1) g0 R R R R<|K.field1 Y g0 R t140 R t3 R R<|K.as R R<|K.nil<|At.next<|G.ret<|At.dr Y [2] R R (by cases H0;rfl) (by cases H0;rfl) R R R
theorem Tree_LenM_con {k:Nat}  {p1:Pool (TNode TMark TSwell)} {rt0:TRef} {r:Int}  (H0:Tree_Len.f opsM k p1 rt0=some r) (m0 m1:Nat):Tree_LenM_st p1 rt0 r m0 m1 :=
 SCon.ren (rn [(0,m0),(1,m1)]) (Tree_LenM_con0 (k:=k)   H0) ⟨(blk_ren R R),(pl_ren R),trivial⟩ ⟨(blk_ren R R),(pl_ren R),trivial⟩ (by simp) (by simp)
abbrev Tree_FindM_st (p1:Pool (TNode TMark TSwell)) (rt0:TRef) (a1:TMark) (r:TMark×Bool) (m0:Nat) (m1:Nat):Prop:=SCon Tryz.prog 57 [SV.p m0 0,.a (.agg ((eTMark a1).map .v))] [(m0,blk m0 [.p m1 0,.i rt0.index,.i rt0.gen] 144),(m1,plM m1 p1)] (.tup [.agg ((eTMark r.1).map .v),.c (.v (.bool r.2))]) [(m0,blk m0 [.p m1 0,.i rt0.index,.i rt0.gen] 144),(m1,plM m1 p1)] []
theorem Tree_FindM_con0 {k:Nat}  {p1:Pool (TNode TMark TSwell)} {rt0:TRef} {a1:TMark} {r:TMark×Bool}  (H0:Tree_Find.f opsM k p1 rt0 a1=some r):Tree_FindM_st p1 rt0 a1 r 0 1:=by
 rw [Tree_Find.f] at H0
 refine spec_of [(0,_),(1,_)] [(0,_),(1,_)] 37 Tryz.func57 R Tryz.ntmps57 R R R R (fun β W F=>?_)
 refine G.seq<|G.rg<|K.box Y 100 _ g0 R R R R R R<|K.alloc Y 101 _ g0 t101 R R R R R<|K.as R R<|K.nil<|At.next ?_
 obtain ⟨x1,H1,H0⟩:=bnd H0
 refine G.sJ (σ:={ v:Unit // x1=Sum.inr v }) (fun q=>[(4,.a (.c (.p 102 0)))]) (fun q=>[(102,blk 102 [.v (.int .i64 0),.v (.bool false),.v (.int .i64 0),.v (.int .i64 0),.v (.bool false),.v (.bool false),.v (.int .i64 0),.v (.int .i64 0)] 101),(1,plM 1 p1),(0,blk 0 [.p 1 0,.v (.int .i64 rt0.index),.v (.int .i64 rt0.gen)] 144)]) ?_ ?_
 ·
  refine G.seq<|G.rg<|K.mv R R<|K.nilCheck g0 R R<|K.fieldAddr Y g0 R t144 R R<|K.loadS Y _ g0 R R t119 R R R<|K.alloc Y 103 _ g0 t119 R R R R R<|K.store Y _ g0 R R R t119 R R R R R<|K.nil<|At.next<|G.block<|G.lp (σ:={ q:Nat×(TRef) // Tree_Find.l0 opsM k p1 a1 q.1 q.2=some x1 }) (fun q=>[(0,.a (.c (.p 0 0))),(3,.a (.c (.p 110 0))),(4,.a (.c (.p 111 0))),(6,.a (.c (.p 112 0)))]) (fun q=>[(1,plM 1 p1),(0,blk 0 [.p 1 0,.v (.int .i64 rt0.index),.v (.int .i64 rt0.gen)] 144),(110,blk 110 [.v (.int .i64 a1.op.time),.v (.bool a1.op.insert),.v (.int .i64 a1.op.item.key),.v (.int .i64 a1.op.item.id),.v (.bool a1.here),.v (.bool a1.took.found),.v (.int .i64 a1.took.item.key),.v (.int .i64 a1.took.item.id)] 101),(111,blk 111 [.v (.int .i64 0),.v (.bool false),.v (.int .i64 0),.v (.int .i64 0),.v (.bool false),.v (.bool false),.v (.int .i64 0),.v (.int .i64 0)] 101),(112,blk 112 [.v (.int .i64 q.1.2.index),.v (.int .i64 q.1.2.gen)] 119)]) (fun q=>q.1.1) ⟨(k,rt0),H1⟩ ?_ ?_
  · exact At.into [(110,100),(111,101),(112,103)] [_,_,_,_,_] R ⟨R,R,R,R,trivial⟩ ⟨R,(pl_ren R),R,(blk_ren R R),R,(blk_ren R R),R,(blk_ren R R),R,(blk_ren R R),trivial⟩ R
  ·
   rintro ⟨⟨n0,v1⟩,H1⟩
   show G _ _ [(0,.a (.c (.p 0 0))),(3,.a (.c (.p 110 0))),(4,.a (.c (.p 111 0))),(6,.a (.c (.p 112 0)))] [(1,some (plM 1 p1)),(0,some (blk 0 [.p 1 0,.v (.int .i64 rt0.index),.v (.int .i64 rt0.gen)] 144)),(110,some (blk 110 [.v (.int .i64 a1.op.time),.v (.bool a1.op.insert),.v (.int .i64 a1.op.item.key),.v (.int .i64 a1.op.item.id),.v (.bool a1.here),.v (.bool a1.took.found),.v (.int .i64 a1.took.item.key),.v (.int .i64 a1.took.item.id)] 101)),(111,some (blk 111 [.v (.int .i64 0),.v (.bool false),.v (.int .i64 0),.v (.int .i64 0),.v (.bool false),.v (.bool false),.v (.int .i64 0),.v (.int .i64 0)] 101)),(112,some (blk 112 [.v (.int .i64 v1.index),.v (.int .i64 v1.gen)] 119))] _ _
   cases n0 with
   | zero => exact absurd H1 (by simp [Tree_Find.l0])
   | succ n0 =>
    have HL0:=H1
    rw [Tree_Find.l0] at H1
    refine G.seq<|G.seq<|G.rg<|K.fieldAddr Y g0 R t119 R R<|K.load1 Y g0 R R t3 R R<|K.bin (V:=.bool (v1.gen != 0)) g0 R R (fun _=>R) R<|K.nil<|At.next<|G.cond R (fun h1=>?_) (fun h1=>?_)
    ·
     replace H1:=bif_t H1 h1
     refine G.skip<|At.ns<|G.block<|G.seq ?_
     obtain ⟨x2,hx2,H1⟩:=bnd H1
     refine G.rg<|K.mv R R<|K.loadS Y _ g0 R R t119 R R R<|K.cR (cf 83 R) (Tree_getM_con hx2 0 1) g0 R R R R<|K.alloc Y 113 _ g0 t140 R R R R R<|K.store Y _ g0 R R R t140 R R R R R<|K.nil<|At.ns ?_
     obtain ⟨x3,hx3,H1⟩:=bnd H1
     refine G.rg<|K.loadS Y _ g0 R R t101 R R R<|K.mkIface Y g0 R (mkI Tryz.underlying101 R) R<|K.fieldAddr Y g0 R t140 R R<|K.loadS Y _ g0 R R t101 R R R<|K.callR [((.tmp 21),_),((.tmp 23),_)] (wave_Mark_Compare_con (k:=k) hx3) (toFn_invoke (cf 206 R) (me101_206) R) g0 ⟨R,R,trivial⟩ trivial R R R<|K.as R R<|K.nil<|At.ns<|G.seq<|G.rg<|K.mv R R<|K.bin (V:=.bool (x3 == 0)) g0 R R (fun _=>R) R<|K.nil<|At.next<|G.cond R (fun h2=>?_) (fun h2=>?_)
     ·
      replace H1:=bif_t H1 h2
      refine G.seq<|G.rg<|K.fieldAddr Y g0 R t140 R R<|K.loadS Y _ g0 R R t101 R R R<|K.store Y _ g0 R R R t101 R R R R R<|K.as R R<|K.nil<|At.next<|G.ret<|At.over_ret<|At.block_ret<|At.over_ret<|At.over_ret<|At.block_ret<|At.over_ret ?_
      cases H1
      replace H0:=sum_l H0
      refine At.done Y [(.cell 4 101,.agg [_,_,_,_,_,_,_,_]),(.tmp 5,.c _)] R ⟨.st R R t101 R R,.tmp R,trivial⟩ (to':=[(0,_),(1,_)]) ⟨R,R,trivial⟩ ?_ ?_ R R R (.inl R)
      · cases H0;rfl
      · cases H0;rfl
     ·
      replace H1:=bif_f H1 h2
      refine G.skip<|At.nr<|K.fieldAddr Y g0 R t140 R R<|K.loadS Y _ g0 R R t119 R R R<|K.store Y _ g0 R R R t119 R R R R R<|K.nil<|At.nr<|K.mv R R<|K.bin (V:=.bool (decide (x3<0))) g0 R R (fun _=>R) R<|K.nil<|At.next<|G.cond R (fun h3=>?_) (fun h3=>?_)
      ·
       replace H1:=bif_t H1 h3
       exact G.rg<|K.fieldAddr Y g0 R t140 R R<|K.loadS Y _ g0 R R t119 R R R<|K.store Y _ g0 R R R t119 R R R R R<|K.nil<|At.block_normal<|At.nr<|K.loadS Y _ g0 R R t119 R R R<|K.nil<|At.next<|G.rg<|K.alloc Y 114 _ g0 t119 R R R R R<|K.store Y _ g0 R R R t119 R R R R R<|K.nil<|At.ag ⟨(n0,x2.left),H1⟩ [(112,114)] [_,_,_,_,_] (Nat.lt_succ_self _) R ⟨R,R,R,R,trivial⟩ ⟨R,(pl_ren R),R,(blk_ren R R),R,(blk_ren R R),R,(blk_ren R R),R,(blk_ren R R),trivial⟩ R
      ·
       replace H1:=bif_f H1 h3
       exact G.skip<|At.block_normal<|At.nr<|K.loadS Y _ g0 R R t119 R R R<|K.nil<|At.next<|G.rg<|K.alloc Y 115 _ g0 t119 R R R R R<|K.store Y _ g0 R R R t119 R R R R R<|K.nil<|At.ag ⟨(n0,x2.right),H1⟩ [(112,115)] [_,_,_,_,_] (Nat.lt_succ_self _) R ⟨R,R,R,R,trivial⟩ ⟨R,(pl_ren R),R,(blk_ren R R),R,(blk_ren R R),R,(blk_ren R R),R,(blk_ren R R),trivial⟩ R
    ·
     replace H1:=bif_f H1 h1
     exact G.exit<|At.over_exit<|At.over_exit<|At.block_hit<|At.jd ⟨(),oi H1⟩ [(102,111)] [_,_,_] R ⟨R,trivial⟩ ⟨R,(blk_ren R R),R,(pl_ren R),R,(blk_ren R R),trivial⟩ R
 ·
  rintro ⟨w1,rfl⟩
  replace H0:=sum_r H0
  show G _ _ [(4,.a (.c (.p 102 0)))] [(102,some (blk 102 [.v (.int .i64 0),.v (.bool false),.v (.int .i64 0),.v (.int .i64 0),.v (.bool false),.v (.bool false),.v (.int .i64 0),.v (.int .i64 0)] 101)),(1,some (plM 1 p1)),(0,some (blk 0 [.p 1 0,.v (.int .i64 rt0.index),.v (.int .i64 rt0.gen)] 144))] _ _
  refine G.seq<|G.rg<|K.alloc Y 116 _ g0 t101 R R R R R<|K.nil<|At.nr<|K.loadS Y _ g0 R R t101 R R R<|K.store Y _ g0 R R R t101 R R R R R<|K.as R R<|K.nil<|At.next<|G.ret<|At.done Y [(.cell 4 101,.agg [_,_,_,_,_,_,_,_]),(.tmp 5,.c _)] R ⟨.st R R t101 R R,.tmp R,trivial⟩ (to':=[(0,_),(1,_)]) ⟨R,R,trivial⟩ ?_ ?_ R R R (.inl R)
  · cases H0;rfl
  · cases H0;rfl
theorem Tree_FindM_con {k:Nat}  {p1:Pool (TNode TMark TSwell)} {rt0:TRef} {a1:TMark} {r:TMark×Bool}  (H0:Tree_Find.f opsM k p1 rt0 a1=some r) (m0 m1:Nat):Tree_FindM_st p1 rt0 a1 r m0 m1 :=
 SCon.ren (rn [(0,m0),(1,m1)]) (Tree_FindM_con0 (k:=k)   H0) ⟨(blk_ren R R),(pl_ren R),trivial⟩ ⟨(blk_ren R R),(pl_ren R),trivial⟩ (by simp) (by simp)
abbrev Tree_weightM_st (p1:Pool (TNode TMark TSwell)) (a1:TRef) (ri0:Int) (rg0:Int) (r:Int) (m0:Nat) (m1:Nat):Prop:=SCon Tryz.prog 84 [SV.p m0 0,.a (.agg ((eTRef a1).map .v))] [(m0,blk m0 [.p m1 0,.i ri0,.i rg0] 144),(m1,plM m1 p1)] (.a (.c (.v (.int .i64 r)))) [(m0,blk m0 [.p m1 0,.i ri0,.i rg0] 144),(m1,plM m1 p1)] []
theorem Tree_weightM_con0 {k:Nat}  {p1:Pool (TNode TMark TSwell)} {a1:TRef} {ri0 rg0:Int} {r:Int}  (H0:Tree_weight.f opsM k p1 a1=some r):Tree_weightM_st p1 a1 ri0 rg0 r 0 1:=by
 rw [Tree_weight.f] at H0
 refine spec_of [(0,_),(1,_)] [(0,_),(1,_)] 10 Tryz.func84 R Tryz.ntmps84 R R R R (fun β W F=>?_)
 refine G.seq<|G.rg<|K.box Y 100 _ g0 R R R R R R<|K.as R R<|K.nil<|At.ns ?_
 obtain ⟨x1,hx1,H0⟩:=bnd H0
 exact G.rg<|K.mv R R<|K.loadS Y _ g0 R R t119 R R R<|K.cR (cf 83 R) (Tree_getM_con hx1 0 1) g0 R R R R<|K.field1 Y g0 R t140 R t3 R R<|K.bin (V:=.int .i64 (w64 (x1.size+1))) g0 R R (fun _=>R) R<|K.as R R<|K.nil<|At.next<|G.ret<|At.dr Y [4] R R (by cases H0;rfl) (by cases H0;rfl) R R R
theorem Tree_weightM_con {k:Nat}  {p1:Pool (TNode TMark TSwell)} {a1:TRef} {ri0 rg0:Int} {r:Int}  (H0:Tree_weight.f opsM k p1 a1=some r) (m0 m1:Nat):Tree_weightM_st p1 a1 ri0 rg0 r m0 m1 :=
 SCon.ren (rn [(0,m0),(1,m1)]) (Tree_weightM_con0 (k:=k)   H0) ⟨(blk_ren R R),(pl_ren R),trivial⟩ ⟨(blk_ren R R),(pl_ren R),trivial⟩ (by simp) (by simp)
abbrev Tree_RankM_st (p1:Pool (TNode TMark TSwell)) (rt0:TRef) (a1:TMark) (r:Int) (m0:Nat) (m1:Nat):Prop:=SCon Tryz.prog 59 [SV.p m0 0,.a (.agg ((eTMark a1).map .v))] [(m0,blk m0 [.p m1 0,.i rt0.index,.i rt0.gen] 144),(m1,plM m1 p1)] (.a (.c (.v (.int .i64 r)))) [(m0,blk m0 [.p m1 0,.i rt0.index,.i rt0.gen] 144),(m1,plM m1 p1)] []
theorem Tree_RankM_con0 {k:Nat}  {p1:Pool (TNode TMark TSwell)} {rt0:TRef} {a1:TMark} {r:Int}  (H0:Tree_Rank.f opsM k p1 rt0 a1=some r):Tree_RankM_st p1 rt0 a1 r 0 1:=by
 rw [Tree_Rank.f] at H0
 refine spec_of [(0,_),(1,_)] [(0,_),(1,_)] 36 Tryz.func59 R Tryz.ntmps59 R R R R (fun β W F=>?_)
 refine G.seq<|G.rg<|K.box Y 100 _ g0 R R R R R R<|K.as R R<|K.nil<|At.nr<|K.as R R<|K.nil<|At.next ?_
 obtain ⟨x1,H1,H0⟩:=bnd H0
 refine G.sJ (σ:={ v:Int // x1=v }) (fun q=>[(5,.a (.c (.v (.int .i64 q.1))))]) (fun q=>[(1,plM 1 p1),(0,blk 0 [.p 1 0,.v (.int .i64 rt0.index),.v (.int .i64 rt0.gen)] 144)]) ?_ ?_
 ·
  refine G.seq<|G.rg<|K.mv R R<|K.nilCheck g0 R R<|K.fieldAddr Y g0 R t144 R R<|K.loadS Y _ g0 R R t119 R R R<|K.alloc Y 101 _ g0 t119 R R R R R<|K.store Y _ g0 R R R t119 R R R R R<|K.nil<|At.next<|G.block<|G.lp (σ:={ q:Nat×(Int×TRef) // Tree_Rank.l0 opsM k p1 a1 q.1 q.2=some x1 }) (fun q=>[(0,.a (.c (.p 0 0))),(3,.a (.c (.p 106 0))),(5,.a (.c (.v (.int .i64 q.1.2.1)))),(6,.a (.c (.p 107 0)))]) (fun q=>[(1,plM 1 p1),(0,blk 0 [.p 1 0,.v (.int .i64 rt0.index),.v (.int .i64 rt0.gen)] 144),(106,blk 106 [.v (.int .i64 a1.op.time),.v (.bool a1.op.insert),.v (.int .i64 a1.op.item.key),.v (.int .i64 a1.op.item.id),.v (.bool a1.here),.v (.bool a1.took.found),.v (.int .i64 a1.took.item.key),.v (.int .i64 a1.took.item.id)] 101),(107,blk 107 [.v (.int .i64 q.1.2.2.index),.v (.int .i64 q.1.2.2.gen)] 119)]) (fun q=>q.1.1) ⟨(k,(0,rt0)),H1⟩ ?_ ?_
  · exact At.into [(106,100),(107,101)] [_,_,_,_] R ⟨R,R,R,R,trivial⟩ ⟨R,(pl_ren R),R,(blk_ren R R),R,(blk_ren R R),R,(blk_ren R R),trivial⟩ R
  ·
   rintro ⟨⟨n0,v1,v2⟩,H1⟩
   show G _ _ [(0,.a (.c (.p 0 0))),(3,.a (.c (.p 106 0))),(5,.a (.c (.v (.int .i64 v1)))),(6,.a (.c (.p 107 0)))] [(1,some (plM 1 p1)),(0,some (blk 0 [.p 1 0,.v (.int .i64 rt0.index),.v (.int .i64 rt0.gen)] 144)),(106,some (blk 106 [.v (.int .i64 a1.op.time),.v (.bool a1.op.insert),.v (.int .i64 a1.op.item.key),.v (.int .i64 a1.op.item.id),.v (.bool a1.here),.v (.bool a1.took.found),.v (.int .i64 a1.took.item.key),.v (.int .i64 a1.took.item.id)] 101)),(107,some (blk 107 [.v (.int .i64 v2.index),.v (.int .i64 v2.gen)] 119))] _ _
   cases n0 with
   | zero => exact absurd H1 (by simp [Tree_Rank.l0])
   | succ n0 =>
    have HL0:=H1
    rw [Tree_Rank.l0] at H1
    refine G.seq<|G.seq<|G.rg<|K.fieldAddr Y g0 R t119 R R<|K.load1 Y g0 R R t3 R R<|K.bin (V:=.bool (v2.gen != 0)) g0 R R (fun _=>R) R<|K.nil<|At.next<|G.cond R (fun h1=>?_) (fun h1=>?_)
    ·
     replace H1:=bif_t H1 h1
     refine G.skip<|At.ns<|G.block<|G.seq ?_
     obtain ⟨x2,hx2,H1⟩:=bnd H1
     refine G.rg<|K.mv R R<|K.loadS Y _ g0 R R t119 R R R<|K.cR (cf 83 R) (Tree_getM_con hx2 0 1) g0 R R R R<|K.alloc Y 108 _ g0 t140 R R R R R<|K.store Y _ g0 R R R t140 R R R R R<|K.nil<|At.ns<|G.seq ?_
     obtain ⟨x3,hx3,H1⟩:=bnd H1
     refine G.rg<|K.loadS Y _ g0 R R t101 R R R<|K.mkIface Y g0 R (mkI Tryz.underlying101 R) R<|K.fieldAddr Y g0 R t140 R R<|K.loadS Y _ g0 R R t101 R R R<|K.callR [((.tmp 19),_),((.tmp 21),_)] (wave_Mark_Compare_con (k:=k) hx3) (toFn_invoke (cf 206 R) (me101_206) R) g0 ⟨R,R,trivial⟩ trivial R R R<|K.bin (V:=.bool (decide (x3≤0))) g0 R R (fun _=>R) R<|K.nil<|At.next<|G.cond R (fun h2=>?_) (fun h2=>?_)
     ·
      replace H1:=bif_t H1 h2
      exact G.seq<|G.rg<|K.fieldAddr Y g0 R t140 R R<|K.loadS Y _ g0 R R t119 R R R<|K.store Y _ g0 R R R t119 R R R R R<|K.nil<|At.next<|G.exit<|At.over_exit<|At.block_hit<|At.nr<|K.loadS Y _ g0 R R t119 R R R<|K.nil<|At.next<|G.rg<|K.alloc Y 109 _ g0 t119 R R R R R<|K.store Y _ g0 R R R t119 R R R R R<|K.nil<|At.ag ⟨(n0,(v1,x2.left)),H1⟩ [(107,109)] [_,_,_,_] (Nat.lt_succ_self _) R ⟨R,R,R,R,trivial⟩ ⟨R,(pl_ren R),R,(blk_ren R R),R,(blk_ren R R),R,(blk_ren R R),trivial⟩ R
     ·
      replace H1:=bif_f H1 h2
      refine G.skip<|At.ns ?_
      obtain ⟨x4,hx4,H1⟩:=bnd H1
      exact G.rg<|K.mv R R<|K.mv R R<|K.fieldAddr Y g0 R t140 R R<|K.loadS Y _ g0 R R t119 R R R<|K.cR (cf 84 R) (Tree_weightM_con hx4 0 1) g0 R R R R<|K.bin (V:=.int .i64 (w64 (v1+x4))) g0 R R (fun _=>R) R<|K.as R R<|K.nil<|At.next<|G.rg<|K.fieldAddr Y g0 R t140 R R<|K.loadS Y _ g0 R R t119 R R R<|K.store Y _ g0 R R R t119 R R R R R<|K.nil<|At.block_normal<|At.nr<|K.loadS Y _ g0 R R t119 R R R<|K.nil<|At.next<|G.rg<|K.alloc Y 110 _ g0 t119 R R R R R<|K.store Y _ g0 R R R t119 R R R R R<|K.nil<|At.ag ⟨(n0,((w64 (v1+x4)),x2.right)),H1⟩ [(107,110)] [_,_,_,_] (Nat.lt_succ_self _) R ⟨R,R,R,R,trivial⟩ ⟨R,(pl_ren R),R,(blk_ren R R),R,(blk_ren R R),R,(blk_ren R R),trivial⟩ R
    ·
     replace H1:=bif_f H1 h1
     exact G.exit<|At.over_exit<|At.over_exit<|At.block_hit<|At.jd ⟨v1,oi H1⟩ [] [_,_] R ⟨R,trivial⟩ ⟨R,(pl_ren R),R,(blk_ren R R),trivial⟩ R
 ·
  rintro ⟨_,rfl⟩
  show G _ _ [(5,.a (.c (.v (.int .i64 x1))))] [(1,some (plM 1 p1)),(0,some (blk 0 [.p 1 0,.v (.int .i64 rt0.index),.v (.int .i64 rt0.gen)] 144))] _ _
  exact G.seq<|G.rg<|K.mv R R<|K.as R R<|K.nil<|At.next<|G.ret<|At.dr Y [4] R R (by cases H0;rfl) (by cases H0;rfl) R R R
theorem Tree_RankM_con {k:Nat}  {p1:Pool (TNode TMark TSwell)} {rt0:TRef} {a1:TMark} {r:Int}  (H0:Tree_Rank.f opsM k p1 rt0 a1=some r) (m0 m1:Nat):Tree_RankM_st p1 rt0 a1 r m0 m1 :=
 SCon.ren (rn [(0,m0),(1,m1)]) (Tree_RankM_con0 (k:=k)   H0) ⟨(blk_ren R R),(pl_ren R),trivial⟩ ⟨(blk_ren R R),(pl_ren R),trivial⟩ (by simp) (by simp)
abbrev Tree_lastOfM_f14_st (g4:FuncId) (cv4:List Value) (Tc4:TypeId) (p1:Pool (TNode TMark TSwell)) (a1:TRef) (a2:Int) (a3:TSwell) (ri0:Int) (rg0:Int) (r:Int) (m0:Nat) (m1:Nat) (m2:Nat):Prop:=SCon Tryz.prog 139 [SV.p m0 0,.a (.agg ((eTRef a1).map .v)),.a (.c (.v (.int .i64 a2))),.a (.agg ((eTSwell a3).map .v)),.a (.c (.fn (.func g4) [m2]))] [(m0,blk m0 [.p m1 0,.i ri0,.i rg0] 144),(m1,plM m1 p1),(m2,vblk m2 cv4 Tc4)] (.a (.c (.v (.int .i64 r)))) [(m0,blk m0 [.p m1 0,.i ri0,.i rg0] 144),(m1,plM m1 p1),(m2,vblk m2 cv4 Tc4)] []
set_option maxHeartbeats 4000000 in
theorem Tree_lastOfM_f14_con0 {k:Nat} {g4:FuncId} {fn4:TSwell→TSwell→Option Bool} {cv4:List Value} {Tc4:TypeId} (cg4:fnB Tryz.prog g4=true) (hm4 : ∀ (c:Nat) {z0:TSwell} {z1:TSwell} {y:Bool},fn4 z0 z1=some y→SCon Tryz.prog g4 [.a (.agg ((eTSwell z0).map .v)),.a (.agg ((eTSwell z1).map .v)),SV.p c 0] [(c,vblk c cv4 Tc4)] (SV.b y) [(c,vblk c cv4 Tc4)] []) : ∀ {n:Nat} {p1:Pool (TNode TMark TSwell)} {a1:TRef} {a2:Int} {a3:TSwell} {ri0 rg0:Int} {r:Int}  (H0:Tree_lastOf.r opsM k n p1 a1 a2 a3 fn4=some r),Tree_lastOfM_f14_st g4 cv4 Tc4 p1 a1 a2 a3 ri0 rg0 r 0 1 2:=by
 intro n
 induction n with
 | zero => intro p1 a1 a2 a3 ri0 rg0 r H0; exact absurd H0 (by simp [Tree_lastOf.r])
 | succ n ih =>
  intro p1 a1 a2 a3 ri0 rg0 r H0
  rw [Tree_lastOf.r] at H0
  refine spec_of [(0,_),(1,_),(2,_),(3,_),(4,_)] [(0,_),(1,_),(2,_)] 93 Tryz.func139 R Tryz.ntmps139 R R R R (fun β W F=>?_)
  refine G.seq<|G.rg<|K.box Y 100 _ g0 R R R R R R<|K.box Y 101 _ g0 R R R R R R<|K.as R R<|K.nil<|At.ns ?_
  obtain ⟨x1,hx1,H0⟩:=bnd H0
  refine G.rg<|K.mv R R<|K.loadS Y _ g0 R R t119 R R R<|K.cR (cf 83 R) (Tree_getM_con hx1 0 1) g0 R R R R<|K.alloc Y 102 _ g0 t140 R R R R R<|K.store Y _ g0 R R R t140 R R R R R<|K.nil<|At.next ?_
  obtain ⟨x2,H1,H0⟩:=bnd H0
  refine G.sJ (σ:={ v:Unit // x2=Sum.inr v }) (fun q=>[(0,.a (.c (.p 0 0))),(2,.a (.c (.v (.int .i64 a2)))),(4,.a (.c (.fn (.func g4) [2]))),(8,.a (.c (.p 103 0))),(11,.a (.c (.p 104 0)))]) (fun q=>[(1,plM 1 p1),(0,blk 0 [.p 1 0,.v (.int .i64 ri0),.v (.int .i64 rg0)] 144),(2,vblk 2 cv4 Tc4),(103,blk 103 [.v (.int .i64 a3.count.n),.v (.int .i64 a3.count.sum),.v (.int .i64 a3.count.low),.v (.int .i64 a3.weight.n),.v (.int .i64 a3.weight.sum),.v (.int .i64 a3.weight.low),.v (.int .i64 a3.deletes),.v (.int .i64 a3.free),.v (.int .i64 a3.most.key),.v (.int .i64 a3.most.id),.v (.bool a3.gone.found),.v (.int .i64 a3.gone.item.key),.v (.int .i64 a3.gone.item.id),.v (.bool a3.least.found),.v (.int .i64 a3.least.item.key),.v (.int .i64 a3.least.item.id)] 105),(104,blk 104 [.v (.int .i64 x1.e.op.time),.v (.bool x1.e.op.insert),.v (.int .i64 x1.e.op.item.key),.v (.int .i64 x1.e.op.item.id),.v (.bool x1.e.here),.v (.bool x1.e.took.found),.v (.int .i64 x1.e.took.item.key),.v (.int .i64 x1.e.took.item.id),.v (.int .i64 x1.left.index),.v (.int .i64 x1.left.gen),.v (.int .i64 x1.right.index),.v (.int .i64 x1.right.gen),.v (.int .i64 x1.size),.v (.int .i64 x1.sum.count.n),.v (.int .i64 x1.sum.count.sum),.v (.int .i64 x1.sum.count.low),.v (.int .i64 x1.sum.weight.n),.v (.int .i64 x1.sum.weight.sum),.v (.int .i64 x1.sum.weight.low),.v (.int .i64 x1.sum.deletes),.v (.int .i64 x1.sum.free),.v (.int .i64 x1.sum.most.key),.v (.int .i64 x1.sum.most.id),.v (.bool x1.sum.gone.found),.v (.int .i64 x1.sum.gone.item.key),.v (.int .i64 x1.sum.gone.item.id),.v (.bool x1.sum.least.found),.v (.int .i64 x1.sum.least.item.key),.v (.int .i64 x1.sum.least.item.id)] 140)]) ?_ ?_
  ·
   refine G.seq ?_
   rcases Bool.eq_false_or_eq_true (x1.size == 0) with h1 | h1
   ·
    replace H1:=bif_t H1 h1
    refine G.rg<|K.fieldAddr Y g0 R t140 R R<|K.load1 Y g0 R R t3 R R<|K.bin (V:=.bool (x1.size == 0)) g0 R R (fun _=>R) R<|K.mv R R<|K.sk R R h1 R<|K.sk R R h1 R<|K.pickT g0 R (h1) R R<|K.mv R R<|K.sk R R R R<|K.sk R R R R<|K.sk R R R R<|K.sk R R R R<|K.sk R R R R<|K.skipU R R R R R<|K.skipU R R R R R<|K.skipU R R R R R<|K.skipU R R R R R<|K.skipU R R R R R<|K.skipU R R R R R<|K.sk R R R R<|K.pickT g0 R (R) R R<|K.nil<|At.next<|G.cond R (fun h2=>?_) (fun h2=>?_)
    ·
     refine G.seq<|G.rg<|K.as R R<|K.nil<|At.next<|G.ret<|At.over_ret ?_
     cases H1
     replace H0:=sum_l H0
     exact At.dr Y [10] R R (by cases H0;rfl) (by cases H0;rfl) R R R
    · cases h2
   ·
    replace H1:=bif_f H1 h1
    rcases Bool.eq_false_or_eq_true (decide (a2≤0)) with h3 | h3
    ·
     replace H1:=bif_t H1 h3
     refine G.rg<|K.fieldAddr Y g0 R t140 R R<|K.load1 Y g0 R R t3 R R<|K.bin (V:=.bool (x1.size == 0)) g0 R R (fun _=>R) R<|K.mv R R<|K.move (.inl R) (g1 R R h1) R R<|K.bin (V:=.bool (decide (a2≤0))) (g1 R R h1) R R (fun _=>R) R<|K.pickF g0 R (h1) R R<|K.mv R R<|K.sk R R h3 R<|K.sk R R h3 R<|K.sk R R h3 R<|K.sk R R h3 R<|K.sk R R h3 R<|K.skipU R R R R R<|K.skipU R R R R R<|K.skipU R R R R R<|K.skipU R R R R R<|K.skipU R R R R R<|K.skipU R R R R R<|K.sk R R h3 R<|K.pickT g0 R (h3) R R<|K.nil<|At.next<|G.cond R (fun h4=>?_) (fun h4=>?_)
     ·
      refine G.seq<|G.rg<|K.as R R<|K.nil<|At.next<|G.ret<|At.over_ret ?_
      cases H1
      replace H0:=sum_l H0
      exact At.dr Y [10] R R (by cases H0;rfl) (by cases H0;rfl) R R R
     · cases h4
    ·
     replace H1:=bif_f H1 h3
     rcases Bool.eq_false_or_eq_true (decide (a2≥x1.size)) with h5 | h5
     ·
      replace H1:=bif_t H1 h5
      obtain ⟨x3,hx3,H1⟩:=bnd H1
      refine G.rg<|K.fieldAddr Y g0 R t140 R R<|K.load1 Y g0 R R t3 R R<|K.bin (V:=.bool (x1.size == 0)) g0 R R (fun _=>R) R<|K.mv R R<|K.move (.inl R) (g1 R R h1) R R<|K.bin (V:=.bool (decide (a2≤0))) (g1 R R h1) R R (fun _=>R) R<|K.pickF g0 R (h1) R R<|K.mv R R<|K.move (.inl R) (g1 R R h3) R R<|K.fieldAddr Y (g1 R R h3) R t140 R R<|K.load1 Y (g1 R R h3) R R t3 R R<|K.bin (V:=.bool (decide (a2≥x1.size))) (g1 R R h3) R R (fun _=>R) R<|K.move (.inl R) (g1 R R h3) R R<|K.move (.inl R) (g1 R R h5) R R<|K.loadS Y _ (g1 R R h5) R R t105 R R R<|K.fieldAddr Y (g1 R R h5) R t140 R R<|K.loadS Y _ (g1 R R h5) R R t105 R R R<|K.callR [((.tmp 32),_),((.tmp 33),_),((.tmp 35),_)] (hm4 2 hx3) (toFn_val cg4 R) (g1 R R h5) ⟨R,R,R,trivial⟩ ⟨R,trivial⟩ R R R<|K.un (V:=.bool (!x3)) (g1 R R h5) R (fun _=>R) R<|K.pickT (g1 R R h3) R (h5) R R<|K.pickF g0 R (h3) R R<|K.nil<|At.next<|G.cond R (fun h6=>?_) (fun h6=>?_)
      ·
       replace H1:=bif_t H1 h6
       refine G.seq<|G.rg<|K.as R R<|K.nil<|At.next<|G.ret<|At.over_ret ?_
       cases H1
       replace H0:=sum_l H0
       exact At.dr Y [10] R R (by cases H0;rfl) (by cases H0;rfl) R R R
      ·
       replace H1:=bif_f H1 h6
       exact G.skip<|At.jd ⟨(),oi H1⟩ [(103,101),(104,102)] [_,_,_,_,_] R ⟨R,R,R,R,R,trivial⟩ ⟨R,(pl_ren R),R,(blk_ren R R),R,(vblk_ren R),R,(blk_ren R R),R,(blk_ren R R),trivial⟩ R
     ·
      replace H1:=bif_f H1 h5
      refine G.rg<|K.fieldAddr Y g0 R t140 R R<|K.load1 Y g0 R R t3 R R<|K.bin (V:=.bool (x1.size == 0)) g0 R R (fun _=>R) R<|K.mv R R<|K.move (.inl R) (g1 R R h1) R R<|K.bin (V:=.bool (decide (a2≤0))) (g1 R R h1) R R (fun _=>R) R<|K.pickF g0 R (h1) R R<|K.mv R R<|K.move (.inl R) (g1 R R h3) R R<|K.fieldAddr Y (g1 R R h3) R t140 R R<|K.load1 Y (g1 R R h3) R R t3 R R<|K.bin (V:=.bool (decide (a2≥x1.size))) (g1 R R h3) R R (fun _=>R) R<|K.move (.inl R) (g1 R R h3) R R<|K.sk R R h5 R<|K.sk R R h5 R<|K.sk R R h5 R<|K.sk R R h5 R<|K.sk R R h5 R<|K.sk R R h5 R<|K.pickF (g1 R R h3) R (h5) R R<|K.pickF g0 R (h3) R R<|K.nil<|At.next<|G.cond R (fun h7=>?_) (fun h7=>?_)
      · cases h7
      ·
       exact G.skip<|At.jd ⟨(),oi H1⟩ [(103,101),(104,102)] [_,_,_,_,_] R ⟨R,R,R,R,R,trivial⟩ ⟨R,(pl_ren R),R,(blk_ren R R),R,(vblk_ren R),R,(blk_ren R R),R,(blk_ren R R),trivial⟩ R
  ·
   rintro ⟨w2,rfl⟩
   replace H0:=sum_r H0
   show G _ _ [(0,.a (.c (.p 0 0))),(2,.a (.c (.v (.int .i64 a2)))),(4,.a (.c (.fn (.func g4) [2]))),(8,.a (.c (.p 103 0))),(11,.a (.c (.p 104 0)))] [(1,some (plM 1 p1)),(0,some (blk 0 [.p 1 0,.v (.int .i64 ri0),.v (.int .i64 rg0)] 144)),(2,some (vblk 2 cv4 Tc4)),(103,some (blk 103 [.v (.int .i64 a3.count.n),.v (.int .i64 a3.count.sum),.v (.int .i64 a3.count.low),.v (.int .i64 a3.weight.n),.v (.int .i64 a3.weight.sum),.v (.int .i64 a3.weight.low),.v (.int .i64 a3.deletes),.v (.int .i64 a3.free),.v (.int .i64 a3.most.key),.v (.int .i64 a3.most.id),.v (.bool a3.gone.found),.v (.int .i64 a3.gone.item.key),.v (.int .i64 a3.gone.item.id),.v (.bool a3.least.found),.v (.int .i64 a3.least.item.key),.v (.int .i64 a3.least.item.id)] 105)),(104,some (blk 104 [.v (.int .i64 x1.e.op.time),.v (.bool x1.e.op.insert),.v (.int .i64 x1.e.op.item.key),.v (.int .i64 x1.e.op.item.id),.v (.bool x1.e.here),.v (.bool x1.e.took.found),.v (.int .i64 x1.e.took.item.key),.v (.int .i64 x1.e.took.item.id),.v (.int .i64 x1.left.index),.v (.int .i64 x1.left.gen),.v (.int .i64 x1.right.index),.v (.int .i64 x1.right.gen),.v (.int .i64 x1.size),.v (.int .i64 x1.sum.count.n),.v (.int .i64 x1.sum.count.sum),.v (.int .i64 x1.sum.count.low),.v (.int .i64 x1.sum.weight.n),.v (.int .i64 x1.sum.weight.sum),.v (.int .i64 x1.sum.weight.low),.v (.int .i64 x1.sum.deletes),.v (.int .i64 x1.sum.free),.v (.int .i64 x1.sum.most.key),.v (.int .i64 x1.sum.most.id),.v (.bool x1.sum.gone.found),.v (.int .i64 x1.sum.gone.item.key),.v (.int .i64 x1.sum.gone.item.id),.v (.bool x1.sum.least.found),.v (.int .i64 x1.sum.least.item.key),.v (.int .i64 x1.sum.least.item.id)] 140))] _ _
   refine G.seq ?_
   obtain ⟨x4,hx4,H0⟩:=bnd H0
   refine G.rg<|K.mv R R<|K.fieldAddr Y g0 R t140 R R<|K.loadS Y _ g0 R R t119 R R R<|K.cR (cf 83 R) (Tree_getM_con hx4 0 1) g0 R R R R<|K.alloc Y 105 _ g0 t140 R R R R R<|K.store Y _ g0 R R R t140 R R R R R<|K.nil<|At.ns ?_
   obtain ⟨x5,hx5,H0⟩:=bnd H0
   obtain ⟨x6,hx6,H0⟩:=bnd H0
   refine G.rd mixed<|K.loadS Y _ g0 R R t105 R R R<|K.mkIface Y g0 R (mkI Tryz.underlying105 R) R<|K.fieldAddr Y g0 R t140 R R<|K.loadS Y _ g0 R R t105 R R R<|K.callR [((.tmp 45),_),((.tmp 47),_)] (wave_Swell_Plus_con (k:=k) hx5) (toFn_invoke (cf 211 R) (me105_211) R) g0 ⟨R,R,trivial⟩ trivial R R R<|K.fieldAddr Y g0 R t140 R R<|K.loadS Y _ g0 R R t101 R R R<|K.mkIface Y g0 R (mkI Tryz.underlying101 R) R<|K.callR [((.tmp 51),_)] (wave_Mark_Sum_con (k:=k) hx6) (toFn_invoke (cf 207 R) (me101_207) R) g0 ⟨R,trivial⟩ trivial R R R<|K.alloc Y 106 _ g0 t105 R R R R R<|K.alloc Y 107 _ g0 t105 R R R R R<|K.store Y _ g0 R R R t105 R R R R R<|K.store Y _ g0 R R R t105 R R R R R<|K.nil<|And.intro (by kernel_rfl)<|At.ns<|G.seq ?_
   obtain ⟨x7,hx7,H0⟩:=bnd H0
   obtain ⟨x8,hx8,H0⟩:=bnd H0
   refine G.rd mixed<|K.mv R R<|K.fieldAddr Y g0 R t140 R R<|K.loadS Y _ g0 R R t119 R R R<|K.mv R R<|K.fieldAddr Y g0 R t140 R R<|K.load1 Y g0 R R t3 R R<|K.bin (V:=.int .i64 (w64 (a2 - x4.size))) g0 R R (fun _=>R) R<|K.bin (V:=.int .i64 (w64 ((w64 (a2 - x4.size)) - 1))) g0 R R (fun _=>R) R<|K.loadS Y _ g0 R R t105 R R R<|K.mkIface Y g0 R (mkI Tryz.underlying105 R) R<|K.loadS Y _ g0 R R t105 R R R<|K.callR [((.tmp 62),_),((.tmp 63),_)] (wave_Swell_Plus_con (k:=k) hx7) (toFn_invoke (cf 211 R) (me105_211) R) g0 ⟨R,R,trivial⟩ trivial R R R<|K.mv R R<|K.cR (cf 139 R) (ih hx8) g0 R R R R<|K.as R R<|K.nil<|And.intro (by kernel_rfl)<|At.nr<|K.mv R R<|K.bin (V:=.bool (decide (x8≥0))) g0 R R (fun _=>R) R<|K.nil<|At.next<|G.cond R (fun h8=>?_) (fun h8=>?_)
   ·
    replace H0:=bif_t H0 h8
    exact G.seq<|G.rg<|K.mv R R<|K.fieldAddr Y g0 R t140 R R<|K.load1 Y g0 R R t3 R R<|K.bin (V:=.int .i64 (w64 (x8+x4.size))) g0 R R (fun _=>R) R<|K.bin (V:=.int .i64 (w64 ((w64 (x8+x4.size))+1))) g0 R R (fun _=>R) R<|K.as R R<|K.nil<|At.next<|G.ret<|At.over_ret<|At.dr Y [10] R R (by cases H0;rfl) (by cases H0;rfl) R R R
   ·
    replace H0:=bif_f H0 h8
    refine G.skip<|At.ns<|G.seq ?_
    rcases Bool.eq_false_or_eq_true (decide (a2>x4.size)) with h9 | h9
    ·
     replace H0:=bif_t H0 h9
     obtain ⟨x9,hx9,H0⟩:=bnd H0
     refine G.rg<|K.mv R R<|K.fieldAddr Y g0 R t140 R R<|K.load1 Y g0 R R t3 R R<|K.bin (V:=.bool (decide (a2>x4.size))) g0 R R (fun _=>R) R<|K.mv R R<|K.move (.inl R) (g1 R R h9) R R<|K.loadS Y _ (g1 R R h9) R R t105 R R R<|K.loadS Y _ (g1 R R h9) R R t105 R R R<|K.callR [((.tmp 79),_),((.tmp 80),_),((.tmp 81),_)] (hm4 2 hx9) (toFn_val cg4 R) (g1 R R h9) ⟨R,R,R,trivial⟩ ⟨R,trivial⟩ R R R<|K.pickT g0 R (h9) R R<|K.nil<|At.next<|G.cond R (fun h10=>?_) (fun h10=>?_)
     ·
      replace H0:=bif_t H0 h10
      exact G.seq<|G.rg<|K.fieldAddr Y g0 R t140 R R<|K.load1 Y g0 R R t3 R R<|K.as R R<|K.nil<|At.next<|G.ret<|At.over_ret<|At.dr Y [10] R R (by cases H0;rfl) (by cases H0;rfl) R R R
     ·
      replace H0:=bif_f H0 h10
      refine G.skip<|At.ns ?_
      obtain ⟨x10,hx10,H0⟩:=bnd H0
      exact G.rg<|K.mv R R<|K.fieldAddr Y g0 R t140 R R<|K.loadS Y _ g0 R R t119 R R R<|K.mv R R<|K.loadS Y _ g0 R R t105 R R R<|K.mv R R<|K.cR (cf 139 R) (ih hx10) g0 R R R R<|K.as R R<|K.nil<|At.next<|G.ret<|At.dr Y [10] R R (by cases H0;rfl) (by cases H0;rfl) R R R
    ·
     replace H0:=bif_f H0 h9
     refine G.rg<|K.mv R R<|K.fieldAddr Y g0 R t140 R R<|K.load1 Y g0 R R t3 R R<|K.bin (V:=.bool (decide (a2>x4.size))) g0 R R (fun _=>R) R<|K.mv R R<|K.sk R R h9 R<|K.sk R R h9 R<|K.sk R R h9 R<|K.sk R R h9 R<|K.pickF g0 R (h9) R R<|K.nil<|At.next<|G.cond R (fun h11=>?_) (fun h11=>?_)
     · cases h11
     ·
      refine G.skip<|At.ns ?_
      obtain ⟨x11,hx11,H0⟩:=bnd H0
      exact G.rg<|K.mv R R<|K.fieldAddr Y g0 R t140 R R<|K.loadS Y _ g0 R R t119 R R R<|K.mv R R<|K.loadS Y _ g0 R R t105 R R R<|K.mv R R<|K.cR (cf 139 R) (ih hx11) g0 R R R R<|K.as R R<|K.nil<|At.next<|G.ret<|At.dr Y [10] R R (by cases H0;rfl) (by cases H0;rfl) R R R
theorem Tree_lastOfM_f14_con {k n:Nat} {g4:FuncId} {fn4:TSwell→TSwell→Option Bool} {cv4:List Value} {Tc4:TypeId} (cg4:fnB Tryz.prog g4=true) (hm4 : ∀ (c:Nat) {z0:TSwell} {z1:TSwell} {y:Bool},fn4 z0 z1=some y→SCon Tryz.prog g4 [.a (.agg ((eTSwell z0).map .v)),.a (.agg ((eTSwell z1).map .v)),SV.p c 0] [(c,vblk c cv4 Tc4)] (SV.b y) [(c,vblk c cv4 Tc4)] []) {p1:Pool (TNode TMark TSwell)} {a1:TRef} {a2:Int} {a3:TSwell} {ri0 rg0:Int} {r:Int}  (H0:Tree_lastOf.r opsM k n p1 a1 a2 a3 fn4=some r) (m0 m1 m2:Nat):Tree_lastOfM_f14_st g4 cv4 Tc4 p1 a1 a2 a3 ri0 rg0 r m0 m1 m2 :=
 SCon.ren (rn [(0,m0),(1,m1),(2,m2)]) (Tree_lastOfM_f14_con0 (k:=k) cg4 hm4  H0) ⟨(blk_ren R R),(pl_ren R),(vblk_ren R),trivial⟩ ⟨(blk_ren R R),(pl_ren R),(vblk_ren R),trivial⟩ (by simp) (by simp)
abbrev Tree_LastM_f12_st (g2:FuncId) (cv2:List Value) (Tc2:TypeId) (p1:Pool (TNode TMark TSwell)) (rt0:TRef) (a1:Int) (r:Int) (m0:Nat) (m1:Nat) (m2:Nat):Prop:=SCon Tryz.prog 114 [SV.p m0 0,.a (.c (.v (.int .i64 a1))),.a (.c (.fn (.func g2) [m2]))] [(m0,blk m0 [.p m1 0,.i rt0.index,.i rt0.gen] 144),(m1,plM m1 p1),(m2,vblk m2 cv2 Tc2)] (.a (.c (.v (.int .i64 r)))) [(m0,blk m0 [.p m1 0,.i rt0.index,.i rt0.gen] 144),(m1,plM m1 p1),(m2,vblk m2 cv2 Tc2)] []
theorem Tree_LastM_f12_con0 {k:Nat} {g2:FuncId} {fn2:TSwell→TSwell→Option Bool} {cv2:List Value} {Tc2:TypeId} (cg2:fnB Tryz.prog g2=true) (hm2 : ∀ (c:Nat) {z0:TSwell} {z1:TSwell} {y:Bool},fn2 z0 z1=some y→SCon Tryz.prog g2 [.a (.agg ((eTSwell z0).map .v)),.a (.agg ((eTSwell z1).map .v)),SV.p c 0] [(c,vblk c cv2 Tc2)] (SV.b y) [(c,vblk c cv2 Tc2)] []) {p1:Pool (TNode TMark TSwell)} {rt0:TRef} {a1:Int} {r:Int}  (H0:Tree_Last.f opsM k p1 rt0 a1 fn2=some r):Tree_LastM_f12_st g2 cv2 Tc2 p1 rt0 a1 r 0 1 2:=by
 rw [Tree_Last.f] at H0
 refine spec_of [(0,_),(1,_),(2,_)] [(0,_),(1,_),(2,_)] 21 Tryz.func114 R Tryz.ntmps114 R R R R (fun β W F=>?_)
 refine G.seq<|G.rg<|K.as R R<|K.nil<|At.nr<|K.alloc Y 100 _ g0 t105 R R R R R<|K.nil<|At.ns ?_
 obtain ⟨x1,hx1,H0⟩:=bnd H0
 obtain ⟨x2,hx2,H0⟩:=bnd H0
 exact G.rd mixed<|K.mv R R<|K.mv R R<|K.nilCheck g0 R R<|K.fieldAddr Y g0 R t144 R R<|K.loadS Y _ g0 R R t119 R R R<|K.mv R R<|K.bi2 (V:=.int .i64 (gmax a1 0)) g0 R R (fun _ _=>R) R<|K.mv R R<|K.cR (cf 56 R) (Tree_LenM_con hx1 0 1) g0 R R R R<|K.bi2 (V:=.int .i64 (gmin (gmax a1 0) x1)) g0 R R (fun _ _=>R) R<|K.loadS Y _ g0 R R t105 R R R<|K.mv R R<|K.cR (cf 139 R) (Tree_lastOfM_f14_con cg2 hm2 hx2 0 1 2) g0 R R R R<|K.as R R<|K.nil<|And.intro (by kernel_rfl)<|At.next<|G.ret<|At.dr Y [6] R R (by cases H0;rfl) (by cases H0;rfl) R R R
theorem Tree_LastM_f12_con {k:Nat} {g2:FuncId} {fn2:TSwell→TSwell→Option Bool} {cv2:List Value} {Tc2:TypeId} (cg2:fnB Tryz.prog g2=true) (hm2 : ∀ (c:Nat) {z0:TSwell} {z1:TSwell} {y:Bool},fn2 z0 z1=some y→SCon Tryz.prog g2 [.a (.agg ((eTSwell z0).map .v)),.a (.agg ((eTSwell z1).map .v)),SV.p c 0] [(c,vblk c cv2 Tc2)] (SV.b y) [(c,vblk c cv2 Tc2)] []) {p1:Pool (TNode TMark TSwell)} {rt0:TRef} {a1:Int} {r:Int}  (H0:Tree_Last.f opsM k p1 rt0 a1 fn2=some r) (m0 m1 m2:Nat):Tree_LastM_f12_st g2 cv2 Tc2 p1 rt0 a1 r m0 m1 m2 :=
 SCon.ren (rn [(0,m0),(1,m1),(2,m2)]) (Tree_LastM_f12_con0 (k:=k) cg2 hm2  H0) ⟨(blk_ren R R),(pl_ren R),(vblk_ren R),trivial⟩ ⟨(blk_ren R R),(pl_ren R),(vblk_ren R),trivial⟩ (by simp) (by simp)
abbrev Tree_layM_st (p1:Pool (TNode TMark TSwell)) (a1:TRef) (a2:TRef) (a3:TRef) (ri0:Int) (rg0:Int) (r:TRef×Pool (TNode TMark TSwell)) (m0:Nat) (m1:Nat):Prop:=SCon Tryz.prog 143 [SV.p m0 0,.a (.agg ((eTRef a1).map .v)),.a (.agg ((eTRef a2).map .v)),.a (.agg ((eTRef a3).map .v))] [(m0,blk m0 [.p m1 0,.i ri0,.i rg0] 144),(m1,plM m1 p1)] (.a (.agg ((eTRef r.1).map .v))) [(m0,blk m0 [.p m1 0,.i ri0,.i rg0] 144),(m1,plM m1 r.2)] []
theorem Tree_layM_con0 {k:Nat}  {p1:Pool (TNode TMark TSwell)} {a1:TRef} {a2:TRef} {a3:TRef} {ri0 rg0:Int} {r:TRef×Pool (TNode TMark TSwell)}  (H0:Tree_lay.f opsM k p1 a1 a2 a3=some r):Tree_layM_st p1 a1 a2 a3 ri0 rg0 r 0 1:=by
 rw [Tree_lay.f] at H0
 refine spec_of [(0,_),(1,_),(2,_),(3,_)] [(0,_),(1,_)] 53 Tryz.func143 R Tryz.ntmps143 R R R R (fun β W F=>?_)
 refine G.seq<|G.rg<|K.box Y 100 _ g0 R R R R R R<|K.box Y 101 _ g0 R R R R R R<|K.box Y 102 _ g0 R R R R R R<|K.alloc Y 103 _ g0 t119 R R R R R<|K.nil<|At.ns ?_
 obtain ⟨x1,hx1,H0⟩:=bnd H0
 refine G.rg<|K.mv R R<|K.loadS Y _ g0 R R t119 R R R<|K.cR (cf 83 R) (Tree_getM_con hx1 0 1) g0 R R R R<|K.alloc Y 104 _ g0 t140 R R R R R<|K.store Y _ g0 R R R t140 R R R R R<|K.nil<|At.ns ?_
 obtain ⟨x2,hx2,H0⟩:=bnd H0
 obtain ⟨x3,hx3,H0⟩:=bnd H0
 refine G.rd mixed<|K.mv R R<|K.loadS Y _ g0 R R t119 R R R<|K.cR (cf 83 R) (Tree_getM_con hx2 0 1) g0 R R R R<|K.mv R R<|K.loadS Y _ g0 R R t119 R R R<|K.cR (cf 83 R) (Tree_getM_con hx3 0 1) g0 R R R R<|K.alloc Y 105 _ g0 t140 R R R R R<|K.alloc Y 106 _ g0 t140 R R R R R<|K.store Y _ g0 R R R t140 R R R R R<|K.store Y _ g0 R R R t140 R R R R R<|K.nil<|And.intro (by kernel_rfl)<|At.ns<|G.rd mixed<|K.loadS Y _ g0 R R t119 R R R<|K.loadS Y _ g0 R R t119 R R R<|K.fieldAddr Y g0 R t140 R R<|K.store Y _ g0 R R R t119 R R R R R<|K.fieldAddr Y g0 R t140 R R<|K.store Y _ g0 R R R t119 R R R R R<|K.nil<|And.intro (by kernel_rfl)<|At.nr<|K.fieldAddr Y g0 R t140 R R<|K.load1 Y g0 R R t3 R R<|K.bin (V:=.int .i64 (w64 (x2.size+1))) g0 R R (fun _=>R) R<|K.fieldAddr Y g0 R t140 R R<|K.load1 Y g0 R R t3 R R<|K.bin (V:=.int .i64 (w64 ((w64 (x2.size+1))+x3.size))) g0 R R (fun _=>R) R<|K.fieldAddr Y g0 R t140 R R<|K.store Y _ g0 R R R t3 R R R R R<|K.nil<|At.ns ?_
 obtain ⟨x4,hx4,H0⟩:=bnd H0
 obtain ⟨x5,hx5,H0⟩:=bnd H0
 obtain ⟨x6,hx6,H0⟩:=bnd H0
 refine G.rd mixed<|K.fieldAddr Y g0 R t140 R R<|K.loadS Y _ g0 R R t105 R R R<|K.mkIface Y g0 R (mkI Tryz.underlying105 R) R<|K.fieldAddr Y g0 R t140 R R<|K.loadS Y _ g0 R R t101 R R R<|K.mkIface Y g0 R (mkI Tryz.underlying101 R) R<|K.callR [((.tmp 37),_)] (wave_Mark_Sum_con (k:=k) hx4) (toFn_invoke (cf 207 R) (me101_207) R) g0 ⟨R,trivial⟩ trivial R R R<|K.callR [((.tmp 34),_),((.tmp 38),_)] (wave_Swell_Plus_con (k:=k) hx5) (toFn_invoke (cf 211 R) (me105_211) R) g0 ⟨R,R,trivial⟩ trivial R R R<|K.mkIface Y g0 R (mkI Tryz.underlying105 R) R<|K.fieldAddr Y g0 R t140 R R<|K.loadS Y _ g0 R R t105 R R R<|K.callR [((.tmp 40),_),((.tmp 42),_)] (wave_Swell_Plus_con (k:=k) hx6) (toFn_invoke (cf 211 R) (me105_211) R) g0 ⟨R,R,trivial⟩ trivial R R R<|K.fieldAddr Y g0 R t140 R R<|K.store Y _ g0 R R R t105 R R R R R<|K.nil<|And.intro (by kernel_rfl)<|At.ns ?_
 obtain ⟨x7,hx7,H0⟩:=bnd H0
 refine G.rd mixed<|K.mv R R<|K.nilCheck g0 R R<|K.fieldAddr Y g0 R t144 R R<|K.load1 Y g0 R R t142 R R<|K.loadS Y _ g0 R R t119 R R R<|K.loadS Y _ g0 R R t140 R R R<|K.call0 [(.func 164,_),((.tmp 48),_),((.tmp 49),_),((.tmp 50),_)] (plsetM hx7 1) (toFn_func (cf 164 R) R) g0 ⟨R,R,R,R,trivial⟩ ⟨R,trivial⟩ R R R R R R<|K.nil<|And.intro (by kernel_rfl)<|At.nr<|K.loadS Y _ g0 R R t119 R R R<|K.store Y _ g0 R R R t119 R R R R R<|K.nil<|At.next<|G.ret<|At.done Y [(.cell 8 119,.agg [_,_])] R ⟨.st R R t119 R R,trivial⟩ (to':=[(0,_),(1,_)]) ⟨R,R,trivial⟩ ?_ ?_ R R R (.inl R)
 · cases H0;rfl
 · cases H0;rfl
theorem Tree_layM_con {k:Nat}  {p1:Pool (TNode TMark TSwell)} {a1:TRef} {a2:TRef} {a3:TRef} {ri0 rg0:Int} {r:TRef×Pool (TNode TMark TSwell)}  (H0:Tree_lay.f opsM k p1 a1 a2 a3=some r) (m0 m1:Nat):Tree_layM_st p1 a1 a2 a3 ri0 rg0 r m0 m1 :=
 SCon.ren (rn [(0,m0),(1,m1)]) (Tree_layM_con0 (k:=k)   H0) ⟨(blk_ren R R),(pl_ren R),trivial⟩ ⟨(blk_ren R R),(pl_ren R),trivial⟩ (by simp) (by simp)
abbrev Tree_turnRightM_st (p1:Pool (TNode TMark TSwell)) (a1:TRef) (ri0:Int) (rg0:Int) (r:TRef×Pool (TNode TMark TSwell)) (m0:Nat) (m1:Nat):Prop:=SCon Tryz.prog 165 [SV.p m0 0,.a (.agg ((eTRef a1).map .v))] [(m0,blk m0 [.p m1 0,.i ri0,.i rg0] 144),(m1,plM m1 p1)] (.a (.agg ((eTRef r.1).map .v))) [(m0,blk m0 [.p m1 0,.i ri0,.i rg0] 144),(m1,plM m1 r.2)] []
theorem Tree_turnRightM_con0 {k:Nat}  {p1:Pool (TNode TMark TSwell)} {a1:TRef} {ri0 rg0:Int} {r:TRef×Pool (TNode TMark TSwell)}  (H0:Tree_turnRight.f opsM k p1 a1=some r):Tree_turnRightM_st p1 a1 ri0 rg0 r 0 1:=by
 rw [Tree_turnRight.f] at H0
 refine spec_of [(0,_),(1,_)] [(0,_),(1,_)] 28 Tryz.func165 R Tryz.ntmps165 R R R R (fun β W F=>?_)
 refine G.seq<|G.rg<|K.box Y 100 _ g0 R R R R R R<|K.alloc Y 101 _ g0 t119 R R R R R<|K.nil<|At.ns ?_
 obtain ⟨x1,hx1,H0⟩:=bnd H0
 refine G.rg<|K.mv R R<|K.loadS Y _ g0 R R t119 R R R<|K.cR (cf 83 R) (Tree_getM_con hx1 0 1) g0 R R R R<|K.alloc Y 102 _ g0 t140 R R R R R<|K.store Y _ g0 R R R t140 R R R R R<|K.nil<|At.ns ?_
 obtain ⟨x2,hx2,H0⟩:=bnd H0
 refine G.rg<|K.mv R R<|K.fieldAddr Y g0 R t140 R R<|K.loadS Y _ g0 R R t119 R R R<|K.cR (cf 83 R) (Tree_getM_con hx2 0 1) g0 R R R R<|K.alloc Y 103 _ g0 t140 R R R R R<|K.store Y _ g0 R R R t140 R R R R R<|K.nil<|At.ns ?_
 obtain ⟨x3,hx3,H0⟩:=bnd H0
 refine G.rg<|K.mv R R<|K.loadS Y _ g0 R R t119 R R R<|K.fieldAddr Y g0 R t140 R R<|K.loadS Y _ g0 R R t119 R R R<|K.fieldAddr Y g0 R t140 R R<|K.loadS Y _ g0 R R t119 R R R<|K.c0 (cf 143 R) (Tree_layM_con hx3 0 1) g0 R R R R<|K.nil<|At.ns ?_
 obtain ⟨x4,hx4,H0⟩:=bnd H0
 refine G.rg<|K.mv R R<|K.fieldAddr Y g0 R t140 R R<|K.loadS Y _ g0 R R t119 R R R<|K.fieldAddr Y g0 R t140 R R<|K.loadS Y _ g0 R R t119 R R R<|K.loadS Y _ g0 R R t119 R R R<|K.c0 (cf 143 R) (Tree_layM_con hx4 0 1) g0 R R R R<|K.store Y _ g0 R R R t119 R R R R R<|K.nil<|At.next<|G.ret<|At.done Y [(.cell 4 119,.agg [_,_])] R ⟨.st R R t119 R R,trivial⟩ (to':=[(0,_),(1,_)]) ⟨R,R,trivial⟩ ?_ ?_ R R R (.inl R)
 · cases H0;rfl
 · cases H0;rfl
theorem Tree_turnRightM_con {k:Nat}  {p1:Pool (TNode TMark TSwell)} {a1:TRef} {ri0 rg0:Int} {r:TRef×Pool (TNode TMark TSwell)}  (H0:Tree_turnRight.f opsM k p1 a1=some r) (m0 m1:Nat):Tree_turnRightM_st p1 a1 ri0 rg0 r m0 m1 :=
 SCon.ren (rn [(0,m0),(1,m1)]) (Tree_turnRightM_con0 (k:=k)   H0) ⟨(blk_ren R R),(pl_ren R),trivial⟩ ⟨(blk_ren R R),(pl_ren R),trivial⟩ (by simp) (by simp)
abbrev Tree_turnLeftM_st (p1:Pool (TNode TMark TSwell)) (a1:TRef) (ri0:Int) (rg0:Int) (r:TRef×Pool (TNode TMark TSwell)) (m0:Nat) (m1:Nat):Prop:=SCon Tryz.prog 166 [SV.p m0 0,.a (.agg ((eTRef a1).map .v))] [(m0,blk m0 [.p m1 0,.i ri0,.i rg0] 144),(m1,plM m1 p1)] (.a (.agg ((eTRef r.1).map .v))) [(m0,blk m0 [.p m1 0,.i ri0,.i rg0] 144),(m1,plM m1 r.2)] []
theorem Tree_turnLeftM_con0 {k:Nat}  {p1:Pool (TNode TMark TSwell)} {a1:TRef} {ri0 rg0:Int} {r:TRef×Pool (TNode TMark TSwell)}  (H0:Tree_turnLeft.f opsM k p1 a1=some r):Tree_turnLeftM_st p1 a1 ri0 rg0 r 0 1:=by
 rw [Tree_turnLeft.f] at H0
 refine spec_of [(0,_),(1,_)] [(0,_),(1,_)] 28 Tryz.func166 R Tryz.ntmps166 R R R R (fun β W F=>?_)
 refine G.seq<|G.rg<|K.box Y 100 _ g0 R R R R R R<|K.alloc Y 101 _ g0 t119 R R R R R<|K.nil<|At.ns ?_
 obtain ⟨x1,hx1,H0⟩:=bnd H0
 refine G.rg<|K.mv R R<|K.loadS Y _ g0 R R t119 R R R<|K.cR (cf 83 R) (Tree_getM_con hx1 0 1) g0 R R R R<|K.alloc Y 102 _ g0 t140 R R R R R<|K.store Y _ g0 R R R t140 R R R R R<|K.nil<|At.ns ?_
 obtain ⟨x2,hx2,H0⟩:=bnd H0
 refine G.rg<|K.mv R R<|K.fieldAddr Y g0 R t140 R R<|K.loadS Y _ g0 R R t119 R R R<|K.cR (cf 83 R) (Tree_getM_con hx2 0 1) g0 R R R R<|K.alloc Y 103 _ g0 t140 R R R R R<|K.store Y _ g0 R R R t140 R R R R R<|K.nil<|At.ns ?_
 obtain ⟨x3,hx3,H0⟩:=bnd H0
 refine G.rg<|K.mv R R<|K.loadS Y _ g0 R R t119 R R R<|K.fieldAddr Y g0 R t140 R R<|K.loadS Y _ g0 R R t119 R R R<|K.fieldAddr Y g0 R t140 R R<|K.loadS Y _ g0 R R t119 R R R<|K.c0 (cf 143 R) (Tree_layM_con hx3 0 1) g0 R R R R<|K.nil<|At.ns ?_
 obtain ⟨x4,hx4,H0⟩:=bnd H0
 refine G.rg<|K.mv R R<|K.fieldAddr Y g0 R t140 R R<|K.loadS Y _ g0 R R t119 R R R<|K.loadS Y _ g0 R R t119 R R R<|K.fieldAddr Y g0 R t140 R R<|K.loadS Y _ g0 R R t119 R R R<|K.c0 (cf 143 R) (Tree_layM_con hx4 0 1) g0 R R R R<|K.store Y _ g0 R R R t119 R R R R R<|K.nil<|At.next<|G.ret<|At.done Y [(.cell 4 119,.agg [_,_])] R ⟨.st R R t119 R R,trivial⟩ (to':=[(0,_),(1,_)]) ⟨R,R,trivial⟩ ?_ ?_ R R R (.inl R)
 · cases H0;rfl
 · cases H0;rfl
theorem Tree_turnLeftM_con {k:Nat}  {p1:Pool (TNode TMark TSwell)} {a1:TRef} {ri0 rg0:Int} {r:TRef×Pool (TNode TMark TSwell)}  (H0:Tree_turnLeft.f opsM k p1 a1=some r) (m0 m1:Nat):Tree_turnLeftM_st p1 a1 ri0 rg0 r m0 m1 :=
 SCon.ren (rn [(0,m0),(1,m1)]) (Tree_turnLeftM_con0 (k:=k)   H0) ⟨(blk_ren R R),(pl_ren R),trivial⟩ ⟨(blk_ren R R),(pl_ren R),trivial⟩ (by simp) (by simp)
abbrev Tree_balanceM_st (p1:Pool (TNode TMark TSwell)) (a1:TRef) (ri0:Int) (rg0:Int) (r:TRef×Pool (TNode TMark TSwell)) (m0:Nat) (m1:Nat):Prop:=SCon Tryz.prog 142 [SV.p m0 0,.a (.agg ((eTRef a1).map .v))] [(m0,blk m0 [.p m1 0,.i ri0,.i rg0] 144),(m1,plM m1 p1)] (.a (.agg ((eTRef r.1).map .v))) [(m0,blk m0 [.p m1 0,.i ri0,.i rg0] 144),(m1,plM m1 r.2)] []
theorem Tree_balanceM_con0 {k:Nat}  {p1:Pool (TNode TMark TSwell)} {a1:TRef} {ri0 rg0:Int} {r:TRef×Pool (TNode TMark TSwell)}  (H0:Tree_balance.f opsM k p1 a1=some r):Tree_balanceM_st p1 a1 ri0 rg0 r 0 1:=by
 rw [Tree_balance.f] at H0
 refine spec_of [(0,_),(1,_)] [(0,_),(1,_)] 84 Tryz.func142 R Tryz.ntmps142 R R R R (fun β W F=>?_)
 refine G.seq<|G.rg<|K.box Y 100 _ g0 R R R R R R<|K.alloc Y 101 _ g0 t119 R R R R R<|K.nil<|At.ns ?_
 obtain ⟨x1,hx1,H0⟩:=bnd H0
 refine G.rg<|K.mv R R<|K.loadS Y _ g0 R R t119 R R R<|K.cR (cf 83 R) (Tree_getM_con hx1 0 1) g0 R R R R<|K.alloc Y 102 _ g0 t140 R R R R R<|K.store Y _ g0 R R R t140 R R R R R<|K.nil<|At.ns ?_
 obtain ⟨x2,hx2,H0⟩:=bnd H0
 obtain ⟨x3,hx3,H0⟩:=bnd H0
 refine G.rd mixed<|K.mv R R<|K.fieldAddr Y g0 R t140 R R<|K.loadS Y _ g0 R R t119 R R R<|K.cR (cf 84 R) (Tree_weightM_con hx2 0 1) g0 R R R R<|K.mv R R<|K.fieldAddr Y g0 R t140 R R<|K.loadS Y _ g0 R R t119 R R R<|K.cR (cf 84 R) (Tree_weightM_con hx3 0 1) g0 R R R R<|K.as R R<|K.as R R<|K.nil<|And.intro (by kernel_rfl)<|At.ns<|G.block<|G.seq<|G.rg<|K.mv R R<|K.mv R R<|K.bin (V:=.int .i64 (w64 (3*x2))) g0 R R (fun _=>R) R<|K.bin (V:=.bool (decide (x3>(w64 (3*x2))))) g0 R R (fun _=>R) R<|K.as R R<|K.nil<|At.next<|G.cond R (fun h1=>?_) (fun h1=>?_)
 ·
  replace H0:=bif_t H0 h1
  refine G.seq ?_
  obtain ⟨x4,hx4,H0⟩:=bnd H0
  refine G.rg<|K.mv R R<|K.fieldAddr Y g0 R t140 R R<|K.loadS Y _ g0 R R t119 R R R<|K.cR (cf 83 R) (Tree_getM_con hx4 0 1) g0 R R R R<|K.alloc Y 103 _ g0 t140 R R R R R<|K.store Y _ g0 R R R t140 R R R R R<|K.nil<|At.ns<|G.seq ?_
  obtain ⟨x5,hx5,H0⟩:=bnd H0
  obtain ⟨x6,hx6,H0⟩:=bnd H0
  refine G.rd mixed<|K.mv R R<|K.fieldAddr Y g0 R t140 R R<|K.loadS Y _ g0 R R t119 R R R<|K.cR (cf 84 R) (Tree_weightM_con hx5 0 1) g0 R R R R<|K.mv R R<|K.fieldAddr Y g0 R t140 R R<|K.loadS Y _ g0 R R t119 R R R<|K.cR (cf 84 R) (Tree_weightM_con hx6 0 1) g0 R R R R<|K.bin (V:=.int .i64 (w64 (2*x6))) g0 R R (fun _=>R) R<|K.bin (V:=.bool (decide (x5≥(w64 (2*x6))))) g0 R R (fun _=>R) R<|K.nil<|And.intro (by kernel_rfl)<|At.next<|G.cond R (fun h2=>?_) (fun h2=>?_)
  ·
   replace H0:=bif_t H0 h2
   obtain ⟨x7,hx7,H0⟩:=bnd H0
   obtain ⟨x8,hx8,H0⟩:=bnd H0
   refine G.rd mixed<|K.mv R R<|K.loadS Y _ g0 R R t119 R R R<|K.fieldAddr Y g0 R t140 R R<|K.loadS Y _ g0 R R t119 R R R<|K.mv R R<|K.fieldAddr Y g0 R t140 R R<|K.loadS Y _ g0 R R t119 R R R<|K.c0 (cf 165 R) (Tree_turnRightM_con hx7 0 1) g0 R R R R<|K.c0 (cf 143 R) (Tree_layM_con hx8 0 1) g0 R R R R<|K.nil<|And.intro (by kernel_rfl)<|At.ns ?_
   obtain ⟨x9,hx9,H0⟩:=bnd H0
   refine G.rg<|K.mv R R<|K.loadS Y _ g0 R R t119 R R R<|K.c0 (cf 166 R) (Tree_turnLeftM_con hx9 0 1) g0 R R R R<|K.store Y _ g0 R R R t119 R R R R R<|K.nil<|At.next<|G.ret<|At.block_ret<|At.over_ret<|At.done Y [(.cell 4 119,.agg [_,_])] R ⟨.st R R t119 R R,trivial⟩ (to':=[(0,_),(1,_)]) ⟨R,R,trivial⟩ ?_ ?_ R R R (.inl R)
   · cases H0;rfl
   · cases H0;rfl
  ·
   replace H0:=bif_f H0 h2
   refine G.skip<|At.ns ?_
   obtain ⟨x10,hx10,H0⟩:=bnd H0
   refine G.rg<|K.mv R R<|K.loadS Y _ g0 R R t119 R R R<|K.c0 (cf 166 R) (Tree_turnLeftM_con hx10 0 1) g0 R R R R<|K.store Y _ g0 R R R t119 R R R R R<|K.nil<|At.next<|G.ret<|At.block_ret<|At.over_ret<|At.done Y [(.cell 4 119,.agg [_,_])] R ⟨.st R R t119 R R,trivial⟩ (to':=[(0,_),(1,_)]) ⟨R,R,trivial⟩ ?_ ?_ R R R (.inl R)
   · cases H0;rfl
   · cases H0;rfl
 ·
  replace H0:=bif_f H0 h1
  refine G.seq<|G.rg<|K.mv R R<|K.mv R R<|K.bin (V:=.int .i64 (w64 (3*x3))) g0 R R (fun _=>R) R<|K.bin (V:=.bool (decide (x2>(w64 (3*x3))))) g0 R R (fun _=>R) R<|K.as R R<|K.nil<|At.next<|G.cond R (fun h3=>?_) (fun h3=>?_)
  ·
   replace H0:=bif_t H0 h3
   refine G.seq ?_
   obtain ⟨x11,hx11,H0⟩:=bnd H0
   refine G.rg<|K.mv R R<|K.fieldAddr Y g0 R t140 R R<|K.loadS Y _ g0 R R t119 R R R<|K.cR (cf 83 R) (Tree_getM_con hx11 0 1) g0 R R R R<|K.alloc Y 104 _ g0 t140 R R R R R<|K.store Y _ g0 R R R t140 R R R R R<|K.nil<|At.ns<|G.seq ?_
   obtain ⟨x12,hx12,H0⟩:=bnd H0
   obtain ⟨x13,hx13,H0⟩:=bnd H0
   refine G.rd mixed<|K.mv R R<|K.fieldAddr Y g0 R t140 R R<|K.loadS Y _ g0 R R t119 R R R<|K.cR (cf 84 R) (Tree_weightM_con hx12 0 1) g0 R R R R<|K.mv R R<|K.fieldAddr Y g0 R t140 R R<|K.loadS Y _ g0 R R t119 R R R<|K.cR (cf 84 R) (Tree_weightM_con hx13 0 1) g0 R R R R<|K.bin (V:=.int .i64 (w64 (2*x13))) g0 R R (fun _=>R) R<|K.bin (V:=.bool (decide (x12≥(w64 (2*x13))))) g0 R R (fun _=>R) R<|K.nil<|And.intro (by kernel_rfl)<|At.next<|G.cond R (fun h4=>?_) (fun h4=>?_)
   ·
    replace H0:=bif_t H0 h4
    obtain ⟨x14,hx14,H0⟩:=bnd H0
    obtain ⟨x15,hx15,H0⟩:=bnd H0
    refine G.rd mixed<|K.mv R R<|K.loadS Y _ g0 R R t119 R R R<|K.mv R R<|K.fieldAddr Y g0 R t140 R R<|K.loadS Y _ g0 R R t119 R R R<|K.c0 (cf 166 R) (Tree_turnLeftM_con hx14 0 1) g0 R R R R<|K.fieldAddr Y g0 R t140 R R<|K.loadS Y _ g0 R R t119 R R R<|K.c0 (cf 143 R) (Tree_layM_con hx15 0 1) g0 R R R R<|K.nil<|And.intro (by kernel_rfl)<|At.ns ?_
    obtain ⟨x16,hx16,H0⟩:=bnd H0
    refine G.rg<|K.mv R R<|K.loadS Y _ g0 R R t119 R R R<|K.c0 (cf 165 R) (Tree_turnRightM_con hx16 0 1) g0 R R R R<|K.store Y _ g0 R R R t119 R R R R R<|K.nil<|At.next<|G.ret<|At.block_ret<|At.over_ret<|At.done Y [(.cell 4 119,.agg [_,_])] R ⟨.st R R t119 R R,trivial⟩ (to':=[(0,_),(1,_)]) ⟨R,R,trivial⟩ ?_ ?_ R R R (.inl R)
    · cases H0;rfl
    · cases H0;rfl
   ·
    replace H0:=bif_f H0 h4
    refine G.skip<|At.ns ?_
    obtain ⟨x17,hx17,H0⟩:=bnd H0
    refine G.rg<|K.mv R R<|K.loadS Y _ g0 R R t119 R R R<|K.c0 (cf 165 R) (Tree_turnRightM_con hx17 0 1) g0 R R R R<|K.store Y _ g0 R R R t119 R R R R R<|K.nil<|At.next<|G.ret<|At.block_ret<|At.over_ret<|At.done Y [(.cell 4 119,.agg [_,_])] R ⟨.st R R t119 R R,trivial⟩ (to':=[(0,_),(1,_)]) ⟨R,R,trivial⟩ ?_ ?_ R R R (.inl R)
    · cases H0;rfl
    · cases H0;rfl
  ·
   replace H0:=bif_f H0 h3
   refine G.skip<|At.block_normal<|At.nr<|K.loadS Y _ g0 R R t119 R R R<|K.store Y _ g0 R R R t119 R R R R R<|K.nil<|At.next<|G.ret<|At.done Y [(.cell 4 119,.agg [_,_])] R ⟨.st R R t119 R R,trivial⟩ (to':=[(0,_),(1,_)]) ⟨R,R,trivial⟩ ?_ ?_ R R R (.inl R)
   · cases H0;rfl
   · cases H0;rfl
theorem Tree_balanceM_con {k:Nat}  {p1:Pool (TNode TMark TSwell)} {a1:TRef} {ri0 rg0:Int} {r:TRef×Pool (TNode TMark TSwell)}  (H0:Tree_balance.f opsM k p1 a1=some r) (m0 m1:Nat):Tree_balanceM_st p1 a1 ri0 rg0 r m0 m1 :=
 SCon.ren (rn [(0,m0),(1,m1)]) (Tree_balanceM_con0 (k:=k)   H0) ⟨(blk_ren R R),(pl_ren R),trivial⟩ ⟨(blk_ren R R),(pl_ren R),trivial⟩ (by simp) (by simp)
abbrev Tree_linkM_st (p1:Pool (TNode TMark TSwell)) (a1:TRef) (a2:TRef) (a3:TRef) (ri0:Int) (rg0:Int) (r:TRef×Pool (TNode TMark TSwell)) (m0:Nat) (m1:Nat):Prop:=SCon Tryz.prog 118 [SV.p m0 0,.a (.agg ((eTRef a1).map .v)),.a (.agg ((eTRef a2).map .v)),.a (.agg ((eTRef a3).map .v))] [(m0,blk m0 [.p m1 0,.i ri0,.i rg0] 144),(m1,plM m1 p1)] (.a (.agg ((eTRef r.1).map .v))) [(m0,blk m0 [.p m1 0,.i ri0,.i rg0] 144),(m1,plM m1 r.2)] []
theorem Tree_linkM_con0 {k:Nat}  : ∀ {n:Nat} {p1:Pool (TNode TMark TSwell)} {a1:TRef} {a2:TRef} {a3:TRef} {ri0 rg0:Int} {r:TRef×Pool (TNode TMark TSwell)}  (H0:Tree_link.r opsM k n p1 a1 a2 a3=some r),Tree_linkM_st p1 a1 a2 a3 ri0 rg0 r 0 1:=by
 intro n
 induction n with
 | zero => intro p1 a1 a2 a3 ri0 rg0 r H0; exact absurd H0 (by simp [Tree_link.r])
 | succ n ih =>
  intro p1 a1 a2 a3 ri0 rg0 r H0
  rw [Tree_link.r] at H0
  refine spec_of [(0,_),(1,_),(2,_),(3,_)] [(0,_),(1,_)] 66 Tryz.func118 R Tryz.ntmps118 R R R R (fun β W F=>?_)
  refine G.seq<|G.rg<|K.box Y 100 _ g0 R R R R R R<|K.box Y 101 _ g0 R R R R R R<|K.box Y 102 _ g0 R R R R R R<|K.alloc Y 103 _ g0 t119 R R R R R<|K.nil<|At.ns ?_
  obtain ⟨x1,hx1,H0⟩:=bnd H0
  obtain ⟨x2,hx2,H0⟩:=bnd H0
  refine G.rd mixed<|K.mv R R<|K.loadS Y _ g0 R R t119 R R R<|K.cR (cf 84 R) (Tree_weightM_con hx1 0 1) g0 R R R R<|K.mv R R<|K.loadS Y _ g0 R R t119 R R R<|K.cR (cf 84 R) (Tree_weightM_con hx2 0 1) g0 R R R R<|K.as R R<|K.as R R<|K.nil<|And.intro (by kernel_rfl)<|At.ns<|G.block<|G.seq<|G.rg<|K.mv R R<|K.mv R R<|K.bin (V:=.int .i64 (w64 (3*x1))) g0 R R (fun _=>R) R<|K.bin (V:=.bool (decide (x2>(w64 (3*x1))))) g0 R R (fun _=>R) R<|K.as R R<|K.nil<|At.next<|G.cond R (fun h1=>?_) (fun h1=>?_)
  ·
   replace H0:=bif_t H0 h1
   refine G.seq ?_
   obtain ⟨x3,hx3,H0⟩:=bnd H0
   refine G.rg<|K.mv R R<|K.loadS Y _ g0 R R t119 R R R<|K.cR (cf 83 R) (Tree_getM_con hx3 0 1) g0 R R R R<|K.alloc Y 104 _ g0 t140 R R R R R<|K.store Y _ g0 R R R t140 R R R R R<|K.nil<|At.ns ?_
   obtain ⟨x4,hx4,H0⟩:=bnd H0
   obtain ⟨x5,hx5,H0⟩:=bnd H0
   obtain ⟨x6,hx6,H0⟩:=bnd H0
   refine G.rd mixed<|K.mv R R<|K.mv R R<|K.loadS Y _ g0 R R t119 R R R<|K.mv R R<|K.loadS Y _ g0 R R t119 R R R<|K.loadS Y _ g0 R R t119 R R R<|K.fieldAddr Y g0 R t140 R R<|K.loadS Y _ g0 R R t119 R R R<|K.c0 (cf 118 R) (ih hx4) g0 R R R R<|K.fieldAddr Y g0 R t140 R R<|K.loadS Y _ g0 R R t119 R R R<|K.c0 (cf 143 R) (Tree_layM_con hx5 0 1) g0 R R R R<|K.c0 (cf 142 R) (Tree_balanceM_con hx6 0 1) g0 R R R R<|K.store Y _ g0 R R R t119 R R R R R<|K.nil<|And.intro (by kernel_rfl)<|At.next<|G.ret<|At.block_ret<|At.over_ret<|At.done Y [(.cell 8 119,.agg [_,_])] R ⟨.st R R t119 R R,trivial⟩ (to':=[(0,_),(1,_)]) ⟨R,R,trivial⟩ ?_ ?_ R R R (.inl R)
   · cases H0;rfl
   · cases H0;rfl
  ·
   replace H0:=bif_f H0 h1
   refine G.seq<|G.rg<|K.mv R R<|K.mv R R<|K.bin (V:=.int .i64 (w64 (3*x2))) g0 R R (fun _=>R) R<|K.bin (V:=.bool (decide (x1>(w64 (3*x2))))) g0 R R (fun _=>R) R<|K.as R R<|K.nil<|At.next<|G.cond R (fun h2=>?_) (fun h2=>?_)
   ·
    replace H0:=bif_t H0 h2
    refine G.seq ?_
    obtain ⟨x7,hx7,H0⟩:=bnd H0
    refine G.rg<|K.mv R R<|K.loadS Y _ g0 R R t119 R R R<|K.cR (cf 83 R) (Tree_getM_con hx7 0 1) g0 R R R R<|K.alloc Y 105 _ g0 t140 R R R R R<|K.store Y _ g0 R R R t140 R R R R R<|K.nil<|At.ns ?_
    obtain ⟨x8,hx8,H0⟩:=bnd H0
    obtain ⟨x9,hx9,H0⟩:=bnd H0
    obtain ⟨x10,hx10,H0⟩:=bnd H0
    refine G.rd mixed<|K.mv R R<|K.mv R R<|K.loadS Y _ g0 R R t119 R R R<|K.fieldAddr Y g0 R t140 R R<|K.loadS Y _ g0 R R t119 R R R<|K.mv R R<|K.fieldAddr Y g0 R t140 R R<|K.loadS Y _ g0 R R t119 R R R<|K.loadS Y _ g0 R R t119 R R R<|K.loadS Y _ g0 R R t119 R R R<|K.c0 (cf 118 R) (ih hx8) g0 R R R R<|K.c0 (cf 143 R) (Tree_layM_con hx9 0 1) g0 R R R R<|K.c0 (cf 142 R) (Tree_balanceM_con hx10 0 1) g0 R R R R<|K.store Y _ g0 R R R t119 R R R R R<|K.nil<|And.intro (by kernel_rfl)<|At.next<|G.ret<|At.block_ret<|At.over_ret<|At.done Y [(.cell 8 119,.agg [_,_])] R ⟨.st R R t119 R R,trivial⟩ (to':=[(0,_),(1,_)]) ⟨R,R,trivial⟩ ?_ ?_ R R R (.inl R)
    · cases H0;rfl
    · cases H0;rfl
   ·
    replace H0:=bif_f H0 h2
    refine G.skip<|At.block_normal<|At.ns ?_
    obtain ⟨x11,hx11,H0⟩:=bnd H0
    refine G.rg<|K.mv R R<|K.loadS Y _ g0 R R t119 R R R<|K.loadS Y _ g0 R R t119 R R R<|K.loadS Y _ g0 R R t119 R R R<|K.c0 (cf 143 R) (Tree_layM_con hx11 0 1) g0 R R R R<|K.store Y _ g0 R R R t119 R R R R R<|K.nil<|At.next<|G.ret<|At.done Y [(.cell 8 119,.agg [_,_])] R ⟨.st R R t119 R R,trivial⟩ (to':=[(0,_),(1,_)]) ⟨R,R,trivial⟩ ?_ ?_ R R R (.inl R)
    · cases H0;rfl
    · cases H0;rfl
theorem Tree_linkM_con {k n:Nat}  {p1:Pool (TNode TMark TSwell)} {a1:TRef} {a2:TRef} {a3:TRef} {ri0 rg0:Int} {r:TRef×Pool (TNode TMark TSwell)}  (H0:Tree_link.r opsM k n p1 a1 a2 a3=some r) (m0 m1:Nat):Tree_linkM_st p1 a1 a2 a3 ri0 rg0 r m0 m1 :=
 SCon.ren (rn [(0,m0),(1,m1)]) (Tree_linkM_con0 (k:=k)   H0) ⟨(blk_ren R R),(pl_ren R),trivial⟩ ⟨(blk_ren R R),(pl_ren R),trivial⟩ (by simp) (by simp)
abbrev Tree_putM_st (p1:Pool (TNode TMark TSwell)) (a1:TRef) (a2:TMark) (ri0:Int) (rg0:Int) (r:TRef×Bool×Pool (TNode TMark TSwell)) (m0:Nat) (m1:Nat):Prop:=SCon Tryz.prog 137 [SV.p m0 0,.a (.agg ((eTRef a1).map .v)),.a (.agg ((eTMark a2).map .v))] [(m0,blk m0 [.p m1 0,.i ri0,.i rg0] 144),(m1,plM m1 p1)] (.tup [.agg ((eTRef r.1).map .v),.c (.v (.bool r.2.1))]) [(m0,blk m0 [.p m1 0,.i ri0,.i rg0] 144),(m1,plM m1 r.2.2)] []
set_option maxHeartbeats 4000000 in
theorem Tree_putM_con0 {k:Nat}  : ∀ {n:Nat} {p1:Pool (TNode TMark TSwell)} {a1:TRef} {a2:TMark} {ri0 rg0:Int} {r:TRef×Bool×Pool (TNode TMark TSwell)}  (H0:Tree_put.r opsM k n p1 a1 a2=some r),Tree_putM_st p1 a1 a2 ri0 rg0 r 0 1:=by
 intro n
 induction n with
 | zero => intro p1 a1 a2 ri0 rg0 r H0; exact absurd H0 (by simp [Tree_put.r])
 | succ n ih =>
  intro p1 a1 a2 ri0 rg0 r H0
  rw [Tree_put.r] at H0
  refine spec_of [(0,_),(1,_),(2,_)] [(0,_),(1,_)] 98 Tryz.func137 R Tryz.ntmps137 R R R R (fun β W F=>?_)
  refine G.seq<|G.rg<|K.box Y 100 _ g0 R R R R R R<|K.box Y 101 _ g0 R R R R R R<|K.alloc Y 102 _ g0 t119 R R R R R<|K.as R R<|K.nil<|At.ns<|G.seq<|G.rg<|K.fieldAddr Y g0 R t119 R R<|K.load1 Y g0 R R t3 R R<|K.bin (V:=.bool (a1.gen == 0)) g0 R R (fun _=>R) R<|K.nil<|At.next<|G.cond R (fun h1=>?_) (fun h1=>?_)
  ·
   replace H0:=bif_t H0 h1
   refine G.seq ?_
   obtain ⟨x1,hx1,H0⟩:=bnd H0
   obtain ⟨x2,hx2,H0⟩:=bnd H0
   refine G.rd mixed<|K.mv R R<|K.nilCheck g0 R R<|K.fieldAddr Y g0 R t144 R R<|K.load1 Y g0 R R t142 R R<|K.loadS Y _ g0 R R t101 R R R<|K.loadS Y _ g0 R R t101 R R R<|K.mkIface Y g0 R (mkI Tryz.underlying101 R) R<|K.callR [((.tmp 26),_)] (wave_Mark_Sum_con (k:=k) hx1) (toFn_invoke (cf 207 R) (me101_207) R) g0 ⟨R,trivial⟩ trivial R R R<|K.build Y [(0,_),(3,_),(4,_)] [_,_,_,_,_,_,_,_,_,_,_,_,_,_,_,_,_,_,_,_,_,_,_,_,_,_,_,_,_] [((.tmp 24),_),(_,_),((.tmp 27),_)] g0 (AllE.spec ⟨R,R,R,trivial⟩) R R t140 R R<|K.call0 [(.func 163,_),((.tmp 23),_),((.tmp 28),_)] (plputM hx2 1) (toFn_func (cf 163 R) R) g0 ⟨R,R,R,trivial⟩ ⟨R,trivial⟩ R R R R R R<|K.mv R R<|K.extract g0 R R R<|K.extract g0 R R R<|K.alloc Y 103 _ g0 t119 R R R R R<|K.store Y _ g0 R R R t119 R R R R R<|K.as R R<|K.nil<|And.intro (by kernel_rfl)<|At.nr<|K.loadS Y _ g0 R R t119 R R R<|K.mv R R<|K.store Y _ g0 R R R t119 R R R R R<|K.as R R<|K.nil<|At.next<|G.ret<|At.over_ret<|At.done Y [(.cell 6 119,.agg [_,_]),(.tmp 7,.c _)] R ⟨.st R R t119 R R,.tmp R,trivial⟩ (to':=[(0,_),(1,_)]) ⟨R,R,trivial⟩ ?_ ?_ R R R (.inl R)
   · cases H0;rfl
   · cases H0;rfl
  ·
   replace H0:=bif_f H0 h1
   refine G.skip<|At.ns ?_
   obtain ⟨x3,hx3,H0⟩:=bnd H0
   refine G.rg<|K.mv R R<|K.loadS Y _ g0 R R t119 R R R<|K.cR (cf 83 R) (Tree_getM_con hx3 0 1) g0 R R R R<|K.alloc Y 104 _ g0 t140 R R R R R<|K.store Y _ g0 R R R t140 R R R R R<|K.nil<|At.ns ?_
   obtain ⟨x4,hx4,H0⟩:=bnd H0
   refine G.rg<|K.loadS Y _ g0 R R t101 R R R<|K.mkIface Y g0 R (mkI Tryz.underlying101 R) R<|K.fieldAddr Y g0 R t140 R R<|K.loadS Y _ g0 R R t101 R R R<|K.callR [((.tmp 38),_),((.tmp 40),_)] (wave_Mark_Compare_con (k:=k) hx4) (toFn_invoke (cf 206 R) (me101_206) R) g0 ⟨R,R,trivial⟩ trivial R R R<|K.as R R<|K.nil<|At.ns<|G.block<|G.seq<|G.rg<|K.mv R R<|K.bin (V:=.bool (decide (x4<0))) g0 R R (fun _=>R) R<|K.as R R<|K.nil<|At.next<|G.cond R (fun h2=>?_) (fun h2=>?_)
   ·
    replace H0:=bif_t H0 h2
    refine G.seq ?_
    obtain ⟨x5,hx5,H0⟩:=bnd H0
    refine G.rg<|K.mv R R<|K.fieldAddr Y g0 R t140 R R<|K.loadS Y _ g0 R R t119 R R R<|K.loadS Y _ g0 R R t101 R R R<|K.c0 (cf 137 R) (ih hx5) g0 R R R R<|K.mv R R<|K.extract g0 R R R<|K.extract g0 R R R<|K.alloc Y 105 _ g0 t119 R R R R R<|K.store Y _ g0 R R R t119 R R R R R<|K.as R R<|K.nil<|At.ns<|G.seq<|G.rg<|K.mv R R<|K.un (V:=.bool (!x5.2.1)) g0 R (fun _=>R) R<|K.nil<|At.next<|G.cond R (fun h3=>?_) (fun h3=>?_)
    ·
     replace H0:=bif_t H0 h3
     refine G.seq<|G.rg<|K.loadS Y _ g0 R R t119 R R R<|K.store Y _ g0 R R R t119 R R R R R<|K.as R R<|K.nil<|At.next<|G.ret<|At.over_ret<|At.block_ret<|At.over_ret<|At.done Y [(.cell 6 119,.agg [_,_]),(.tmp 7,.c _)] R ⟨.st R R t119 R R,.tmp R,trivial⟩ (to':=[(0,_),(1,_)]) ⟨R,R,trivial⟩ ?_ ?_ R R R (.inl R)
     · cases H0;rfl
     · cases H0;rfl
    ·
     replace H0:=bif_f H0 h3
     refine G.skip<|At.ns ?_
     obtain ⟨x6,hx6,H0⟩:=bnd H0
     refine G.rg<|K.mv R R<|K.loadS Y _ g0 R R t119 R R R<|K.loadS Y _ g0 R R t119 R R R<|K.fieldAddr Y g0 R t140 R R<|K.loadS Y _ g0 R R t119 R R R<|K.c0 (cf 118 R) (Tree_linkM_con hx6 0 1) g0 R R R R<|K.store Y _ g0 R R R t119 R R R R R<|K.as R R<|K.nil<|At.next<|G.ret<|At.block_ret<|At.over_ret<|At.done Y [(.cell 6 119,.agg [_,_]),(.tmp 7,.c _)] R ⟨.st R R t119 R R,.tmp R,trivial⟩ (to':=[(0,_),(1,_)]) ⟨R,R,trivial⟩ ?_ ?_ R R R (.inl R)
     · cases H0;rfl
     · cases H0;rfl
   ·
    replace H0:=bif_f H0 h2
    refine G.seq<|G.rg<|K.mv R R<|K.bin (V:=.bool (decide (x4>0))) g0 R R (fun _=>R) R<|K.as R R<|K.nil<|At.next<|G.cond R (fun h4=>?_) (fun h4=>?_)
    ·
     replace H0:=bif_t H0 h4
     refine G.seq ?_
     obtain ⟨x7,hx7,H0⟩:=bnd H0
     refine G.rg<|K.mv R R<|K.fieldAddr Y g0 R t140 R R<|K.loadS Y _ g0 R R t119 R R R<|K.loadS Y _ g0 R R t101 R R R<|K.c0 (cf 137 R) (ih hx7) g0 R R R R<|K.mv R R<|K.extract g0 R R R<|K.extract g0 R R R<|K.alloc Y 106 _ g0 t119 R R R R R<|K.store Y _ g0 R R R t119 R R R R R<|K.as R R<|K.nil<|At.ns<|G.seq<|G.rg<|K.mv R R<|K.un (V:=.bool (!x7.2.1)) g0 R (fun _=>R) R<|K.nil<|At.next<|G.cond R (fun h5=>?_) (fun h5=>?_)
     ·
      replace H0:=bif_t H0 h5
      refine G.seq<|G.rg<|K.loadS Y _ g0 R R t119 R R R<|K.store Y _ g0 R R R t119 R R R R R<|K.as R R<|K.nil<|At.next<|G.ret<|At.over_ret<|At.block_ret<|At.over_ret<|At.done Y [(.cell 6 119,.agg [_,_]),(.tmp 7,.c _)] R ⟨.st R R t119 R R,.tmp R,trivial⟩ (to':=[(0,_),(1,_)]) ⟨R,R,trivial⟩ ?_ ?_ R R R (.inl R)
      · cases H0;rfl
      · cases H0;rfl
     ·
      replace H0:=bif_f H0 h5
      refine G.skip<|At.ns ?_
      obtain ⟨x8,hx8,H0⟩:=bnd H0
      refine G.rg<|K.mv R R<|K.fieldAddr Y g0 R t140 R R<|K.loadS Y _ g0 R R t119 R R R<|K.loadS Y _ g0 R R t119 R R R<|K.loadS Y _ g0 R R t119 R R R<|K.c0 (cf 118 R) (Tree_linkM_con hx8 0 1) g0 R R R R<|K.store Y _ g0 R R R t119 R R R R R<|K.as R R<|K.nil<|At.next<|G.ret<|At.block_ret<|At.over_ret<|At.done Y [(.cell 6 119,.agg [_,_]),(.tmp 7,.c _)] R ⟨.st R R t119 R R,.tmp R,trivial⟩ (to':=[(0,_),(1,_)]) ⟨R,R,trivial⟩ ?_ ?_ R R R (.inl R)
      · cases H0;rfl
      · cases H0;rfl
    ·
     replace H0:=bif_f H0 h4
     refine G.skip<|At.block_normal<|At.nr<|K.loadS Y _ g0 R R t101 R R R<|K.fieldAddr Y g0 R t140 R R<|K.store Y _ g0 R R R t101 R R R R R<|K.nil<|At.ns ?_
     obtain ⟨x9,hx9,H0⟩:=bnd H0
     refine G.rd mixed<|K.mv R R<|K.nilCheck g0 R R<|K.fieldAddr Y g0 R t144 R R<|K.load1 Y g0 R R t142 R R<|K.loadS Y _ g0 R R t119 R R R<|K.loadS Y _ g0 R R t140 R R R<|K.call0 [(.func 164,_),((.tmp 87),_),((.tmp 88),_),((.tmp 89),_)] (plsetM hx9 1) (toFn_func (cf 164 R) R) g0 ⟨R,R,R,R,trivial⟩ ⟨R,trivial⟩ R R R R R R<|K.nil<|And.intro (by kernel_rfl)<|At.ns ?_
     obtain ⟨x10,hx10,H0⟩:=bnd H0
     refine G.rg<|K.mv R R<|K.loadS Y _ g0 R R t119 R R R<|K.fieldAddr Y g0 R t140 R R<|K.loadS Y _ g0 R R t119 R R R<|K.fieldAddr Y g0 R t140 R R<|K.loadS Y _ g0 R R t119 R R R<|K.c0 (cf 143 R) (Tree_layM_con hx10 0 1) g0 R R R R<|K.store Y _ g0 R R R t119 R R R R R<|K.as R R<|K.nil<|At.next<|G.ret<|At.done Y [(.cell 6 119,.agg [_,_]),(.tmp 7,.c _)] R ⟨.st R R t119 R R,.tmp R,trivial⟩ (to':=[(0,_),(1,_)]) ⟨R,R,trivial⟩ ?_ ?_ R R R (.inl R)
     · cases H0;rfl
     · cases H0;rfl
theorem Tree_putM_con {k n:Nat}  {p1:Pool (TNode TMark TSwell)} {a1:TRef} {a2:TMark} {ri0 rg0:Int} {r:TRef×Bool×Pool (TNode TMark TSwell)}  (H0:Tree_put.r opsM k n p1 a1 a2=some r) (m0 m1:Nat):Tree_putM_st p1 a1 a2 ri0 rg0 r m0 m1 :=
 SCon.ren (rn [(0,m0),(1,m1)]) (Tree_putM_con0 (k:=k)   H0) ⟨(blk_ren R R),(pl_ren R),trivial⟩ ⟨(blk_ren R R),(pl_ren R),trivial⟩ (by simp) (by simp)
abbrev Tree_PutM_st (p1:Pool (TNode TMark TSwell)) (rt0:TRef) (a1:TMark) (r:Bool×TRef×Pool (TNode TMark TSwell)) (m0:Nat) (m1:Nat):Prop:=SCon Tryz.prog 112 [SV.p m0 0,.a (.agg ((eTMark a1).map .v))] [(m0,blk m0 [.p m1 0,.i rt0.index,.i rt0.gen] 144),(m1,plM m1 p1)] (.a (.c (.v (.bool r.1)))) [(m0,blk m0 [.p m1 0,.i r.2.1.index,.i r.2.1.gen] 144),(m1,plM m1 r.2.2)] []
theorem Tree_PutM_con0 {k:Nat}  {p1:Pool (TNode TMark TSwell)} {rt0:TRef} {a1:TMark} {r:Bool×TRef×Pool (TNode TMark TSwell)}  (H0:Tree_Put.f opsM k p1 rt0 a1=some r):Tree_PutM_st p1 rt0 a1 r 0 1:=by
 rw [Tree_Put.f] at H0
 refine spec_of [(0,_),(1,_)] [(0,_),(1,_)] 23 Tryz.func112 R Tryz.ntmps112 R R R R (fun β W F=>?_)
 refine G.seq<|G.rg<|K.box Y 100 _ g0 R R R R R R<|K.as R R<|K.nil<|At.ns ?_
 obtain ⟨x1,hx1,H0⟩:=bnd H0
 refine G.rd mixed<|K.mv R R<|K.mv R R<|K.nilCheck g0 R R<|K.fieldAddr Y g0 R t144 R R<|K.loadS Y _ g0 R R t119 R R R<|K.loadS Y _ g0 R R t101 R R R<|K.c0 (cf 137 R) (Tree_putM_con hx1 0 1) g0 R R R R<|K.mv R R<|K.extract g0 R R R<|K.extract g0 R R R<|K.alloc Y 101 _ g0 t119 R R R R R<|K.store Y _ g0 R R R t119 R R R R R<|K.as R R<|K.nil<|And.intro (by kernel_rfl)<|At.ns<|G.seq<|G.rg<|K.mv R R<|K.nil<|At.next<|G.cond R (fun h1=>?_) (fun h1=>?_)
 ·
  replace H0:=bif_t H0 h1
  exact G.rg<|K.mv R R<|K.loadS Y _ g0 R R t119 R R R<|K.nilCheck g0 R R<|K.fieldAddr Y g0 R t144 R R<|K.store Y _ g0 R R R t119 R R R R R<|K.nil<|At.nr<|K.mv R R<|K.as R R<|K.nil<|At.next<|G.ret<|At.dr Y [4] R R (by cases H0;rfl) (by cases H0;rfl) R R R
 ·
  replace H0:=bif_f H0 h1
  exact G.skip<|At.nr<|K.mv R R<|K.as R R<|K.nil<|At.next<|G.ret<|At.dr Y [4] R R (by cases H0;rfl) (by cases H0;rfl) R R R
theorem Tree_PutM_con {k:Nat}  {p1:Pool (TNode TMark TSwell)} {rt0:TRef} {a1:TMark} {r:Bool×TRef×Pool (TNode TMark TSwell)}  (H0:Tree_Put.f opsM k p1 rt0 a1=some r) (m0 m1:Nat):Tree_PutM_st p1 rt0 a1 r m0 m1 :=
 SCon.ren (rn [(0,m0),(1,m1)]) (Tree_PutM_con0 (k:=k)   H0) ⟨(blk_ren R R),(pl_ren R),trivial⟩ ⟨(blk_ren R R),(pl_ren R),trivial⟩ (by simp) (by simp)
abbrev Tree_betweenM_st (p1:Pool (TNode TMark TSwell)) (a1:TRef) (a2:Int) (a3:Int) (ri0:Int) (rg0:Int) (r:TSwell) (m0:Nat) (m1:Nat):Prop:=SCon Tryz.prog 141 [SV.p m0 0,.a (.agg ((eTRef a1).map .v)),.a (.c (.v (.int .i64 a2))),.a (.c (.v (.int .i64 a3)))] [(m0,blk m0 [.p m1 0,.i ri0,.i rg0] 144),(m1,plM m1 p1)] (.a (.agg ((eTSwell r).map .v))) [(m0,blk m0 [.p m1 0,.i ri0,.i rg0] 144),(m1,plM m1 p1)] []
set_option maxHeartbeats 4000000 in
theorem Tree_betweenM_con0 {k:Nat}  : ∀ {n:Nat} {p1:Pool (TNode TMark TSwell)} {a1:TRef} {a2:Int} {a3:Int} {ri0 rg0:Int} {r:TSwell}  (H0:Tree_between.r opsM k n p1 a1 a2 a3=some r),Tree_betweenM_st p1 a1 a2 a3 ri0 rg0 r 0 1:=by
 intro n
 induction n with
 | zero => intro p1 a1 a2 a3 ri0 rg0 r H0; exact absurd H0 (by simp [Tree_between.r])
 | succ n ih =>
  intro p1 a1 a2 a3 ri0 rg0 r H0
  rw [Tree_between.r] at H0
  refine spec_of [(0,_),(1,_),(2,_),(3,_)] [(0,_),(1,_)] 85 Tryz.func141 R Tryz.ntmps141 R R R R (fun β W F=>?_)
  refine G.seq<|G.rg<|K.box Y 100 _ g0 R R R R R R<|K.alloc Y 101 _ g0 t105 R R R R R<|K.nil<|At.ns ?_
  obtain ⟨x1,hx1,H0⟩:=bnd H0
  refine G.rg<|K.mv R R<|K.loadS Y _ g0 R R t119 R R R<|K.cR (cf 83 R) (Tree_getM_con hx1 0 1) g0 R R R R<|K.alloc Y 102 _ g0 t140 R R R R R<|K.store Y _ g0 R R R t140 R R R R R<|K.nil<|At.nr<|K.alloc Y 103 _ g0 t105 R R R R R<|K.nil<|At.next ?_
  obtain ⟨x2,H1,H0⟩:=bnd H0
  refine G.sJ (σ:={ v:Unit // x2=Sum.inr v }) (fun q=>[(0,.a (.c (.p 0 0))),(2,.a (.c (.v (.int .i64 a2)))),(3,.a (.c (.v (.int .i64 a3)))),(8,.a (.c (.p 104 0))),(9,.a (.c (.p 105 0))),(10,.a (.c (.p 106 0)))]) (fun q=>[(1,plM 1 p1),(0,blk 0 [.p 1 0,.v (.int .i64 ri0),.v (.int .i64 rg0)] 144),(104,blk 104 [.v (.int .i64 0),.v (.int .i64 0),.v (.int .i64 0),.v (.int .i64 0),.v (.int .i64 0),.v (.int .i64 0),.v (.int .i64 0),.v (.int .i64 0),.v (.int .i64 0),.v (.int .i64 0),.v (.bool false),.v (.int .i64 0),.v (.int .i64 0),.v (.bool false),.v (.int .i64 0),.v (.int .i64 0)] 105),(105,blk 105 [.v (.int .i64 x1.e.op.time),.v (.bool x1.e.op.insert),.v (.int .i64 x1.e.op.item.key),.v (.int .i64 x1.e.op.item.id),.v (.bool x1.e.here),.v (.bool x1.e.took.found),.v (.int .i64 x1.e.took.item.key),.v (.int .i64 x1.e.took.item.id),.v (.int .i64 x1.left.index),.v (.int .i64 x1.left.gen),.v (.int .i64 x1.right.index),.v (.int .i64 x1.right.gen),.v (.int .i64 x1.size),.v (.int .i64 x1.sum.count.n),.v (.int .i64 x1.sum.count.sum),.v (.int .i64 x1.sum.count.low),.v (.int .i64 x1.sum.weight.n),.v (.int .i64 x1.sum.weight.sum),.v (.int .i64 x1.sum.weight.low),.v (.int .i64 x1.sum.deletes),.v (.int .i64 x1.sum.free),.v (.int .i64 x1.sum.most.key),.v (.int .i64 x1.sum.most.id),.v (.bool x1.sum.gone.found),.v (.int .i64 x1.sum.gone.item.key),.v (.int .i64 x1.sum.gone.item.id),.v (.bool x1.sum.least.found),.v (.int .i64 x1.sum.least.item.key),.v (.int .i64 x1.sum.least.item.id)] 140),(106,blk 106 [.v (.int .i64 0),.v (.int .i64 0),.v (.int .i64 0),.v (.int .i64 0),.v (.int .i64 0),.v (.int .i64 0),.v (.int .i64 0),.v (.int .i64 0),.v (.int .i64 0),.v (.int .i64 0),.v (.bool false),.v (.int .i64 0),.v (.int .i64 0),.v (.bool false),.v (.int .i64 0),.v (.int .i64 0)] 105)]) ?_ ?_
  ·
   refine G.seq ?_
   rcases Bool.eq_false_or_eq_true (decide (a2≥a3)) with h1 | h1
   ·
    replace H1:=bif_t H1 h1
    refine G.rg<|K.mv R R<|K.mv R R<|K.bin (V:=.bool (decide (a2≥a3))) g0 R R (fun _=>R) R<|K.mv R R<|K.sk R R h1 R<|K.sk R R h1 R<|K.sk R R h1 R<|K.sk R R h1 R<|K.pickT g0 R (h1) R R<|K.mv R R<|K.sk R R R R<|K.sk R R R R<|K.pickT g0 R (R) R R<|K.mv R R<|K.sk R R R R<|K.sk R R R R<|K.sk R R R R<|K.pickT g0 R (R) R R<|K.nil<|At.next<|G.cond R (fun h2=>?_) (fun h2=>?_)
    ·
     refine G.seq<|G.rg<|K.loadS Y _ g0 R R t105 R R R<|K.store Y _ g0 R R R t105 R R R R R<|K.nil<|At.next<|G.ret<|At.over_ret ?_
     cases H1
     replace H0:=sum_l H0
     refine At.done Y [(.cell 8 105,.agg [_,_,_,_,_,_,_,_,_,_,_,_,_,_,_,_])] R ⟨.st R R t105 R R,trivial⟩ (to':=[(0,_),(1,_)]) ⟨R,R,trivial⟩ ?_ ?_ R R R (.inl R)
     · cases H0;rfl
     · cases H0;rfl
    · cases h2
   ·
    replace H1:=bif_f H1 h1
    rcases Bool.eq_false_or_eq_true (decide (a2≥x1.size)) with h3 | h3
    ·
     replace H1:=bif_t H1 h3
     refine G.rg<|K.mv R R<|K.mv R R<|K.bin (V:=.bool (decide (a2≥a3))) g0 R R (fun _=>R) R<|K.mv R R<|K.move (.inl R) (g1 R R h1) R R<|K.fieldAddr Y (g1 R R h1) R t140 R R<|K.load1 Y (g1 R R h1) R R t3 R R<|K.bin (V:=.bool (decide (a2≥x1.size))) (g1 R R h1) R R (fun _=>R) R<|K.pickF g0 R (h1) R R<|K.mv R R<|K.sk R R h3 R<|K.sk R R h3 R<|K.pickT g0 R (h3) R R<|K.mv R R<|K.sk R R R R<|K.sk R R R R<|K.sk R R R R<|K.pickT g0 R (R) R R<|K.nil<|At.next<|G.cond R (fun h4=>?_) (fun h4=>?_)
     ·
      refine G.seq<|G.rg<|K.loadS Y _ g0 R R t105 R R R<|K.store Y _ g0 R R R t105 R R R R R<|K.nil<|At.next<|G.ret<|At.over_ret ?_
      cases H1
      replace H0:=sum_l H0
      refine At.done Y [(.cell 8 105,.agg [_,_,_,_,_,_,_,_,_,_,_,_,_,_,_,_])] R ⟨.st R R t105 R R,trivial⟩ (to':=[(0,_),(1,_)]) ⟨R,R,trivial⟩ ?_ ?_ R R R (.inl R)
      · cases H0;rfl
      · cases H0;rfl
     · cases h4
    ·
     replace H1:=bif_f H1 h3
     rcases Bool.eq_false_or_eq_true (decide (a3≤0)) with h5 | h5
     ·
      replace H1:=bif_t H1 h5
      refine G.rg<|K.mv R R<|K.mv R R<|K.bin (V:=.bool (decide (a2≥a3))) g0 R R (fun _=>R) R<|K.mv R R<|K.move (.inl R) (g1 R R h1) R R<|K.fieldAddr Y (g1 R R h1) R t140 R R<|K.load1 Y (g1 R R h1) R R t3 R R<|K.bin (V:=.bool (decide (a2≥x1.size))) (g1 R R h1) R R (fun _=>R) R<|K.pickF g0 R (h1) R R<|K.mv R R<|K.move (.inl R) (g1 R R h3) R R<|K.bin (V:=.bool (decide (a3≤0))) (g1 R R h3) R R (fun _=>R) R<|K.pickF g0 R (h3) R R<|K.mv R R<|K.sk R R h5 R<|K.sk R R h5 R<|K.sk R R h5 R<|K.pickT g0 R (h5) R R<|K.nil<|At.next<|G.cond R (fun h6=>?_) (fun h6=>?_)
      ·
       refine G.seq<|G.rg<|K.loadS Y _ g0 R R t105 R R R<|K.store Y _ g0 R R R t105 R R R R R<|K.nil<|At.next<|G.ret<|At.over_ret ?_
       cases H1
       replace H0:=sum_l H0
       refine At.done Y [(.cell 8 105,.agg [_,_,_,_,_,_,_,_,_,_,_,_,_,_,_,_])] R ⟨.st R R t105 R R,trivial⟩ (to':=[(0,_),(1,_)]) ⟨R,R,trivial⟩ ?_ ?_ R R R (.inl R)
       · cases H0;rfl
       · cases H0;rfl
      · cases h6
     ·
      replace H1:=bif_f H1 h5
      refine G.rg<|K.mv R R<|K.mv R R<|K.bin (V:=.bool (decide (a2≥a3))) g0 R R (fun _=>R) R<|K.mv R R<|K.move (.inl R) (g1 R R h1) R R<|K.fieldAddr Y (g1 R R h1) R t140 R R<|K.load1 Y (g1 R R h1) R R t3 R R<|K.bin (V:=.bool (decide (a2≥x1.size))) (g1 R R h1) R R (fun _=>R) R<|K.pickF g0 R (h1) R R<|K.mv R R<|K.move (.inl R) (g1 R R h3) R R<|K.bin (V:=.bool (decide (a3≤0))) (g1 R R h3) R R (fun _=>R) R<|K.pickF g0 R (h3) R R<|K.mv R R<|K.fieldAddr Y (g1 R R h5) R t140 R R<|K.load1 Y (g1 R R h5) R R t3 R R<|K.bin (V:=.bool (x1.size == 0)) (g1 R R h5) R R (fun _=>R) R<|K.pickF g0 R (h5) R R<|K.nil<|At.next<|G.cond R (fun h7=>?_) (fun h7=>?_)
      ·
       replace H1:=bif_t H1 h7
       refine G.seq<|G.rg<|K.loadS Y _ g0 R R t105 R R R<|K.store Y _ g0 R R R t105 R R R R R<|K.nil<|At.next<|G.ret<|At.over_ret ?_
       cases H1
       replace H0:=sum_l H0
       refine At.done Y [(.cell 8 105,.agg [_,_,_,_,_,_,_,_,_,_,_,_,_,_,_,_])] R ⟨.st R R t105 R R,trivial⟩ (to':=[(0,_),(1,_)]) ⟨R,R,trivial⟩ ?_ ?_ R R R (.inl R)
       · cases H0;rfl
       · cases H0;rfl
      ·
       replace H1:=bif_f H1 h7
       exact G.skip<|At.jd ⟨(),oi H1⟩ [(104,101),(105,102),(106,103)] [_,_,_,_,_] R ⟨R,R,R,R,R,R,trivial⟩ ⟨R,(pl_ren R),R,(blk_ren R R),R,(blk_ren R R),R,(blk_ren R R),R,(blk_ren R R),trivial⟩ R
  ·
   rintro ⟨w2,rfl⟩
   replace H0:=sum_r H0
   show G _ _ [(0,.a (.c (.p 0 0))),(2,.a (.c (.v (.int .i64 a2)))),(3,.a (.c (.v (.int .i64 a3)))),(8,.a (.c (.p 104 0))),(9,.a (.c (.p 105 0))),(10,.a (.c (.p 106 0)))] [(1,some (plM 1 p1)),(0,some (blk 0 [.p 1 0,.v (.int .i64 ri0),.v (.int .i64 rg0)] 144)),(104,some (blk 104 [.v (.int .i64 0),.v (.int .i64 0),.v (.int .i64 0),.v (.int .i64 0),.v (.int .i64 0),.v (.int .i64 0),.v (.int .i64 0),.v (.int .i64 0),.v (.int .i64 0),.v (.int .i64 0),.v (.bool false),.v (.int .i64 0),.v (.int .i64 0),.v (.bool false),.v (.int .i64 0),.v (.int .i64 0)] 105)),(105,some (blk 105 [.v (.int .i64 x1.e.op.time),.v (.bool x1.e.op.insert),.v (.int .i64 x1.e.op.item.key),.v (.int .i64 x1.e.op.item.id),.v (.bool x1.e.here),.v (.bool x1.e.took.found),.v (.int .i64 x1.e.took.item.key),.v (.int .i64 x1.e.took.item.id),.v (.int .i64 x1.left.index),.v (.int .i64 x1.left.gen),.v (.int .i64 x1.right.index),.v (.int .i64 x1.right.gen),.v (.int .i64 x1.size),.v (.int .i64 x1.sum.count.n),.v (.int .i64 x1.sum.count.sum),.v (.int .i64 x1.sum.count.low),.v (.int .i64 x1.sum.weight.n),.v (.int .i64 x1.sum.weight.sum),.v (.int .i64 x1.sum.weight.low),.v (.int .i64 x1.sum.deletes),.v (.int .i64 x1.sum.free),.v (.int .i64 x1.sum.most.key),.v (.int .i64 x1.sum.most.id),.v (.bool x1.sum.gone.found),.v (.int .i64 x1.sum.gone.item.key),.v (.int .i64 x1.sum.gone.item.id),.v (.bool x1.sum.least.found),.v (.int .i64 x1.sum.least.item.key),.v (.int .i64 x1.sum.least.item.id)] 140)),(106,some (blk 106 [.v (.int .i64 0),.v (.int .i64 0),.v (.int .i64 0),.v (.int .i64 0),.v (.int .i64 0),.v (.int .i64 0),.v (.int .i64 0),.v (.int .i64 0),.v (.int .i64 0),.v (.int .i64 0),.v (.bool false),.v (.int .i64 0),.v (.int .i64 0),.v (.bool false),.v (.int .i64 0),.v (.int .i64 0)] 105))] _ _
   obtain ⟨x3,H1,H0⟩:=bnd H0
   refine G.sJ (σ:={ v:Unit // x3=Sum.inr v }) (fun q=>[(0,.a (.c (.p 0 0))),(2,.a (.c (.v (.int .i64 a2)))),(3,.a (.c (.v (.int .i64 a3)))),(8,.a (.c (.p 107 0))),(9,.a (.c (.p 108 0))),(10,.a (.c (.p 109 0)))]) (fun q=>[(1,plM 1 p1),(0,blk 0 [.p 1 0,.v (.int .i64 ri0),.v (.int .i64 rg0)] 144),(107,blk 107 [.v (.int .i64 0),.v (.int .i64 0),.v (.int .i64 0),.v (.int .i64 0),.v (.int .i64 0),.v (.int .i64 0),.v (.int .i64 0),.v (.int .i64 0),.v (.int .i64 0),.v (.int .i64 0),.v (.bool false),.v (.int .i64 0),.v (.int .i64 0),.v (.bool false),.v (.int .i64 0),.v (.int .i64 0)] 105),(108,blk 108 [.v (.int .i64 x1.e.op.time),.v (.bool x1.e.op.insert),.v (.int .i64 x1.e.op.item.key),.v (.int .i64 x1.e.op.item.id),.v (.bool x1.e.here),.v (.bool x1.e.took.found),.v (.int .i64 x1.e.took.item.key),.v (.int .i64 x1.e.took.item.id),.v (.int .i64 x1.left.index),.v (.int .i64 x1.left.gen),.v (.int .i64 x1.right.index),.v (.int .i64 x1.right.gen),.v (.int .i64 x1.size),.v (.int .i64 x1.sum.count.n),.v (.int .i64 x1.sum.count.sum),.v (.int .i64 x1.sum.count.low),.v (.int .i64 x1.sum.weight.n),.v (.int .i64 x1.sum.weight.sum),.v (.int .i64 x1.sum.weight.low),.v (.int .i64 x1.sum.deletes),.v (.int .i64 x1.sum.free),.v (.int .i64 x1.sum.most.key),.v (.int .i64 x1.sum.most.id),.v (.bool x1.sum.gone.found),.v (.int .i64 x1.sum.gone.item.key),.v (.int .i64 x1.sum.gone.item.id),.v (.bool x1.sum.least.found),.v (.int .i64 x1.sum.least.item.key),.v (.int .i64 x1.sum.least.item.id)] 140),(109,blk 109 [.v (.int .i64 0),.v (.int .i64 0),.v (.int .i64 0),.v (.int .i64 0),.v (.int .i64 0),.v (.int .i64 0),.v (.int .i64 0),.v (.int .i64 0),.v (.int .i64 0),.v (.int .i64 0),.v (.bool false),.v (.int .i64 0),.v (.int .i64 0),.v (.bool false),.v (.int .i64 0),.v (.int .i64 0)] 105)]) ?_ ?_
   ·
    refine G.seq ?_
    rcases Bool.eq_false_or_eq_true (decide (a2≤0)) with h8 | h8
    ·
     replace H1:=bif_t H1 h8
     refine G.rg<|K.mv R R<|K.bin (V:=.bool (decide (a2≤0))) g0 R R (fun _=>R) R<|K.mv R R<|K.move (.inl R) (g1 R R h8) R R<|K.fieldAddr Y (g1 R R h8) R t140 R R<|K.load1 Y (g1 R R h8) R R t3 R R<|K.bin (V:=.bool (decide (a3≥x1.size))) (g1 R R h8) R R (fun _=>R) R<|K.pickT g0 R (h8) R R<|K.nil<|At.next<|G.cond R (fun h9=>?_) (fun h9=>?_)
     ·
      replace H1:=bif_t H1 h9
      refine G.seq<|G.rg<|K.fieldAddr Y g0 R t140 R R<|K.loadS Y _ g0 R R t105 R R R<|K.store Y _ g0 R R R t105 R R R R R<|K.nil<|At.next<|G.ret<|At.over_ret ?_
      cases H1
      replace H0:=sum_l H0
      refine At.done Y [(.cell 8 105,.agg [_,_,_,_,_,_,_,_,_,_,_,_,_,_,_,_])] R ⟨.st R R t105 R R,trivial⟩ (to':=[(0,_),(1,_)]) ⟨R,R,trivial⟩ ?_ ?_ R R R (.inl R)
      · cases H0;rfl
      · cases H0;rfl
     ·
      replace H1:=bif_f H1 h9
      exact G.skip<|At.jd ⟨(),oi H1⟩ [(107,104),(108,105),(109,106)] [_,_,_,_,_] R ⟨R,R,R,R,R,R,trivial⟩ ⟨R,(pl_ren R),R,(blk_ren R R),R,(blk_ren R R),R,(blk_ren R R),R,(blk_ren R R),trivial⟩ R
    ·
     replace H1:=bif_f H1 h8
     refine G.rg<|K.mv R R<|K.bin (V:=.bool (decide (a2≤0))) g0 R R (fun _=>R) R<|K.mv R R<|K.sk R R h8 R<|K.sk R R h8 R<|K.sk R R h8 R<|K.sk R R h8 R<|K.pickF g0 R (h8) R R<|K.nil<|At.next<|G.cond R (fun h10=>?_) (fun h10=>?_)
     · cases h10
     ·
      exact G.skip<|At.jd ⟨(),oi H1⟩ [(107,104),(108,105),(109,106)] [_,_,_,_,_] R ⟨R,R,R,R,R,R,trivial⟩ ⟨R,(pl_ren R),R,(blk_ren R R),R,(blk_ren R R),R,(blk_ren R R),R,(blk_ren R R),trivial⟩ R
   ·
    rintro ⟨w3,rfl⟩
    replace H0:=sum_r H0
    show G _ _ [(0,.a (.c (.p 0 0))),(2,.a (.c (.v (.int .i64 a2)))),(3,.a (.c (.v (.int .i64 a3)))),(8,.a (.c (.p 107 0))),(9,.a (.c (.p 108 0))),(10,.a (.c (.p 109 0)))] [(1,some (plM 1 p1)),(0,some (blk 0 [.p 1 0,.v (.int .i64 ri0),.v (.int .i64 rg0)] 144)),(107,some (blk 107 [.v (.int .i64 0),.v (.int .i64 0),.v (.int .i64 0),.v (.int .i64 0),.v (.int .i64 0),.v (.int .i64 0),.v (.int .i64 0),.v (.int .i64 0),.v (.int .i64 0),.v (.int .i64 0),.v (.bool false),.v (.int .i64 0),.v (.int .i64 0),.v (.bool false),.v (.int .i64 0),.v (.int .i64 0)] 105)),(108,some (blk 108 [.v (.int .i64 x1.e.op.time),.v (.bool x1.e.op.insert),.v (.int .i64 x1.e.op.item.key),.v (.int .i64 x1.e.op.item.id),.v (.bool x1.e.here),.v (.bool x1.e.took.found),.v (.int .i64 x1.e.took.item.key),.v (.int .i64 x1.e.took.item.id),.v (.int .i64 x1.left.index),.v (.int .i64 x1.left.gen),.v (.int .i64 x1.right.index),.v (.int .i64 x1.right.gen),.v (.int .i64 x1.size),.v (.int .i64 x1.sum.count.n),.v (.int .i64 x1.sum.count.sum),.v (.int .i64 x1.sum.count.low),.v (.int .i64 x1.sum.weight.n),.v (.int .i64 x1.sum.weight.sum),.v (.int .i64 x1.sum.weight.low),.v (.int .i64 x1.sum.deletes),.v (.int .i64 x1.sum.free),.v (.int .i64 x1.sum.most.key),.v (.int .i64 x1.sum.most.id),.v (.bool x1.sum.gone.found),.v (.int .i64 x1.sum.gone.item.key),.v (.int .i64 x1.sum.gone.item.id),.v (.bool x1.sum.least.found),.v (.int .i64 x1.sum.least.item.key),.v (.int .i64 x1.sum.least.item.id)] 140)),(109,some (blk 109 [.v (.int .i64 0),.v (.int .i64 0),.v (.int .i64 0),.v (.int .i64 0),.v (.int .i64 0),.v (.int .i64 0),.v (.int .i64 0),.v (.int .i64 0),.v (.int .i64 0),.v (.int .i64 0),.v (.bool false),.v (.int .i64 0),.v (.int .i64 0),.v (.bool false),.v (.int .i64 0),.v (.int .i64 0)] 105))] _ _
    refine G.seq ?_
    obtain ⟨x4,hx4,H0⟩:=bnd H0
    refine G.rg<|K.mv R R<|K.fieldAddr Y g0 R t140 R R<|K.loadS Y _ g0 R R t119 R R R<|K.cR (cf 83 R) (Tree_getM_con hx4 0 1) g0 R R R R<|K.field1 Y g0 R t140 R t3 R R<|K.as R R<|K.nil<|At.ns ?_
    obtain ⟨x5,hx5,H0⟩:=bnd H0
    refine G.rg<|K.mv R R<|K.fieldAddr Y g0 R t140 R R<|K.loadS Y _ g0 R R t119 R R R<|K.mv R R<|K.mv R R<|K.cR (cf 141 R) (ih hx5) g0 R R R R<|K.store Y _ g0 R R R t105 R R R R R<|K.nil<|At.next ?_
    obtain ⟨x6,H1,H0⟩:=bnd H0
    refine G.sJ (σ:={ v:TSwell // x6=v }) (fun q=>[(0,.a (.c (.p 0 0))),(2,.a (.c (.v (.int .i64 a2)))),(3,.a (.c (.v (.int .i64 a3)))),(8,.a (.c (.p 110 0))),(9,.a (.c (.p 111 0))),(10,.a (.c (.p 112 0))),(11,.a (.c (.v (.int .i64 x4.size))))]) (fun q=>[(1,plM 1 p1),(0,blk 0 [.p 1 0,.v (.int .i64 ri0),.v (.int .i64 rg0)] 144),(110,blk 110 [.v (.int .i64 0),.v (.int .i64 0),.v (.int .i64 0),.v (.int .i64 0),.v (.int .i64 0),.v (.int .i64 0),.v (.int .i64 0),.v (.int .i64 0),.v (.int .i64 0),.v (.int .i64 0),.v (.bool false),.v (.int .i64 0),.v (.int .i64 0),.v (.bool false),.v (.int .i64 0),.v (.int .i64 0)] 105),(111,blk 111 [.v (.int .i64 x1.e.op.time),.v (.bool x1.e.op.insert),.v (.int .i64 x1.e.op.item.key),.v (.int .i64 x1.e.op.item.id),.v (.bool x1.e.here),.v (.bool x1.e.took.found),.v (.int .i64 x1.e.took.item.key),.v (.int .i64 x1.e.took.item.id),.v (.int .i64 x1.left.index),.v (.int .i64 x1.left.gen),.v (.int .i64 x1.right.index),.v (.int .i64 x1.right.gen),.v (.int .i64 x1.size),.v (.int .i64 x1.sum.count.n),.v (.int .i64 x1.sum.count.sum),.v (.int .i64 x1.sum.count.low),.v (.int .i64 x1.sum.weight.n),.v (.int .i64 x1.sum.weight.sum),.v (.int .i64 x1.sum.weight.low),.v (.int .i64 x1.sum.deletes),.v (.int .i64 x1.sum.free),.v (.int .i64 x1.sum.most.key),.v (.int .i64 x1.sum.most.id),.v (.bool x1.sum.gone.found),.v (.int .i64 x1.sum.gone.item.key),.v (.int .i64 x1.sum.gone.item.id),.v (.bool x1.sum.least.found),.v (.int .i64 x1.sum.least.item.key),.v (.int .i64 x1.sum.least.item.id)] 140),(112,blk 112 [.v (.int .i64 q.1.count.n),.v (.int .i64 q.1.count.sum),.v (.int .i64 q.1.count.low),.v (.int .i64 q.1.weight.n),.v (.int .i64 q.1.weight.sum),.v (.int .i64 q.1.weight.low),.v (.int .i64 q.1.deletes),.v (.int .i64 q.1.free),.v (.int .i64 q.1.most.key),.v (.int .i64 q.1.most.id),.v (.bool q.1.gone.found),.v (.int .i64 q.1.gone.item.key),.v (.int .i64 q.1.gone.item.id),.v (.bool q.1.least.found),.v (.int .i64 q.1.least.item.key),.v (.int .i64 q.1.least.item.id)] 105)]) ?_ ?_
    ·
     refine G.seq ?_
     rcases Bool.eq_false_or_eq_true (decide (a2≤x4.size)) with h11 | h11
     ·
      replace H1:=bif_t H1 h11
      refine G.rg<|K.mv R R<|K.mv R R<|K.bin (V:=.bool (decide (a2≤x4.size))) g0 R R (fun _=>R) R<|K.mv R R<|K.move (.inl R) (g1 R R h11) R R<|K.move (.inl R) (g1 R R h11) R R<|K.bin (V:=.bool (decide (a3>x4.size))) (g1 R R h11) R R (fun _=>R) R<|K.pickT g0 R (h11) R R<|K.nil<|At.next<|G.cond R (fun h12=>?_) (fun h12=>?_)
      ·
       replace H1:=bif_t H1 h12
       obtain ⟨x7,hx7,H1⟩:=bnd H1
       obtain ⟨x8,hx8,H1⟩:=bnd H1
       exact G.rd mixed<|K.loadS Y _ g0 R R t105 R R R<|K.mkIface Y g0 R (mkI Tryz.underlying105 R) R<|K.fieldAddr Y g0 R t140 R R<|K.loadS Y _ g0 R R t101 R R R<|K.mkIface Y g0 R (mkI Tryz.underlying101 R) R<|K.callR [((.tmp 67),_)] (wave_Mark_Sum_con (k:=k) hx7) (toFn_invoke (cf 207 R) (me101_207) R) g0 ⟨R,trivial⟩ trivial R R R<|K.callR [((.tmp 64),_),((.tmp 68),_)] (wave_Swell_Plus_con (k:=k) hx8) (toFn_invoke (cf 211 R) (me105_211) R) g0 ⟨R,R,trivial⟩ trivial R R R<|K.store Y _ g0 R R R t105 R R R R R<|K.nil<|And.intro (by kernel_rfl)<|At.jd ⟨x8,oi H1⟩ [(110,107),(111,108),(112,109)] [_,_,_,_,_] R ⟨R,R,R,R,R,R,R,trivial⟩ ⟨R,(pl_ren R),R,(blk_ren R R),R,(blk_ren R R),R,(blk_ren R R),R,(blk_ren R R),trivial⟩ R
      ·
       replace H1:=bif_f H1 h12
       exact G.skip<|At.jd ⟨x5,oi H1⟩ [(110,107),(111,108),(112,109)] [_,_,_,_,_] R ⟨R,R,R,R,R,R,R,trivial⟩ ⟨R,(pl_ren R),R,(blk_ren R R),R,(blk_ren R R),R,(blk_ren R R),R,(blk_ren R R),trivial⟩ R
     ·
      replace H1:=bif_f H1 h11
      refine G.rg<|K.mv R R<|K.mv R R<|K.bin (V:=.bool (decide (a2≤x4.size))) g0 R R (fun _=>R) R<|K.mv R R<|K.sk R R h11 R<|K.sk R R h11 R<|K.sk R R h11 R<|K.pickF g0 R (h11) R R<|K.nil<|At.next<|G.cond R (fun h13=>?_) (fun h13=>?_)
      · cases h13
      ·
       exact G.skip<|At.jd ⟨x5,oi H1⟩ [(110,107),(111,108),(112,109)] [_,_,_,_,_] R ⟨R,R,R,R,R,R,R,trivial⟩ ⟨R,(pl_ren R),R,(blk_ren R R),R,(blk_ren R R),R,(blk_ren R R),R,(blk_ren R R),trivial⟩ R
    ·
     rintro ⟨_,rfl⟩
     show G _ _ [(0,.a (.c (.p 0 0))),(2,.a (.c (.v (.int .i64 a2)))),(3,.a (.c (.v (.int .i64 a3)))),(8,.a (.c (.p 110 0))),(9,.a (.c (.p 111 0))),(10,.a (.c (.p 112 0))),(11,.a (.c (.v (.int .i64 x4.size))))] [(1,some (plM 1 p1)),(0,some (blk 0 [.p 1 0,.v (.int .i64 ri0),.v (.int .i64 rg0)] 144)),(110,some (blk 110 [.v (.int .i64 0),.v (.int .i64 0),.v (.int .i64 0),.v (.int .i64 0),.v (.int .i64 0),.v (.int .i64 0),.v (.int .i64 0),.v (.int .i64 0),.v (.int .i64 0),.v (.int .i64 0),.v (.bool false),.v (.int .i64 0),.v (.int .i64 0),.v (.bool false),.v (.int .i64 0),.v (.int .i64 0)] 105)),(111,some (blk 111 [.v (.int .i64 x1.e.op.time),.v (.bool x1.e.op.insert),.v (.int .i64 x1.e.op.item.key),.v (.int .i64 x1.e.op.item.id),.v (.bool x1.e.here),.v (.bool x1.e.took.found),.v (.int .i64 x1.e.took.item.key),.v (.int .i64 x1.e.took.item.id),.v (.int .i64 x1.left.index),.v (.int .i64 x1.left.gen),.v (.int .i64 x1.right.index),.v (.int .i64 x1.right.gen),.v (.int .i64 x1.size),.v (.int .i64 x1.sum.count.n),.v (.int .i64 x1.sum.count.sum),.v (.int .i64 x1.sum.count.low),.v (.int .i64 x1.sum.weight.n),.v (.int .i64 x1.sum.weight.sum),.v (.int .i64 x1.sum.weight.low),.v (.int .i64 x1.sum.deletes),.v (.int .i64 x1.sum.free),.v (.int .i64 x1.sum.most.key),.v (.int .i64 x1.sum.most.id),.v (.bool x1.sum.gone.found),.v (.int .i64 x1.sum.gone.item.key),.v (.int .i64 x1.sum.gone.item.id),.v (.bool x1.sum.least.found),.v (.int .i64 x1.sum.least.item.key),.v (.int .i64 x1.sum.least.item.id)] 140)),(112,some (blk 112 [.v (.int .i64 x6.count.n),.v (.int .i64 x6.count.sum),.v (.int .i64 x6.count.low),.v (.int .i64 x6.weight.n),.v (.int .i64 x6.weight.sum),.v (.int .i64 x6.weight.low),.v (.int .i64 x6.deletes),.v (.int .i64 x6.free),.v (.int .i64 x6.most.key),.v (.int .i64 x6.most.id),.v (.bool x6.gone.found),.v (.int .i64 x6.gone.item.key),.v (.int .i64 x6.gone.item.id),.v (.bool x6.least.found),.v (.int .i64 x6.least.item.key),.v (.int .i64 x6.least.item.id)] 105))] _ _
     refine G.seq ?_
     obtain ⟨x9,hx9,H0⟩:=bnd H0
     obtain ⟨x10,hx10,H0⟩:=bnd H0
     refine G.rd mixed<|K.loadS Y _ g0 R R t105 R R R<|K.mkIface Y g0 R (mkI Tryz.underlying105 R) R<|K.mv R R<|K.fieldAddr Y g0 R t140 R R<|K.loadS Y _ g0 R R t119 R R R<|K.mv R R<|K.mv R R<|K.bin (V:=.int .i64 (w64 (a2 - x4.size))) g0 R R (fun _=>R) R<|K.bin (V:=.int .i64 (w64 ((w64 (a2 - x4.size)) - 1))) g0 R R (fun _=>R) R<|K.mv R R<|K.mv R R<|K.bin (V:=.int .i64 (w64 (a3 - x4.size))) g0 R R (fun _=>R) R<|K.bin (V:=.int .i64 (w64 ((w64 (a3 - x4.size)) - 1))) g0 R R (fun _=>R) R<|K.cR (cf 141 R) (ih hx9) g0 R R R R<|K.callR [((.tmp 71),_),((.tmp 83),_)] (wave_Swell_Plus_con (k:=k) hx10) (toFn_invoke (cf 211 R) (me105_211) R) g0 ⟨R,R,trivial⟩ trivial R R R<|K.store Y _ g0 R R R t105 R R R R R<|K.nil<|And.intro (by kernel_rfl)<|At.next<|G.ret<|At.done Y [(.cell 8 105,.agg [_,_,_,_,_,_,_,_,_,_,_,_,_,_,_,_])] R ⟨.st R R t105 R R,trivial⟩ (to':=[(0,_),(1,_)]) ⟨R,R,trivial⟩ ?_ ?_ R R R (.inl R)
     · cases H0;rfl
     · cases H0;rfl
theorem Tree_betweenM_con {k n:Nat}  {p1:Pool (TNode TMark TSwell)} {a1:TRef} {a2:Int} {a3:Int} {ri0 rg0:Int} {r:TSwell}  (H0:Tree_between.r opsM k n p1 a1 a2 a3=some r) (m0 m1:Nat):Tree_betweenM_st p1 a1 a2 a3 ri0 rg0 r m0 m1 :=
 SCon.ren (rn [(0,m0),(1,m1)]) (Tree_betweenM_con0 (k:=k)   H0) ⟨(blk_ren R R),(pl_ren R),trivial⟩ ⟨(blk_ren R R),(pl_ren R),trivial⟩ (by simp) (by simp)
abbrev Tree_BetweenM_st (p1:Pool (TNode TMark TSwell)) (rt0:TRef) (a1:Int) (a2:Int) (r:TSwell) (m0:Nat) (m1:Nat):Prop:=SCon Tryz.prog 117 [SV.p m0 0,.a (.c (.v (.int .i64 a1))),.a (.c (.v (.int .i64 a2)))] [(m0,blk m0 [.p m1 0,.i rt0.index,.i rt0.gen] 144),(m1,plM m1 p1)] (.a (.agg ((eTSwell r).map .v))) [(m0,blk m0 [.p m1 0,.i rt0.index,.i rt0.gen] 144),(m1,plM m1 p1)] []
theorem Tree_BetweenM_con0 {k:Nat}  {p1:Pool (TNode TMark TSwell)} {rt0:TRef} {a1:Int} {a2:Int} {r:TSwell}  (H0:Tree_Between.f opsM k p1 rt0 a1 a2=some r):Tree_BetweenM_st p1 rt0 a1 a2 r 0 1:=by
 rw [Tree_Between.f] at H0
 refine spec_of [(0,_),(1,_),(2,_)] [(0,_),(1,_)] 24 Tryz.func117 R Tryz.ntmps117 R R R R (fun β W F=>?_)
 refine G.seq<|G.rg<|K.alloc Y 100 _ g0 t105 R R R R R<|K.nil<|At.ns ?_
 obtain ⟨x1,hx1,H0⟩:=bnd H0
 refine G.rg<|K.mv R R<|K.cR (cf 56 R) (Tree_LenM_con hx1 0 1) g0 R R R R<|K.as R R<|K.nil<|At.ns ?_
 obtain ⟨x2,hx2,H0⟩:=bnd H0
 refine G.rg<|K.mv R R<|K.mv R R<|K.nilCheck g0 R R<|K.fieldAddr Y g0 R t144 R R<|K.loadS Y _ g0 R R t119 R R R<|K.mv R R<|K.bi2 (V:=.int .i64 (gmax a1 0)) g0 R R (fun _ _=>R) R<|K.mv R R<|K.bi2 (V:=.int .i64 (gmin (gmax a1 0) x1)) g0 R R (fun _ _=>R) R<|K.mv R R<|K.bi2 (V:=.int .i64 (gmax a2 0)) g0 R R (fun _ _=>R) R<|K.mv R R<|K.bi2 (V:=.int .i64 (gmin (gmax a2 0) x1)) g0 R R (fun _ _=>R) R<|K.cR (cf 141 R) (Tree_betweenM_con hx2 0 1) g0 R R R R<|K.store Y _ g0 R R R t105 R R R R R<|K.nil<|At.next<|G.ret<|At.done Y [(.cell 6 105,.agg [_,_,_,_,_,_,_,_,_,_,_,_,_,_,_,_])] R ⟨.st R R t105 R R,trivial⟩ (to':=[(0,_),(1,_)]) ⟨R,R,trivial⟩ ?_ ?_ R R R (.inl R)
 · cases H0;rfl
 · cases H0;rfl
theorem Tree_BetweenM_con {k:Nat}  {p1:Pool (TNode TMark TSwell)} {rt0:TRef} {a1:Int} {a2:Int} {r:TSwell}  (H0:Tree_Between.f opsM k p1 rt0 a1 a2=some r) (m0 m1:Nat):Tree_BetweenM_st p1 rt0 a1 a2 r m0 m1 :=
 SCon.ren (rn [(0,m0),(1,m1)]) (Tree_BetweenM_con0 (k:=k)   H0) ⟨(blk_ren R R),(pl_ren R),trivial⟩ ⟨(blk_ren R R),(pl_ren R),trivial⟩ (by simp) (by simp)
abbrev Tree_firstM_f14_st (g4:FuncId) (cv4:List Value) (Tc4:TypeId) (p1:Pool (TNode TMark TSwell)) (a1:TRef) (a2:Int) (a3:TSwell) (ri0:Int) (rg0:Int) (r:Int×TSwell) (m0:Nat) (m1:Nat) (m2:Nat):Prop:=SCon Tryz.prog 145 [SV.p m0 0,.a (.agg ((eTRef a1).map .v)),.a (.c (.v (.int .i64 a2))),.a (.agg ((eTSwell a3).map .v)),.a (.c (.fn (.func g4) [m2]))] [(m0,blk m0 [.p m1 0,.i ri0,.i rg0] 144),(m1,plM m1 p1),(m2,vblk m2 cv4 Tc4)] (.tup [.c (.v (.int .i64 r.1)),.agg ((eTSwell r.2).map .v)]) [(m0,blk m0 [.p m1 0,.i ri0,.i rg0] 144),(m1,plM m1 p1),(m2,vblk m2 cv4 Tc4)] []
set_option maxHeartbeats 4000000 in
theorem Tree_firstM_f14_con0 {k:Nat} {g4:FuncId} {fn4:TSwell→TSwell→Option Bool} {cv4:List Value} {Tc4:TypeId} (cg4:fnB Tryz.prog g4=true) (hm4 : ∀ (c:Nat) {z0:TSwell} {z1:TSwell} {y:Bool},fn4 z0 z1=some y→SCon Tryz.prog g4 [.a (.agg ((eTSwell z0).map .v)),.a (.agg ((eTSwell z1).map .v)),SV.p c 0] [(c,vblk c cv4 Tc4)] (SV.b y) [(c,vblk c cv4 Tc4)] []) : ∀ {n:Nat} {p1:Pool (TNode TMark TSwell)} {a1:TRef} {a2:Int} {a3:TSwell} {ri0 rg0:Int} {r:Int×TSwell}  (H0:Tree_first.r opsM k n p1 a1 a2 a3 fn4=some r),Tree_firstM_f14_st g4 cv4 Tc4 p1 a1 a2 a3 ri0 rg0 r 0 1 2:=by
 intro n
 induction n with
 | zero => intro p1 a1 a2 a3 ri0 rg0 r H0; exact absurd H0 (by simp [Tree_first.r])
 | succ n ih =>
  intro p1 a1 a2 a3 ri0 rg0 r H0
  rw [Tree_first.r] at H0
  refine spec_of [(0,_),(1,_),(2,_),(3,_),(4,_)] [(0,_),(1,_),(2,_)] 103 Tryz.func145 R Tryz.ntmps145 R R R R (fun β W F=>?_)
  refine G.seq<|G.rg<|K.box Y 100 _ g0 R R R R R R<|K.box Y 101 _ g0 R R R R R R<|K.as R R<|K.alloc Y 102 _ g0 t105 R R R R R<|K.nil<|At.ns ?_
  obtain ⟨x1,hx1,H0⟩:=bnd H0
  refine G.rg<|K.mv R R<|K.loadS Y _ g0 R R t119 R R R<|K.cR (cf 83 R) (Tree_getM_con hx1 0 1) g0 R R R R<|K.alloc Y 103 _ g0 t140 R R R R R<|K.store Y _ g0 R R R t140 R R R R R<|K.nil<|At.next ?_
  obtain ⟨x2,H1,H0⟩:=bnd H0
  refine G.sJ (σ:={ v:Unit // x2=Sum.inr v }) (fun q=>[(0,.a (.c (.p 0 0))),(2,.a (.c (.v (.int .i64 a2)))),(4,.a (.c (.fn (.func g4) [2]))),(8,.a (.c (.p 104 0))),(11,.a (.c (.p 105 0))),(12,.a (.c (.p 106 0)))]) (fun q=>[(1,plM 1 p1),(0,blk 0 [.p 1 0,.v (.int .i64 ri0),.v (.int .i64 rg0)] 144),(2,vblk 2 cv4 Tc4),(104,blk 104 [.v (.int .i64 a3.count.n),.v (.int .i64 a3.count.sum),.v (.int .i64 a3.count.low),.v (.int .i64 a3.weight.n),.v (.int .i64 a3.weight.sum),.v (.int .i64 a3.weight.low),.v (.int .i64 a3.deletes),.v (.int .i64 a3.free),.v (.int .i64 a3.most.key),.v (.int .i64 a3.most.id),.v (.bool a3.gone.found),.v (.int .i64 a3.gone.item.key),.v (.int .i64 a3.gone.item.id),.v (.bool a3.least.found),.v (.int .i64 a3.least.item.key),.v (.int .i64 a3.least.item.id)] 105),(105,blk 105 [.v (.int .i64 0),.v (.int .i64 0),.v (.int .i64 0),.v (.int .i64 0),.v (.int .i64 0),.v (.int .i64 0),.v (.int .i64 0),.v (.int .i64 0),.v (.int .i64 0),.v (.int .i64 0),.v (.bool false),.v (.int .i64 0),.v (.int .i64 0),.v (.bool false),.v (.int .i64 0),.v (.int .i64 0)] 105),(106,blk 106 [.v (.int .i64 x1.e.op.time),.v (.bool x1.e.op.insert),.v (.int .i64 x1.e.op.item.key),.v (.int .i64 x1.e.op.item.id),.v (.bool x1.e.here),.v (.bool x1.e.took.found),.v (.int .i64 x1.e.took.item.key),.v (.int .i64 x1.e.took.item.id),.v (.int .i64 x1.left.index),.v (.int .i64 x1.left.gen),.v (.int .i64 x1.right.index),.v (.int .i64 x1.right.gen),.v (.int .i64 x1.size),.v (.int .i64 x1.sum.count.n),.v (.int .i64 x1.sum.count.sum),.v (.int .i64 x1.sum.count.low),.v (.int .i64 x1.sum.weight.n),.v (.int .i64 x1.sum.weight.sum),.v (.int .i64 x1.sum.weight.low),.v (.int .i64 x1.sum.deletes),.v (.int .i64 x1.sum.free),.v (.int .i64 x1.sum.most.key),.v (.int .i64 x1.sum.most.id),.v (.bool x1.sum.gone.found),.v (.int .i64 x1.sum.gone.item.key),.v (.int .i64 x1.sum.gone.item.id),.v (.bool x1.sum.least.found),.v (.int .i64 x1.sum.least.item.key),.v (.int .i64 x1.sum.least.item.id)] 140)]) ?_ ?_
  ·
   refine G.seq ?_
   rcases Bool.eq_false_or_eq_true (x1.size == 0) with h1 | h1
   ·
    replace H1:=bif_t H1 h1
    refine G.rg<|K.fieldAddr Y g0 R t140 R R<|K.load1 Y g0 R R t3 R R<|K.bin (V:=.bool (x1.size == 0)) g0 R R (fun _=>R) R<|K.mv R R<|K.sk R R h1 R<|K.sk R R h1 R<|K.sk R R h1 R<|K.sk R R h1 R<|K.pickT g0 R (h1) R R<|K.mv R R<|K.sk R R R R<|K.sk R R R R<|K.sk R R R R<|K.skipU R R R R R<|K.skipU R R R R R<|K.skipU R R R R R<|K.skipU R R R R R<|K.skipU R R R R R<|K.skipU R R R R R<|K.sk R R R R<|K.pickT g0 R (R) R R<|K.nil<|At.next<|G.cond R (fun h2=>?_) (fun h2=>?_)
    ·
     refine G.seq ?_
     obtain ⟨x3,hx3,H1⟩:=bnd H1
     refine G.rg<|K.loadS Y _ g0 R R t105 R R R<|K.mkIface Y g0 R (mkI Tryz.underlying105 R) R<|K.fieldAddr Y g0 R t140 R R<|K.loadS Y _ g0 R R t105 R R R<|K.callR [((.tmp 41),_),((.tmp 43),_)] (wave_Swell_Plus_con (k:=k) hx3) (toFn_invoke (cf 211 R) (me105_211) R) g0 ⟨R,R,trivial⟩ trivial R R R<|K.as R R<|K.store Y _ g0 R R R t105 R R R R R<|K.nil<|At.next<|G.ret<|At.over_ret ?_
     cases H1
     replace H0:=sum_l H0
     refine At.done Y [(.tmp 10,.c _),(.cell 11 105,.agg [_,_,_,_,_,_,_,_,_,_,_,_,_,_,_,_])] R ⟨.tmp R,.st R R t105 R R,trivial⟩ (to':=[(0,_),(1,_),(2,_)]) ⟨R,R,R,trivial⟩ ?_ ?_ R R R (.inl R)
     · cases H0;rfl
     · cases H0;rfl
    · cases h2
   ·
    replace H1:=bif_f H1 h1
    rcases Bool.eq_false_or_eq_true (decide (a2≥x1.size)) with h3 | h3
    ·
     replace H1:=bif_t H1 h3
     refine G.rg<|K.fieldAddr Y g0 R t140 R R<|K.load1 Y g0 R R t3 R R<|K.bin (V:=.bool (x1.size == 0)) g0 R R (fun _=>R) R<|K.mv R R<|K.move (.inl R) (g1 R R h1) R R<|K.fieldAddr Y (g1 R R h1) R t140 R R<|K.load1 Y (g1 R R h1) R R t3 R R<|K.bin (V:=.bool (decide (a2≥x1.size))) (g1 R R h1) R R (fun _=>R) R<|K.pickF g0 R (h1) R R<|K.mv R R<|K.sk R R h3 R<|K.sk R R h3 R<|K.sk R R h3 R<|K.skipU R R R R R<|K.skipU R R R R R<|K.skipU R R R R R<|K.skipU R R R R R<|K.skipU R R R R R<|K.skipU R R R R R<|K.sk R R h3 R<|K.pickT g0 R (h3) R R<|K.nil<|At.next<|G.cond R (fun h4=>?_) (fun h4=>?_)
     ·
      refine G.seq ?_
      obtain ⟨x4,hx4,H1⟩:=bnd H1
      refine G.rg<|K.loadS Y _ g0 R R t105 R R R<|K.mkIface Y g0 R (mkI Tryz.underlying105 R) R<|K.fieldAddr Y g0 R t140 R R<|K.loadS Y _ g0 R R t105 R R R<|K.callR [((.tmp 41),_),((.tmp 43),_)] (wave_Swell_Plus_con (k:=k) hx4) (toFn_invoke (cf 211 R) (me105_211) R) g0 ⟨R,R,trivial⟩ trivial R R R<|K.as R R<|K.store Y _ g0 R R R t105 R R R R R<|K.nil<|At.next<|G.ret<|At.over_ret ?_
      cases H1
      replace H0:=sum_l H0
      refine At.done Y [(.tmp 10,.c _),(.cell 11 105,.agg [_,_,_,_,_,_,_,_,_,_,_,_,_,_,_,_])] R ⟨.tmp R,.st R R t105 R R,trivial⟩ (to':=[(0,_),(1,_),(2,_)]) ⟨R,R,R,trivial⟩ ?_ ?_ R R R (.inl R)
      · cases H0;rfl
      · cases H0;rfl
     · cases h4
    ·
     replace H1:=bif_f H1 h3
     rcases Bool.eq_false_or_eq_true (decide (a2≤0)) with h5 | h5
     ·
      replace H1:=bif_t H1 h5
      obtain ⟨x5,hx5,H1⟩:=bnd H1
      refine G.rg<|K.fieldAddr Y g0 R t140 R R<|K.load1 Y g0 R R t3 R R<|K.bin (V:=.bool (x1.size == 0)) g0 R R (fun _=>R) R<|K.mv R R<|K.move (.inl R) (g1 R R h1) R R<|K.fieldAddr Y (g1 R R h1) R t140 R R<|K.load1 Y (g1 R R h1) R R t3 R R<|K.bin (V:=.bool (decide (a2≥x1.size))) (g1 R R h1) R R (fun _=>R) R<|K.pickF g0 R (h1) R R<|K.mv R R<|K.move (.inl R) (g1 R R h3) R R<|K.bin (V:=.bool (decide (a2≤0))) (g1 R R h3) R R (fun _=>R) R<|K.move (.inl R) (g1 R R h3) R R<|K.move (.inl R) (g1 R R h5) R R<|K.loadS Y _ (g1 R R h5) R R t105 R R R<|K.fieldAddr Y (g1 R R h5) R t140 R R<|K.loadS Y _ (g1 R R h5) R R t105 R R R<|K.callR [((.tmp 32),_),((.tmp 33),_),((.tmp 35),_)] (hm4 2 hx5) (toFn_val cg4 R) (g1 R R h5) ⟨R,R,R,trivial⟩ ⟨R,trivial⟩ R R R<|K.un (V:=.bool (!x5)) (g1 R R h5) R (fun _=>R) R<|K.pickT (g1 R R h3) R (h5) R R<|K.pickF g0 R (h3) R R<|K.nil<|At.next<|G.cond R (fun h6=>?_) (fun h6=>?_)
      ·
       replace H1:=bif_t H1 h6
       refine G.seq ?_
       obtain ⟨x6,hx6,H1⟩:=bnd H1
       refine G.rg<|K.loadS Y _ g0 R R t105 R R R<|K.mkIface Y g0 R (mkI Tryz.underlying105 R) R<|K.fieldAddr Y g0 R t140 R R<|K.loadS Y _ g0 R R t105 R R R<|K.callR [((.tmp 41),_),((.tmp 43),_)] (wave_Swell_Plus_con (k:=k) hx6) (toFn_invoke (cf 211 R) (me105_211) R) g0 ⟨R,R,trivial⟩ trivial R R R<|K.as R R<|K.store Y _ g0 R R R t105 R R R R R<|K.nil<|At.next<|G.ret<|At.over_ret ?_
       cases H1
       replace H0:=sum_l H0
       refine At.done Y [(.tmp 10,.c _),(.cell 11 105,.agg [_,_,_,_,_,_,_,_,_,_,_,_,_,_,_,_])] R ⟨.tmp R,.st R R t105 R R,trivial⟩ (to':=[(0,_),(1,_),(2,_)]) ⟨R,R,R,trivial⟩ ?_ ?_ R R R (.inl R)
       · cases H0;rfl
       · cases H0;rfl
      ·
       replace H1:=bif_f H1 h6
       exact G.skip<|At.jd ⟨(),oi H1⟩ [(104,101),(105,102),(106,103)] [_,_,_,_,_,_] R ⟨R,R,R,R,R,R,trivial⟩ ⟨R,(pl_ren R),R,(blk_ren R R),R,(vblk_ren R),R,(blk_ren R R),R,(blk_ren R R),R,(blk_ren R R),trivial⟩ R
     ·
      replace H1:=bif_f H1 h5
      refine G.rg<|K.fieldAddr Y g0 R t140 R R<|K.load1 Y g0 R R t3 R R<|K.bin (V:=.bool (x1.size == 0)) g0 R R (fun _=>R) R<|K.mv R R<|K.move (.inl R) (g1 R R h1) R R<|K.fieldAddr Y (g1 R R h1) R t140 R R<|K.load1 Y (g1 R R h1) R R t3 R R<|K.bin (V:=.bool (decide (a2≥x1.size))) (g1 R R h1) R R (fun _=>R) R<|K.pickF g0 R (h1) R R<|K.mv R R<|K.move (.inl R) (g1 R R h3) R R<|K.bin (V:=.bool (decide (a2≤0))) (g1 R R h3) R R (fun _=>R) R<|K.move (.inl R) (g1 R R h3) R R<|K.sk R R h5 R<|K.sk R R h5 R<|K.sk R R h5 R<|K.sk R R h5 R<|K.sk R R h5 R<|K.sk R R h5 R<|K.pickF (g1 R R h3) R (h5) R R<|K.pickF g0 R (h3) R R<|K.nil<|At.next<|G.cond R (fun h7=>?_) (fun h7=>?_)
      · cases h7
      ·
       exact G.skip<|At.jd ⟨(),oi H1⟩ [(104,101),(105,102),(106,103)] [_,_,_,_,_,_] R ⟨R,R,R,R,R,R,trivial⟩ ⟨R,(pl_ren R),R,(blk_ren R R),R,(vblk_ren R),R,(blk_ren R R),R,(blk_ren R R),R,(blk_ren R R),trivial⟩ R
  ·
   rintro ⟨w2,rfl⟩
   replace H0:=sum_r H0
   show G _ _ [(0,.a (.c (.p 0 0))),(2,.a (.c (.v (.int .i64 a2)))),(4,.a (.c (.fn (.func g4) [2]))),(8,.a (.c (.p 104 0))),(11,.a (.c (.p 105 0))),(12,.a (.c (.p 106 0)))] [(1,some (plM 1 p1)),(0,some (blk 0 [.p 1 0,.v (.int .i64 ri0),.v (.int .i64 rg0)] 144)),(2,some (vblk 2 cv4 Tc4)),(104,some (blk 104 [.v (.int .i64 a3.count.n),.v (.int .i64 a3.count.sum),.v (.int .i64 a3.count.low),.v (.int .i64 a3.weight.n),.v (.int .i64 a3.weight.sum),.v (.int .i64 a3.weight.low),.v (.int .i64 a3.deletes),.v (.int .i64 a3.free),.v (.int .i64 a3.most.key),.v (.int .i64 a3.most.id),.v (.bool a3.gone.found),.v (.int .i64 a3.gone.item.key),.v (.int .i64 a3.gone.item.id),.v (.bool a3.least.found),.v (.int .i64 a3.least.item.key),.v (.int .i64 a3.least.item.id)] 105)),(105,some (blk 105 [.v (.int .i64 0),.v (.int .i64 0),.v (.int .i64 0),.v (.int .i64 0),.v (.int .i64 0),.v (.int .i64 0),.v (.int .i64 0),.v (.int .i64 0),.v (.int .i64 0),.v (.int .i64 0),.v (.bool false),.v (.int .i64 0),.v (.int .i64 0),.v (.bool false),.v (.int .i64 0),.v (.int .i64 0)] 105)),(106,some (blk 106 [.v (.int .i64 x1.e.op.time),.v (.bool x1.e.op.insert),.v (.int .i64 x1.e.op.item.key),.v (.int .i64 x1.e.op.item.id),.v (.bool x1.e.here),.v (.bool x1.e.took.found),.v (.int .i64 x1.e.took.item.key),.v (.int .i64 x1.e.took.item.id),.v (.int .i64 x1.left.index),.v (.int .i64 x1.left.gen),.v (.int .i64 x1.right.index),.v (.int .i64 x1.right.gen),.v (.int .i64 x1.size),.v (.int .i64 x1.sum.count.n),.v (.int .i64 x1.sum.count.sum),.v (.int .i64 x1.sum.count.low),.v (.int .i64 x1.sum.weight.n),.v (.int .i64 x1.sum.weight.sum),.v (.int .i64 x1.sum.weight.low),.v (.int .i64 x1.sum.deletes),.v (.int .i64 x1.sum.free),.v (.int .i64 x1.sum.most.key),.v (.int .i64 x1.sum.most.id),.v (.bool x1.sum.gone.found),.v (.int .i64 x1.sum.gone.item.key),.v (.int .i64 x1.sum.gone.item.id),.v (.bool x1.sum.least.found),.v (.int .i64 x1.sum.least.item.key),.v (.int .i64 x1.sum.least.item.id)] 140))] _ _
   refine G.seq ?_
   obtain ⟨x7,hx7,H0⟩:=bnd H0
   refine G.rg<|K.mv R R<|K.fieldAddr Y g0 R t140 R R<|K.loadS Y _ g0 R R t119 R R R<|K.cR (cf 83 R) (Tree_getM_con hx7 0 1) g0 R R R R<|K.field1 Y g0 R t140 R t3 R R<|K.as R R<|K.nil<|At.ns ?_
   obtain ⟨x8,hx8,H0⟩:=bnd H0
   refine G.rg<|K.mv R R<|K.fieldAddr Y g0 R t140 R R<|K.loadS Y _ g0 R R t119 R R R<|K.mv R R<|K.loadS Y _ g0 R R t105 R R R<|K.mv R R<|K.cR (cf 145 R) (ih hx8) g0 R R R R<|K.mv R R<|K.extract g0 R R R<|K.extract g0 R R R<|K.as R R<|K.store Y _ g0 R R R t105 R R R R R<|K.nil<|At.ns<|G.seq<|G.rg<|K.mv R R<|K.bin (V:=.bool (decide (x8.1≥0))) g0 R R (fun _=>R) R<|K.nil<|At.next<|G.cond R (fun h8=>?_) (fun h8=>?_)
   ·
    replace H0:=bif_t H0 h8
    refine G.seq<|G.rd mixed<|K.mv R R<|K.loadS Y _ g0 R R t105 R R R<|K.as R R<|K.store Y _ g0 R R R t105 R R R R R<|K.nil<|And.intro (by kernel_rfl)<|At.next<|G.ret<|At.over_ret<|At.done Y [(.tmp 10,.c _),(.cell 11 105,.agg [_,_,_,_,_,_,_,_,_,_,_,_,_,_,_,_])] R ⟨.tmp R,.st R R t105 R R,trivial⟩ (to':=[(0,_),(1,_),(2,_)]) ⟨R,R,R,trivial⟩ ?_ ?_ R R R (.inl R)
    · cases H0;rfl
    · cases H0;rfl
   ·
    replace H0:=bif_f H0 h8
    refine G.skip<|At.ns ?_
    obtain ⟨x9,hx9,H0⟩:=bnd H0
    refine G.rg<|K.fieldAddr Y g0 R t140 R R<|K.loadS Y _ g0 R R t101 R R R<|K.mkIface Y g0 R (mkI Tryz.underlying101 R) R<|K.callR [((.tmp 66),_)] (wave_Mark_Sum_con (k:=k) hx9) (toFn_invoke (cf 207 R) (me101_207) R) g0 ⟨R,trivial⟩ trivial R R R<|K.alloc Y 107 _ g0 t105 R R R R R<|K.store Y _ g0 R R R t105 R R R R R<|K.nil<|At.next ?_
    obtain ⟨x10,H1,H0⟩:=bnd H0
    refine G.sJ (σ:={ v:Unit // x10=Sum.inr v }) (fun q=>[(0,.a (.c (.p 0 0))),(2,.a (.c (.v (.int .i64 a2)))),(4,.a (.c (.fn (.func g4) [2]))),(8,.a (.c (.p 108 0))),(11,.a (.c (.p 109 0))),(12,.a (.c (.p 110 0))),(13,.a (.c (.v (.int .i64 x7.size)))),(15,.a (.c (.p 111 0)))]) (fun q=>[(1,plM 1 p1),(0,blk 0 [.p 1 0,.v (.int .i64 ri0),.v (.int .i64 rg0)] 144),(2,vblk 2 cv4 Tc4),(108,blk 108 [.v (.int .i64 x8.2.count.n),.v (.int .i64 x8.2.count.sum),.v (.int .i64 x8.2.count.low),.v (.int .i64 x8.2.weight.n),.v (.int .i64 x8.2.weight.sum),.v (.int .i64 x8.2.weight.low),.v (.int .i64 x8.2.deletes),.v (.int .i64 x8.2.free),.v (.int .i64 x8.2.most.key),.v (.int .i64 x8.2.most.id),.v (.bool x8.2.gone.found),.v (.int .i64 x8.2.gone.item.key),.v (.int .i64 x8.2.gone.item.id),.v (.bool x8.2.least.found),.v (.int .i64 x8.2.least.item.key),.v (.int .i64 x8.2.least.item.id)] 105),(109,blk 109 [.v (.int .i64 0),.v (.int .i64 0),.v (.int .i64 0),.v (.int .i64 0),.v (.int .i64 0),.v (.int .i64 0),.v (.int .i64 0),.v (.int .i64 0),.v (.int .i64 0),.v (.int .i64 0),.v (.bool false),.v (.int .i64 0),.v (.int .i64 0),.v (.bool false),.v (.int .i64 0),.v (.int .i64 0)] 105),(110,blk 110 [.v (.int .i64 x1.e.op.time),.v (.bool x1.e.op.insert),.v (.int .i64 x1.e.op.item.key),.v (.int .i64 x1.e.op.item.id),.v (.bool x1.e.here),.v (.bool x1.e.took.found),.v (.int .i64 x1.e.took.item.key),.v (.int .i64 x1.e.took.item.id),.v (.int .i64 x1.left.index),.v (.int .i64 x1.left.gen),.v (.int .i64 x1.right.index),.v (.int .i64 x1.right.gen),.v (.int .i64 x1.size),.v (.int .i64 x1.sum.count.n),.v (.int .i64 x1.sum.count.sum),.v (.int .i64 x1.sum.count.low),.v (.int .i64 x1.sum.weight.n),.v (.int .i64 x1.sum.weight.sum),.v (.int .i64 x1.sum.weight.low),.v (.int .i64 x1.sum.deletes),.v (.int .i64 x1.sum.free),.v (.int .i64 x1.sum.most.key),.v (.int .i64 x1.sum.most.id),.v (.bool x1.sum.gone.found),.v (.int .i64 x1.sum.gone.item.key),.v (.int .i64 x1.sum.gone.item.id),.v (.bool x1.sum.least.found),.v (.int .i64 x1.sum.least.item.key),.v (.int .i64 x1.sum.least.item.id)] 140),(111,blk 111 [.v (.int .i64 x9.count.n),.v (.int .i64 x9.count.sum),.v (.int .i64 x9.count.low),.v (.int .i64 x9.weight.n),.v (.int .i64 x9.weight.sum),.v (.int .i64 x9.weight.low),.v (.int .i64 x9.deletes),.v (.int .i64 x9.free),.v (.int .i64 x9.most.key),.v (.int .i64 x9.most.id),.v (.bool x9.gone.found),.v (.int .i64 x9.gone.item.key),.v (.int .i64 x9.gone.item.id),.v (.bool x9.least.found),.v (.int .i64 x9.least.item.key),.v (.int .i64 x9.least.item.id)] 105)]) ?_ ?_
    ·
     refine G.seq ?_
     rcases Bool.eq_false_or_eq_true (decide (a2≤x7.size)) with h9 | h9
     ·
      replace H1:=bif_t H1 h9
      obtain ⟨x11,hx11,H1⟩:=bnd H1
      refine G.rg<|K.mv R R<|K.mv R R<|K.bin (V:=.bool (decide (a2≤x7.size))) g0 R R (fun _=>R) R<|K.mv R R<|K.move (.inl R) (g1 R R h9) R R<|K.loadS Y _ (g1 R R h9) R R t105 R R R<|K.loadS Y _ (g1 R R h9) R R t105 R R R<|K.callR [((.tmp 72),_),((.tmp 73),_),((.tmp 74),_)] (hm4 2 hx11) (toFn_val cg4 R) (g1 R R h9) ⟨R,R,R,trivial⟩ ⟨R,trivial⟩ R R R<|K.pickT g0 R (h9) R R<|K.nil<|At.next<|G.cond R (fun h10=>?_) (fun h10=>?_)
      ·
       replace H1:=bif_t H1 h10
       refine G.seq<|G.rd mixed<|K.mv R R<|K.loadS Y _ g0 R R t105 R R R<|K.as R R<|K.store Y _ g0 R R R t105 R R R R R<|K.nil<|And.intro (by kernel_rfl)<|At.next<|G.ret<|At.over_ret ?_
       cases H1
       replace H0:=sum_l H0
       refine At.done Y [(.tmp 10,.c _),(.cell 11 105,.agg [_,_,_,_,_,_,_,_,_,_,_,_,_,_,_,_])] R ⟨.tmp R,.st R R t105 R R,trivial⟩ (to':=[(0,_),(1,_),(2,_)]) ⟨R,R,R,trivial⟩ ?_ ?_ R R R (.inl R)
       · cases H0;rfl
       · cases H0;rfl
      ·
       replace H1:=bif_f H1 h10
       exact G.skip<|At.jd ⟨(),oi H1⟩ [(108,104),(109,105),(110,106),(111,107)] [_,_,_,_,_,_,_] R ⟨R,R,R,R,R,R,R,R,trivial⟩ ⟨R,(pl_ren R),R,(blk_ren R R),R,(vblk_ren R),R,(blk_ren R R),R,(blk_ren R R),R,(blk_ren R R),R,(blk_ren R R),trivial⟩ R
     ·
      replace H1:=bif_f H1 h9
      refine G.rg<|K.mv R R<|K.mv R R<|K.bin (V:=.bool (decide (a2≤x7.size))) g0 R R (fun _=>R) R<|K.mv R R<|K.sk R R h9 R<|K.sk R R h9 R<|K.sk R R h9 R<|K.sk R R h9 R<|K.pickF g0 R (h9) R R<|K.nil<|At.next<|G.cond R (fun h11=>?_) (fun h11=>?_)
      · cases h11
      ·
       exact G.skip<|At.jd ⟨(),oi H1⟩ [(108,104),(109,105),(110,106),(111,107)] [_,_,_,_,_,_,_] R ⟨R,R,R,R,R,R,R,R,trivial⟩ ⟨R,(pl_ren R),R,(blk_ren R R),R,(vblk_ren R),R,(blk_ren R R),R,(blk_ren R R),R,(blk_ren R R),R,(blk_ren R R),trivial⟩ R
    ·
     rintro ⟨w10,rfl⟩
     replace H0:=sum_r H0
     show G _ _ [(0,.a (.c (.p 0 0))),(2,.a (.c (.v (.int .i64 a2)))),(4,.a (.c (.fn (.func g4) [2]))),(8,.a (.c (.p 108 0))),(11,.a (.c (.p 109 0))),(12,.a (.c (.p 110 0))),(13,.a (.c (.v (.int .i64 x7.size)))),(15,.a (.c (.p 111 0)))] [(1,some (plM 1 p1)),(0,some (blk 0 [.p 1 0,.v (.int .i64 ri0),.v (.int .i64 rg0)] 144)),(2,some (vblk 2 cv4 Tc4)),(108,some (blk 108 [.v (.int .i64 x8.2.count.n),.v (.int .i64 x8.2.count.sum),.v (.int .i64 x8.2.count.low),.v (.int .i64 x8.2.weight.n),.v (.int .i64 x8.2.weight.sum),.v (.int .i64 x8.2.weight.low),.v (.int .i64 x8.2.deletes),.v (.int .i64 x8.2.free),.v (.int .i64 x8.2.most.key),.v (.int .i64 x8.2.most.id),.v (.bool x8.2.gone.found),.v (.int .i64 x8.2.gone.item.key),.v (.int .i64 x8.2.gone.item.id),.v (.bool x8.2.least.found),.v (.int .i64 x8.2.least.item.key),.v (.int .i64 x8.2.least.item.id)] 105)),(109,some (blk 109 [.v (.int .i64 0),.v (.int .i64 0),.v (.int .i64 0),.v (.int .i64 0),.v (.int .i64 0),.v (.int .i64 0),.v (.int .i64 0),.v (.int .i64 0),.v (.int .i64 0),.v (.int .i64 0),.v (.bool false),.v (.int .i64 0),.v (.int .i64 0),.v (.bool false),.v (.int .i64 0),.v (.int .i64 0)] 105)),(110,some (blk 110 [.v (.int .i64 x1.e.op.time),.v (.bool x1.e.op.insert),.v (.int .i64 x1.e.op.item.key),.v (.int .i64 x1.e.op.item.id),.v (.bool x1.e.here),.v (.bool x1.e.took.found),.v (.int .i64 x1.e.took.item.key),.v (.int .i64 x1.e.took.item.id),.v (.int .i64 x1.left.index),.v (.int .i64 x1.left.gen),.v (.int .i64 x1.right.index),.v (.int .i64 x1.right.gen),.v (.int .i64 x1.size),.v (.int .i64 x1.sum.count.n),.v (.int .i64 x1.sum.count.sum),.v (.int .i64 x1.sum.count.low),.v (.int .i64 x1.sum.weight.n),.v (.int .i64 x1.sum.weight.sum),.v (.int .i64 x1.sum.weight.low),.v (.int .i64 x1.sum.deletes),.v (.int .i64 x1.sum.free),.v (.int .i64 x1.sum.most.key),.v (.int .i64 x1.sum.most.id),.v (.bool x1.sum.gone.found),.v (.int .i64 x1.sum.gone.item.key),.v (.int .i64 x1.sum.gone.item.id),.v (.bool x1.sum.least.found),.v (.int .i64 x1.sum.least.item.key),.v (.int .i64 x1.sum.least.item.id)] 140)),(111,some (blk 111 [.v (.int .i64 x9.count.n),.v (.int .i64 x9.count.sum),.v (.int .i64 x9.count.low),.v (.int .i64 x9.weight.n),.v (.int .i64 x9.weight.sum),.v (.int .i64 x9.weight.low),.v (.int .i64 x9.deletes),.v (.int .i64 x9.free),.v (.int .i64 x9.most.key),.v (.int .i64 x9.most.id),.v (.bool x9.gone.found),.v (.int .i64 x9.gone.item.key),.v (.int .i64 x9.gone.item.id),.v (.bool x9.least.found),.v (.int .i64 x9.least.item.key),.v (.int .i64 x9.least.item.id)] 105))] _ _
     refine G.seq ?_
     obtain ⟨x12,hx12,H0⟩:=bnd H0
     obtain ⟨x13,hx13,H0⟩:=bnd H0
     refine G.rd mixed<|K.mv R R<|K.fieldAddr Y g0 R t140 R R<|K.loadS Y _ g0 R R t119 R R R<|K.mv R R<|K.mv R R<|K.bin (V:=.int .i64 (w64 (a2 - x7.size))) g0 R R (fun _=>R) R<|K.bin (V:=.int .i64 (w64 ((w64 (a2 - x7.size)) - 1))) g0 R R (fun _=>R) R<|K.loadS Y _ g0 R R t105 R R R<|K.mkIface Y g0 R (mkI Tryz.underlying105 R) R<|K.loadS Y _ g0 R R t105 R R R<|K.callR [((.tmp 88),_),((.tmp 89),_)] (wave_Swell_Plus_con (k:=k) hx12) (toFn_invoke (cf 211 R) (me105_211) R) g0 ⟨R,R,trivial⟩ trivial R R R<|K.mv R R<|K.cR (cf 145 R) (ih hx13) g0 R R R R<|K.mv R R<|K.extract g0 R R R<|K.extract g0 R R R<|K.as R R<|K.store Y _ g0 R R R t105 R R R R R<|K.nil<|And.intro (by kernel_rfl)<|At.ns<|G.seq<|G.rg<|K.mv R R<|K.bin (V:=.bool (decide (x13.1≥0))) g0 R R (fun _=>R) R<|K.nil<|At.next<|G.cond R (fun h12=>?_) (fun h12=>?_)
     ·
      replace H0:=bif_t H0 h12
      refine G.rg<|K.mv R R<|K.mv R R<|K.bin (V:=.int .i64 (w64 (x7.size+1))) g0 R R (fun _=>R) R<|K.bin (V:=.int .i64 (w64 (x13.1+(w64 (x7.size+1))))) g0 R R (fun _=>R) R<|K.as R R<|K.nil<|At.ns<|G.rd mixed<|K.mv R R<|K.loadS Y _ g0 R R t105 R R R<|K.as R R<|K.store Y _ g0 R R R t105 R R R R R<|K.nil<|And.intro (by kernel_rfl)<|At.next<|G.ret<|At.done Y [(.tmp 10,.c _),(.cell 11 105,.agg [_,_,_,_,_,_,_,_,_,_,_,_,_,_,_,_])] R ⟨.tmp R,.st R R t105 R R,trivial⟩ (to':=[(0,_),(1,_),(2,_)]) ⟨R,R,R,trivial⟩ ?_ ?_ R R R (.inl R)
      · cases H0;rfl
      · cases H0;rfl
     ·
      replace H0:=bif_f H0 h12
      refine G.skip<|At.ns<|G.rd mixed<|K.mv R R<|K.loadS Y _ g0 R R t105 R R R<|K.as R R<|K.store Y _ g0 R R R t105 R R R R R<|K.nil<|And.intro (by kernel_rfl)<|At.next<|G.ret<|At.done Y [(.tmp 10,.c _),(.cell 11 105,.agg [_,_,_,_,_,_,_,_,_,_,_,_,_,_,_,_])] R ⟨.tmp R,.st R R t105 R R,trivial⟩ (to':=[(0,_),(1,_),(2,_)]) ⟨R,R,R,trivial⟩ ?_ ?_ R R R (.inl R)
      · cases H0;rfl
      · cases H0;rfl
theorem Tree_firstM_f14_con {k n:Nat} {g4:FuncId} {fn4:TSwell→TSwell→Option Bool} {cv4:List Value} {Tc4:TypeId} (cg4:fnB Tryz.prog g4=true) (hm4 : ∀ (c:Nat) {z0:TSwell} {z1:TSwell} {y:Bool},fn4 z0 z1=some y→SCon Tryz.prog g4 [.a (.agg ((eTSwell z0).map .v)),.a (.agg ((eTSwell z1).map .v)),SV.p c 0] [(c,vblk c cv4 Tc4)] (SV.b y) [(c,vblk c cv4 Tc4)] []) {p1:Pool (TNode TMark TSwell)} {a1:TRef} {a2:Int} {a3:TSwell} {ri0 rg0:Int} {r:Int×TSwell}  (H0:Tree_first.r opsM k n p1 a1 a2 a3 fn4=some r) (m0 m1 m2:Nat):Tree_firstM_f14_st g4 cv4 Tc4 p1 a1 a2 a3 ri0 rg0 r m0 m1 m2 :=
 SCon.ren (rn [(0,m0),(1,m1),(2,m2)]) (Tree_firstM_f14_con0 (k:=k) cg4 hm4  H0) ⟨(blk_ren R R),(pl_ren R),(vblk_ren R),trivial⟩ ⟨(blk_ren R R),(pl_ren R),(vblk_ren R),trivial⟩ (by simp) (by simp)
abbrev Tree_FirstM_f12_st (g2:FuncId) (cv2:List Value) (Tc2:TypeId) (p1:Pool (TNode TMark TSwell)) (rt0:TRef) (a1:Int) (r:Int) (m0:Nat) (m1:Nat) (m2:Nat):Prop:=SCon Tryz.prog 122 [SV.p m0 0,.a (.c (.v (.int .i64 a1))),.a (.c (.fn (.func g2) [m2]))] [(m0,blk m0 [.p m1 0,.i rt0.index,.i rt0.gen] 144),(m1,plM m1 p1),(m2,vblk m2 cv2 Tc2)] (.a (.c (.v (.int .i64 r)))) [(m0,blk m0 [.p m1 0,.i rt0.index,.i rt0.gen] 144),(m1,plM m1 p1),(m2,vblk m2 cv2 Tc2)] []
theorem Tree_FirstM_f12_con0 {k:Nat} {g2:FuncId} {fn2:TSwell→TSwell→Option Bool} {cv2:List Value} {Tc2:TypeId} (cg2:fnB Tryz.prog g2=true) (hm2 : ∀ (c:Nat) {z0:TSwell} {z1:TSwell} {y:Bool},fn2 z0 z1=some y→SCon Tryz.prog g2 [.a (.agg ((eTSwell z0).map .v)),.a (.agg ((eTSwell z1).map .v)),SV.p c 0] [(c,vblk c cv2 Tc2)] (SV.b y) [(c,vblk c cv2 Tc2)] []) {p1:Pool (TNode TMark TSwell)} {rt0:TRef} {a1:Int} {r:Int}  (H0:Tree_First.f opsM k p1 rt0 a1 fn2=some r):Tree_FirstM_f12_st g2 cv2 Tc2 p1 rt0 a1 r 0 1 2:=by
 rw [Tree_First.f] at H0
 refine spec_of [(0,_),(1,_),(2,_)] [(0,_),(1,_),(2,_)] 27 Tryz.func122 R Tryz.ntmps122 R R R R (fun β W F=>?_)
 refine G.seq<|G.rg<|K.as R R<|K.nil<|At.nr<|K.alloc Y 100 _ g0 t105 R R R R R<|K.nil<|At.ns ?_
 obtain ⟨x1,hx1,H0⟩:=bnd H0
 obtain ⟨x2,hx2,H0⟩:=bnd H0
 exact G.rd mixed<|K.mv R R<|K.mv R R<|K.nilCheck g0 R R<|K.fieldAddr Y g0 R t144 R R<|K.loadS Y _ g0 R R t119 R R R<|K.mv R R<|K.bi2 (V:=.int .i64 (gmax a1 0)) g0 R R (fun _ _=>R) R<|K.mv R R<|K.cR (cf 56 R) (Tree_LenM_con hx1 0 1) g0 R R R R<|K.bi2 (V:=.int .i64 (gmin (gmax a1 0) x1)) g0 R R (fun _ _=>R) R<|K.loadS Y _ g0 R R t105 R R R<|K.mv R R<|K.cR (cf 145 R) (Tree_firstM_f14_con cg2 hm2 hx2 0 1 2) g0 R R R R<|K.mv R R<|K.extract g0 R R R<|K.extract g0 R R R<|K.alloc Y 101 _ g0 t105 R R R R R<|K.as R R<|K.store Y _ g0 R R R t105 R R R R R<|K.nil<|And.intro (by kernel_rfl)<|At.nr<|K.mv R R<|K.as R R<|K.nil<|At.next<|G.ret<|At.dr Y [6] R R (by cases H0;rfl) (by cases H0;rfl) R R R
theorem Tree_FirstM_f12_con {k:Nat} {g2:FuncId} {fn2:TSwell→TSwell→Option Bool} {cv2:List Value} {Tc2:TypeId} (cg2:fnB Tryz.prog g2=true) (hm2 : ∀ (c:Nat) {z0:TSwell} {z1:TSwell} {y:Bool},fn2 z0 z1=some y→SCon Tryz.prog g2 [.a (.agg ((eTSwell z0).map .v)),.a (.agg ((eTSwell z1).map .v)),SV.p c 0] [(c,vblk c cv2 Tc2)] (SV.b y) [(c,vblk c cv2 Tc2)] []) {p1:Pool (TNode TMark TSwell)} {rt0:TRef} {a1:Int} {r:Int}  (H0:Tree_First.f opsM k p1 rt0 a1 fn2=some r) (m0 m1 m2:Nat):Tree_FirstM_f12_st g2 cv2 Tc2 p1 rt0 a1 r m0 m1 m2 :=
 SCon.ren (rn [(0,m0),(1,m1),(2,m2)]) (Tree_FirstM_f12_con0 (k:=k) cg2 hm2  H0) ⟨(blk_ren R R),(pl_ren R),(vblk_ren R),trivial⟩ ⟨(blk_ren R R),(pl_ren R),(vblk_ren R),trivial⟩ (by simp) (by simp)
abbrev Tree_lastM_st (p1:Pool (TNode TMark TSwell)) (a1:TRef) (ri0:Int) (rg0:Int) (r:TRef×TRef×Pool (TNode TMark TSwell)) (m0:Nat) (m1:Nat):Prop:=SCon Tryz.prog 144 [SV.p m0 0,.a (.agg ((eTRef a1).map .v))] [(m0,blk m0 [.p m1 0,.i ri0,.i rg0] 144),(m1,plM m1 p1)] (.tup [.agg ((eTRef r.1).map .v),.agg ((eTRef r.2.1).map .v)]) [(m0,blk m0 [.p m1 0,.i ri0,.i rg0] 144),(m1,plM m1 r.2.2)] []
theorem Tree_lastM_con0 {k:Nat}  : ∀ {n:Nat} {p1:Pool (TNode TMark TSwell)} {a1:TRef} {ri0 rg0:Int} {r:TRef×TRef×Pool (TNode TMark TSwell)}  (H0:Tree_last.r opsM k n p1 a1=some r),Tree_lastM_st p1 a1 ri0 rg0 r 0 1:=by
 intro n
 induction n with
 | zero => intro p1 a1 ri0 rg0 r H0; exact absurd H0 (by simp [Tree_last.r])
 | succ n ih =>
  intro p1 a1 ri0 rg0 r H0
  rw [Tree_last.r] at H0
  refine spec_of [(0,_),(1,_)] [(0,_),(1,_)] 33 Tryz.func144 R Tryz.ntmps144 R R R R (fun β W F=>?_)
  refine G.seq<|G.rg<|K.box Y 100 _ g0 R R R R R R<|K.alloc Y 101 _ g0 t119 R R R R R<|K.alloc Y 102 _ g0 t119 R R R R R<|K.nil<|At.ns ?_
  obtain ⟨x1,hx1,H0⟩:=bnd H0
  refine G.rg<|K.mv R R<|K.loadS Y _ g0 R R t119 R R R<|K.cR (cf 83 R) (Tree_getM_con hx1 0 1) g0 R R R R<|K.alloc Y 103 _ g0 t140 R R R R R<|K.store Y _ g0 R R R t140 R R R R R<|K.nil<|At.ns<|G.seq<|G.rg<|K.fieldAddr Y g0 R t140 R R<|K.fieldAddr Y g0 R t119 R R<|K.load1 Y g0 R R t3 R R<|K.bin (V:=.bool (x1.right.gen == 0)) g0 R R (fun _=>R) R<|K.nil<|At.next<|G.cond R (fun h1=>?_) (fun h1=>?_)
  ·
   replace H0:=bif_t H0 h1
   refine G.seq<|G.rd mixed<|K.fieldAddr Y g0 R t140 R R<|K.loadS Y _ g0 R R t119 R R R<|K.loadS Y _ g0 R R t119 R R R<|K.store Y _ g0 R R R t119 R R R R R<|K.store Y _ g0 R R R t119 R R R R R<|K.nil<|And.intro (by kernel_rfl)<|At.next<|G.ret<|At.over_ret<|At.done Y [(.cell 4 119,.agg [_,_]),(.cell 5 119,.agg [_,_])] R ⟨.st R R t119 R R,.st R R t119 R R,trivial⟩ (to':=[(0,_),(1,_)]) ⟨R,R,trivial⟩ ?_ ?_ R R R (.inl R)
   · cases H0;rfl
   · cases H0;rfl
  ·
   replace H0:=bif_f H0 h1
   refine G.skip<|At.ns ?_
   obtain ⟨x2,hx2,H0⟩:=bnd H0
   refine G.rg<|K.mv R R<|K.fieldAddr Y g0 R t140 R R<|K.loadS Y _ g0 R R t119 R R R<|K.c0 (cf 144 R) (ih hx2) g0 R R R R<|K.mv R R<|K.extract g0 R R R<|K.extract g0 R R R<|K.alloc Y 104 _ g0 t119 R R R R R<|K.alloc Y 105 _ g0 t119 R R R R R<|K.store Y _ g0 R R R t119 R R R R R<|K.store Y _ g0 R R R t119 R R R R R<|K.nil<|At.ns ?_
   obtain ⟨x3,hx3,H0⟩:=bnd H0
   refine G.rd mixed<|K.mv R R<|K.fieldAddr Y g0 R t140 R R<|K.loadS Y _ g0 R R t119 R R R<|K.loadS Y _ g0 R R t119 R R R<|K.loadS Y _ g0 R R t119 R R R<|K.c0 (cf 118 R) (Tree_linkM_con hx3 0 1) g0 R R R R<|K.loadS Y _ g0 R R t119 R R R<|K.store Y _ g0 R R R t119 R R R R R<|K.store Y _ g0 R R R t119 R R R R R<|K.nil<|And.intro (by kernel_rfl)<|At.next<|G.ret<|At.done Y [(.cell 4 119,.agg [_,_]),(.cell 5 119,.agg [_,_])] R ⟨.st R R t119 R R,.st R R t119 R R,trivial⟩ (to':=[(0,_),(1,_)]) ⟨R,R,trivial⟩ ?_ ?_ R R R (.inl R)
   · cases H0;rfl
   · cases H0;rfl
theorem Tree_lastM_con {k n:Nat}  {p1:Pool (TNode TMark TSwell)} {a1:TRef} {ri0 rg0:Int} {r:TRef×TRef×Pool (TNode TMark TSwell)}  (H0:Tree_last.r opsM k n p1 a1=some r) (m0 m1:Nat):Tree_lastM_st p1 a1 ri0 rg0 r m0 m1 :=
 SCon.ren (rn [(0,m0),(1,m1)]) (Tree_lastM_con0 (k:=k)   H0) ⟨(blk_ren R R),(pl_ren R),trivial⟩ ⟨(blk_ren R R),(pl_ren R),trivial⟩ (by simp) (by simp)
abbrev Tree_mergeM_st (p1:Pool (TNode TMark TSwell)) (a1:TRef) (a2:TRef) (ri0:Int) (rg0:Int) (r:TRef×Pool (TNode TMark TSwell)) (m0:Nat) (m1:Nat):Prop:=SCon Tryz.prog 120 [SV.p m0 0,.a (.agg ((eTRef a1).map .v)),.a (.agg ((eTRef a2).map .v))] [(m0,blk m0 [.p m1 0,.i ri0,.i rg0] 144),(m1,plM m1 p1)] (.a (.agg ((eTRef r.1).map .v))) [(m0,blk m0 [.p m1 0,.i ri0,.i rg0] 144),(m1,plM m1 r.2)] []
theorem Tree_mergeM_con0 {k:Nat}  {p1:Pool (TNode TMark TSwell)} {a1:TRef} {a2:TRef} {ri0 rg0:Int} {r:TRef×Pool (TNode TMark TSwell)}  (H0:Tree_merge.f opsM k p1 a1 a2=some r):Tree_mergeM_st p1 a1 a2 ri0 rg0 r 0 1:=by
 rw [Tree_merge.f] at H0
 refine spec_of [(0,_),(1,_),(2,_)] [(0,_),(1,_)] 30 Tryz.func120 R Tryz.ntmps120 R R R R (fun β W F=>?_)
 refine G.seq<|G.rg<|K.box Y 100 _ g0 R R R R R R<|K.box Y 101 _ g0 R R R R R R<|K.alloc Y 102 _ g0 t119 R R R R R<|K.nil<|At.ns<|G.block<|G.seq<|G.rg<|K.fieldAddr Y g0 R t119 R R<|K.load1 Y g0 R R t3 R R<|K.bin (V:=.bool (a1.gen == 0)) g0 R R (fun _=>R) R<|K.as R R<|K.nil<|At.next<|G.cond R (fun h1=>?_) (fun h1=>?_)
 ·
  replace H0:=bif_t H0 h1
  refine G.seq<|G.rg<|K.loadS Y _ g0 R R t119 R R R<|K.store Y _ g0 R R R t119 R R R R R<|K.nil<|At.next<|G.ret<|At.block_ret<|At.over_ret<|At.done Y [(.cell 6 119,.agg [_,_])] R ⟨.st R R t119 R R,trivial⟩ (to':=[(0,_),(1,_)]) ⟨R,R,trivial⟩ ?_ ?_ R R R (.inl R)
  · cases H0;rfl
  · cases H0;rfl
 ·
  replace H0:=bif_f H0 h1
  refine G.seq<|G.rg<|K.fieldAddr Y g0 R t119 R R<|K.load1 Y g0 R R t3 R R<|K.bin (V:=.bool (a2.gen == 0)) g0 R R (fun _=>R) R<|K.as R R<|K.nil<|At.next<|G.cond R (fun h2=>?_) (fun h2=>?_)
  ·
   replace H0:=bif_t H0 h2
   refine G.seq<|G.rg<|K.loadS Y _ g0 R R t119 R R R<|K.store Y _ g0 R R R t119 R R R R R<|K.nil<|At.next<|G.ret<|At.block_ret<|At.over_ret<|At.done Y [(.cell 6 119,.agg [_,_])] R ⟨.st R R t119 R R,trivial⟩ (to':=[(0,_),(1,_)]) ⟨R,R,trivial⟩ ?_ ?_ R R R (.inl R)
   · cases H0;rfl
   · cases H0;rfl
  ·
   replace H0:=bif_f H0 h2
   refine G.skip<|At.block_normal<|At.ns ?_
   obtain ⟨x1,hx1,H0⟩:=bnd H0
   refine G.rg<|K.mv R R<|K.loadS Y _ g0 R R t119 R R R<|K.c0 (cf 144 R) (Tree_lastM_con hx1 0 1) g0 R R R R<|K.mv R R<|K.extract g0 R R R<|K.extract g0 R R R<|K.alloc Y 103 _ g0 t119 R R R R R<|K.alloc Y 104 _ g0 t119 R R R R R<|K.store Y _ g0 R R R t119 R R R R R<|K.store Y _ g0 R R R t119 R R R R R<|K.nil<|At.ns ?_
   obtain ⟨x2,hx2,H0⟩:=bnd H0
   refine G.rg<|K.mv R R<|K.loadS Y _ g0 R R t119 R R R<|K.loadS Y _ g0 R R t119 R R R<|K.loadS Y _ g0 R R t119 R R R<|K.c0 (cf 118 R) (Tree_linkM_con hx2 0 1) g0 R R R R<|K.store Y _ g0 R R R t119 R R R R R<|K.nil<|At.next<|G.ret<|At.done Y [(.cell 6 119,.agg [_,_])] R ⟨.st R R t119 R R,trivial⟩ (to':=[(0,_),(1,_)]) ⟨R,R,trivial⟩ ?_ ?_ R R R (.inl R)
   · cases H0;rfl
   · cases H0;rfl
theorem Tree_mergeM_con {k:Nat}  {p1:Pool (TNode TMark TSwell)} {a1:TRef} {a2:TRef} {ri0 rg0:Int} {r:TRef×Pool (TNode TMark TSwell)}  (H0:Tree_merge.f opsM k p1 a1 a2=some r) (m0 m1:Nat):Tree_mergeM_st p1 a1 a2 ri0 rg0 r m0 m1 :=
 SCon.ren (rn [(0,m0),(1,m1)]) (Tree_mergeM_con0 (k:=k)   H0) ⟨(blk_ren R R),(pl_ren R),trivial⟩ ⟨(blk_ren R R),(pl_ren R),trivial⟩ (by simp) (by simp)
abbrev Tree_dropM_st (p1:Pool (TNode TMark TSwell)) (a1:TRef) (a2:TMark) (ri0:Int) (rg0:Int) (r:TRef×TMark×Bool×Pool (TNode TMark TSwell)) (m0:Nat) (m1:Nat):Prop:=SCon Tryz.prog 88 [SV.p m0 0,.a (.agg ((eTRef a1).map .v)),.a (.agg ((eTMark a2).map .v))] [(m0,blk m0 [.p m1 0,.i ri0,.i rg0] 144),(m1,plM m1 p1)] (.tup [.agg ((eTRef r.1).map .v),.agg ((eTMark r.2.1).map .v),.c (.v (.bool r.2.2.1))]) [(m0,blk m0 [.p m1 0,.i ri0,.i rg0] 144),(m1,plM m1 r.2.2.2)] []
set_option maxHeartbeats 4000000 in
theorem Tree_dropM_con0 {k:Nat}  : ∀ {n:Nat} {p1:Pool (TNode TMark TSwell)} {a1:TRef} {a2:TMark} {ri0 rg0:Int} {r:TRef×TMark×Bool×Pool (TNode TMark TSwell)}  (H0:Tree_drop.r opsM k n p1 a1 a2=some r),Tree_dropM_st p1 a1 a2 ri0 rg0 r 0 1:=by
 intro n
 induction n with
 | zero => intro p1 a1 a2 ri0 rg0 r H0; exact absurd H0 (by simp [Tree_drop.r])
 | succ n ih =>
  intro p1 a1 a2 ri0 rg0 r H0
  rw [Tree_drop.r] at H0
  refine spec_of [(0,_),(1,_),(2,_)] [(0,_),(1,_)] 91 Tryz.func88 R Tryz.ntmps88 R R R R (fun β W F=>?_)
  refine G.seq<|G.rg<|K.box Y 100 _ g0 R R R R R R<|K.box Y 101 _ g0 R R R R R R<|K.alloc Y 102 _ g0 t119 R R R R R<|K.alloc Y 103 _ g0 t101 R R R R R<|K.as R R<|K.nil<|At.ns<|G.seq<|G.rg<|K.fieldAddr Y g0 R t119 R R<|K.load1 Y g0 R R t3 R R<|K.bin (V:=.bool (a1.gen == 0)) g0 R R (fun _=>R) R<|K.nil<|At.next<|G.cond R (fun h1=>?_) (fun h1=>?_)
  ·
   replace H0:=bif_t H0 h1
   refine G.seq<|G.rg<|K.alloc Y 104 _ g0 t101 R R R R R<|K.nil<|At.ns<|G.rd mixed<|K.loadS Y _ g0 R R t119 R R R<|K.loadS Y _ g0 R R t101 R R R<|K.store Y _ g0 R R R t119 R R R R R<|K.store Y _ g0 R R R t101 R R R R R<|K.as R R<|K.nil<|And.intro (by kernel_rfl)<|At.next<|G.ret<|At.over_ret<|At.done Y [(.cell 6 119,.agg [_,_]),(.cell 7 101,.agg [_,_,_,_,_,_,_,_]),(.tmp 8,.c _)] R ⟨.st R R t119 R R,.st R R t101 R R,.tmp R,trivial⟩ (to':=[(0,_),(1,_)]) ⟨R,R,trivial⟩ ?_ ?_ R R R (.inl R)
   · cases H0;rfl
   · cases H0;rfl
  ·
   replace H0:=bif_f H0 h1
   refine G.skip<|At.ns ?_
   obtain ⟨x1,hx1,H0⟩:=bnd H0
   refine G.rg<|K.mv R R<|K.loadS Y _ g0 R R t119 R R R<|K.cR (cf 83 R) (Tree_getM_con hx1 0 1) g0 R R R R<|K.alloc Y 105 _ g0 t140 R R R R R<|K.store Y _ g0 R R R t140 R R R R R<|K.nil<|At.ns ?_
   obtain ⟨x2,hx2,H0⟩:=bnd H0
   refine G.rg<|K.loadS Y _ g0 R R t101 R R R<|K.mkIface Y g0 R (mkI Tryz.underlying101 R) R<|K.fieldAddr Y g0 R t140 R R<|K.loadS Y _ g0 R R t101 R R R<|K.callR [((.tmp 27),_),((.tmp 29),_)] (wave_Mark_Compare_con (k:=k) hx2) (toFn_invoke (cf 206 R) (me101_206) R) g0 ⟨R,R,trivial⟩ trivial R R R<|K.as R R<|K.nil<|At.ns<|G.block<|G.seq<|G.rg<|K.mv R R<|K.bin (V:=.bool (decide (x2<0))) g0 R R (fun _=>R) R<|K.as R R<|K.nil<|At.next<|G.cond R (fun h2=>?_) (fun h2=>?_)
   ·
    replace H0:=bif_t H0 h2
    refine G.seq ?_
    obtain ⟨x3,hx3,H0⟩:=bnd H0
    refine G.rg<|K.mv R R<|K.fieldAddr Y g0 R t140 R R<|K.loadS Y _ g0 R R t119 R R R<|K.loadS Y _ g0 R R t101 R R R<|K.c0 (cf 88 R) (ih hx3) g0 R R R R<|K.mv R R<|K.extract g0 R R R<|K.extract g0 R R R<|K.extract g0 R R R<|K.alloc Y 106 _ g0 t119 R R R R R<|K.alloc Y 107 _ g0 t101 R R R R R<|K.store Y _ g0 R R R t119 R R R R R<|K.store Y _ g0 R R R t101 R R R R R<|K.as R R<|K.nil<|At.ns<|G.seq<|G.rg<|K.mv R R<|K.un (V:=.bool (!x3.2.2.1)) g0 R (fun _=>R) R<|K.nil<|At.next<|G.cond R (fun h3=>?_) (fun h3=>?_)
    ·
     replace H0:=bif_t H0 h3
     refine G.seq<|G.rd mixed<|K.loadS Y _ g0 R R t119 R R R<|K.loadS Y _ g0 R R t101 R R R<|K.store Y _ g0 R R R t119 R R R R R<|K.store Y _ g0 R R R t101 R R R R R<|K.as R R<|K.nil<|And.intro (by kernel_rfl)<|At.next<|G.ret<|At.over_ret<|At.block_ret<|At.over_ret<|At.done Y [(.cell 6 119,.agg [_,_]),(.cell 7 101,.agg [_,_,_,_,_,_,_,_]),(.tmp 8,.c _)] R ⟨.st R R t119 R R,.st R R t101 R R,.tmp R,trivial⟩ (to':=[(0,_),(1,_)]) ⟨R,R,trivial⟩ ?_ ?_ R R R (.inl R)
     · cases H0;rfl
     · cases H0;rfl
    ·
     replace H0:=bif_f H0 h3
     refine G.skip<|At.ns ?_
     obtain ⟨x4,hx4,H0⟩:=bnd H0
     refine G.rd mixed<|K.mv R R<|K.loadS Y _ g0 R R t119 R R R<|K.loadS Y _ g0 R R t119 R R R<|K.fieldAddr Y g0 R t140 R R<|K.loadS Y _ g0 R R t119 R R R<|K.c0 (cf 118 R) (Tree_linkM_con hx4 0 1) g0 R R R R<|K.loadS Y _ g0 R R t101 R R R<|K.store Y _ g0 R R R t119 R R R R R<|K.store Y _ g0 R R R t101 R R R R R<|K.as R R<|K.nil<|And.intro (by kernel_rfl)<|At.next<|G.ret<|At.block_ret<|At.over_ret<|At.done Y [(.cell 6 119,.agg [_,_]),(.cell 7 101,.agg [_,_,_,_,_,_,_,_]),(.tmp 8,.c _)] R ⟨.st R R t119 R R,.st R R t101 R R,.tmp R,trivial⟩ (to':=[(0,_),(1,_)]) ⟨R,R,trivial⟩ ?_ ?_ R R R (.inl R)
     · cases H0;rfl
     · cases H0;rfl
   ·
    replace H0:=bif_f H0 h2
    refine G.seq<|G.rg<|K.mv R R<|K.bin (V:=.bool (decide (x2>0))) g0 R R (fun _=>R) R<|K.as R R<|K.nil<|At.next<|G.cond R (fun h4=>?_) (fun h4=>?_)
    ·
     replace H0:=bif_t H0 h4
     refine G.seq ?_
     obtain ⟨x5,hx5,H0⟩:=bnd H0
     refine G.rg<|K.mv R R<|K.fieldAddr Y g0 R t140 R R<|K.loadS Y _ g0 R R t119 R R R<|K.loadS Y _ g0 R R t101 R R R<|K.c0 (cf 88 R) (ih hx5) g0 R R R R<|K.mv R R<|K.extract g0 R R R<|K.extract g0 R R R<|K.extract g0 R R R<|K.alloc Y 108 _ g0 t119 R R R R R<|K.alloc Y 109 _ g0 t101 R R R R R<|K.store Y _ g0 R R R t119 R R R R R<|K.store Y _ g0 R R R t101 R R R R R<|K.as R R<|K.nil<|At.ns<|G.seq<|G.rg<|K.mv R R<|K.un (V:=.bool (!x5.2.2.1)) g0 R (fun _=>R) R<|K.nil<|At.next<|G.cond R (fun h5=>?_) (fun h5=>?_)
     ·
      replace H0:=bif_t H0 h5
      refine G.seq<|G.rd mixed<|K.loadS Y _ g0 R R t119 R R R<|K.loadS Y _ g0 R R t101 R R R<|K.store Y _ g0 R R R t119 R R R R R<|K.store Y _ g0 R R R t101 R R R R R<|K.as R R<|K.nil<|And.intro (by kernel_rfl)<|At.next<|G.ret<|At.over_ret<|At.block_ret<|At.over_ret<|At.done Y [(.cell 6 119,.agg [_,_]),(.cell 7 101,.agg [_,_,_,_,_,_,_,_]),(.tmp 8,.c _)] R ⟨.st R R t119 R R,.st R R t101 R R,.tmp R,trivial⟩ (to':=[(0,_),(1,_)]) ⟨R,R,trivial⟩ ?_ ?_ R R R (.inl R)
      · cases H0;rfl
      · cases H0;rfl
     ·
      replace H0:=bif_f H0 h5
      refine G.skip<|At.ns ?_
      obtain ⟨x6,hx6,H0⟩:=bnd H0
      refine G.rd mixed<|K.mv R R<|K.fieldAddr Y g0 R t140 R R<|K.loadS Y _ g0 R R t119 R R R<|K.loadS Y _ g0 R R t119 R R R<|K.loadS Y _ g0 R R t119 R R R<|K.c0 (cf 118 R) (Tree_linkM_con hx6 0 1) g0 R R R R<|K.loadS Y _ g0 R R t101 R R R<|K.store Y _ g0 R R R t119 R R R R R<|K.store Y _ g0 R R R t101 R R R R R<|K.as R R<|K.nil<|And.intro (by kernel_rfl)<|At.next<|G.ret<|At.block_ret<|At.over_ret<|At.done Y [(.cell 6 119,.agg [_,_]),(.cell 7 101,.agg [_,_,_,_,_,_,_,_]),(.tmp 8,.c _)] R ⟨.st R R t119 R R,.st R R t101 R R,.tmp R,trivial⟩ (to':=[(0,_),(1,_)]) ⟨R,R,trivial⟩ ?_ ?_ R R R (.inl R)
      · cases H0;rfl
      · cases H0;rfl
    ·
     replace H0:=bif_f H0 h4
     refine G.skip<|At.block_normal<|At.ns ?_
     obtain ⟨x7,hx7,H0⟩:=bnd H0
     refine G.rd mixed<|K.mv R R<|K.nilCheck g0 R R<|K.fieldAddr Y g0 R t144 R R<|K.load1 Y g0 R R t142 R R<|K.loadS Y _ g0 R R t119 R R R<|K.call0 [(.func 119,_),((.tmp 80),_),((.tmp 81),_)] (pldropM hx7 1) (toFn_func (cf 119 R) R) g0 ⟨R,R,R,trivial⟩ ⟨R,trivial⟩ R R R R R R<|K.nil<|And.intro (by kernel_rfl)<|At.ns ?_
     obtain ⟨x8,hx8,H0⟩:=bnd H0
     refine G.rd mixed<|K.mv R R<|K.fieldAddr Y g0 R t140 R R<|K.loadS Y _ g0 R R t119 R R R<|K.fieldAddr Y g0 R t140 R R<|K.loadS Y _ g0 R R t119 R R R<|K.c0 (cf 120 R) (Tree_mergeM_con hx8 0 1) g0 R R R R<|K.fieldAddr Y g0 R t140 R R<|K.loadS Y _ g0 R R t101 R R R<|K.store Y _ g0 R R R t119 R R R R R<|K.store Y _ g0 R R R t101 R R R R R<|K.as R R<|K.nil<|And.intro (by kernel_rfl)<|At.next<|G.ret<|At.done Y [(.cell 6 119,.agg [_,_]),(.cell 7 101,.agg [_,_,_,_,_,_,_,_]),(.tmp 8,.c _)] R ⟨.st R R t119 R R,.st R R t101 R R,.tmp R,trivial⟩ (to':=[(0,_),(1,_)]) ⟨R,R,trivial⟩ ?_ ?_ R R R (.inl R)
     · cases H0;rfl
     · cases H0;rfl
theorem Tree_dropM_con {k n:Nat}  {p1:Pool (TNode TMark TSwell)} {a1:TRef} {a2:TMark} {ri0 rg0:Int} {r:TRef×TMark×Bool×Pool (TNode TMark TSwell)}  (H0:Tree_drop.r opsM k n p1 a1 a2=some r) (m0 m1:Nat):Tree_dropM_st p1 a1 a2 ri0 rg0 r m0 m1 :=
 SCon.ren (rn [(0,m0),(1,m1)]) (Tree_dropM_con0 (k:=k)   H0) ⟨(blk_ren R R),(pl_ren R),trivial⟩ ⟨(blk_ren R R),(pl_ren R),trivial⟩ (by simp) (by simp)
abbrev Tree_DropM_st (p1:Pool (TNode TMark TSwell)) (rt0:TRef) (a1:TMark) (r:TMark×Bool×TRef×Pool (TNode TMark TSwell)) (m0:Nat) (m1:Nat):Prop:=SCon Tryz.prog 61 [SV.p m0 0,.a (.agg ((eTMark a1).map .v))] [(m0,blk m0 [.p m1 0,.i rt0.index,.i rt0.gen] 144),(m1,plM m1 p1)] (.tup [.agg ((eTMark r.1).map .v),.c (.v (.bool r.2.1))]) [(m0,blk m0 [.p m1 0,.i r.2.2.1.index,.i r.2.2.1.gen] 144),(m1,plM m1 r.2.2.2)] []
theorem Tree_DropM_con0 {k:Nat}  {p1:Pool (TNode TMark TSwell)} {rt0:TRef} {a1:TMark} {r:TMark×Bool×TRef×Pool (TNode TMark TSwell)}  (H0:Tree_Drop.f opsM k p1 rt0 a1=some r):Tree_DropM_st p1 rt0 a1 r 0 1:=by
 rw [Tree_Drop.f] at H0
 refine spec_of [(0,_),(1,_)] [(0,_),(1,_)] 26 Tryz.func61 R Tryz.ntmps61 R R R R (fun β W F=>?_)
 refine G.seq<|G.rg<|K.box Y 100 _ g0 R R R R R R<|K.alloc Y 101 _ g0 t101 R R R R R<|K.as R R<|K.nil<|At.ns ?_
 obtain ⟨x1,hx1,H0⟩:=bnd H0
 refine G.rd mixed<|K.mv R R<|K.mv R R<|K.nilCheck g0 R R<|K.fieldAddr Y g0 R t144 R R<|K.loadS Y _ g0 R R t119 R R R<|K.loadS Y _ g0 R R t101 R R R<|K.c0 (cf 88 R) (Tree_dropM_con hx1 0 1) g0 R R R R<|K.mv R R<|K.extract g0 R R R<|K.extract g0 R R R<|K.extract g0 R R R<|K.alloc Y 102 _ g0 t119 R R R R R<|K.alloc Y 103 _ g0 t101 R R R R R<|K.store Y _ g0 R R R t119 R R R R R<|K.store Y _ g0 R R R t101 R R R R R<|K.as R R<|K.nil<|And.intro (by kernel_rfl)<|At.nr<|K.mv R R<|K.loadS Y _ g0 R R t119 R R R<|K.nilCheck g0 R R<|K.fieldAddr Y g0 R t144 R R<|K.store Y _ g0 R R R t119 R R R R R<|K.nil<|At.nr<|K.loadS Y _ g0 R R t101 R R R<|K.mv R R<|K.store Y _ g0 R R R t101 R R R R R<|K.as R R<|K.nil<|At.next<|G.ret<|At.done Y [(.cell 4 101,.agg [_,_,_,_,_,_,_,_]),(.tmp 5,.c _)] R ⟨.st R R t101 R R,.tmp R,trivial⟩ (to':=[(0,_),(1,_)]) ⟨R,R,trivial⟩ ?_ ?_ R R R (.inl R)
 · cases H0;rfl
 · cases H0;rfl
theorem Tree_DropM_con {k:Nat}  {p1:Pool (TNode TMark TSwell)} {rt0:TRef} {a1:TMark} {r:TMark×Bool×TRef×Pool (TNode TMark TSwell)}  (H0:Tree_Drop.f opsM k p1 rt0 a1=some r) (m0 m1:Nat):Tree_DropM_st p1 rt0 a1 r m0 m1 :=
 SCon.ren (rn [(0,m0),(1,m1)]) (Tree_DropM_con0 (k:=k)   H0) ⟨(blk_ren R R),(pl_ren R),trivial⟩ ⟨(blk_ren R R),(pl_ren R),trivial⟩ (by simp) (by simp)
abbrev Tree_allM_o2_st (p1:Pool (TNode TMark TSwell)) (a1:TRef) (l2:List TMark) (ri0:Int) (rg0:Int) (r:List TMark) (m0:Nat) (m1:Nat) (m2:Nat) (m30:Nat):Prop:=SCon Tryz.prog 92 [SV.p m0 0,.a (.agg ((eTRef a1).map .v)),.a (.c (.nv m2))] [(m0,blk m0 [.p m1 0,.i ri0,.i rg0] 144),(m1,plM m1 p1),(m2,lrow m2 101 eTMark 8 l2)] (.a (.c (.nv m30))) [(m0,blk m0 [.p m1 0,.i ri0,.i rg0] 144),(m1,plM m1 p1),(m30,lrow m30 101 eTMark 8 r)] [m30]
theorem Tree_allM_o2_con0 {k:Nat}  : ∀ {n:Nat} {p1:Pool (TNode TMark TSwell)} {a1:TRef} {l2:List TMark} {ri0 rg0:Int} {r:List TMark}  (H0:Tree_all.r opsM k n p1 a1 l2=some r),Tree_allM_o2_st p1 a1 l2 ri0 rg0 r 0 1 2 30:=by
 intro n
 induction n with
 | zero => intro p1 a1 l2 ri0 rg0 r H0; exact absurd H0 (by simp [Tree_all.r])
 | succ n ih =>
  intro p1 a1 l2 ri0 rg0 r H0
  rw [Tree_all.r] at H0
  refine spec_of [(0,_),(1,_),(2,_)] [(0,_),(1,_),(2,_)] 28 Tryz.func92 R Tryz.ntmps92 R R R R (fun β W F=>?_)
  refine G.seq<|G.rg<|K.box Y 100 _ g0 R R R R R R<|K.nilRow 101 101 eTMark 8 (.inl R) g0 R R R<|K.nil<|At.ns<|G.seq<|G.rg<|K.fieldAddr Y g0 R t119 R R<|K.load1 Y g0 R R t3 R R<|K.bin (V:=.bool (a1.gen == 0)) g0 R R (fun _=>R) R<|K.nil<|At.next<|G.cond R (fun h1=>?_) (fun h1=>?_)
  ·
   replace H0:=bif_t H0 h1
   exact G.seq<|G.rg<|K.mv R R<|K.as R R<|K.nil<|At.next<|G.ret<|At.over_ret<|At.ren (fs':=[(6,.a (.c (.nv 30)))]) (tl:=[(0,blk 0 [.p 1 0,.v (.int .i64 ri0),.v (.int .i64 rg0)] 144),(1,plM 1 p1),(30,lrow 30 101 eTMark 8 l2)]) [(30,2)] [_,_,_] R ⟨R,trivial⟩ ⟨R,(blk_ren R R),R,(pl_ren R),R,(lrow_ren R),trivial⟩ R<|At.dr Y [6] R R (by cases H0;rfl) (by cases H0;rfl) R R R
  ·
   replace H0:=bif_f H0 h1
   refine G.skip<|At.ns ?_
   obtain ⟨x1,hx1,H0⟩:=bnd H0
   refine G.rg<|K.mv R R<|K.loadS Y _ g0 R R t119 R R R<|K.cR (cf 83 R) (Tree_getM_con hx1 0 1) g0 R R R R<|K.alloc Y 102 _ g0 t140 R R R R R<|K.store Y _ g0 R R R t140 R R R R R<|K.nil<|At.ns ?_
   obtain ⟨x2,hx2,H0⟩:=bnd H0
   obtain ⟨h2,H0⟩:=grd H0
   obtain ⟨x3,hx3,H0⟩:=bnd H0
   exact G.rd mixed<|K.mv R R<|K.fieldAddr Y g0 R t140 R R<|K.loadS Y _ g0 R R t119 R R R<|K.mv R R<|K.fieldAddr Y g0 R t140 R R<|K.loadS Y _ g0 R R t119 R R R<|K.mv R R<|K.cC (cf 92 R) [] (fun β w S2 h=>SCon.rd0 (SCon.ren (ti':=[(0,_),(1,_),(2,_)]) (to':=[(0,_),(1,_),(103,_)]) (rn [(0,0),(1,1),(2,2),(30,103)]) (ih  hx2) ⟨(blk_ren R R),(pl_ren R),(lrow_ren R),trivial⟩ ⟨(blk_ren R R),(pl_ren R),(lrow_ren R),trivial⟩ (rn_nd (hd_ [0,1,2,103] R) R R) (rn_ks (hd_ [0,1,2,103] R) R R R)) S2 w h) g0 (fun _=>R) R R R<|K.fieldAddr Y g0 R t140 R R<|K.loadS Y _ g0 R R t101 R R R<|K.buildL Y 104 ([x1.e]:List TMark) [(0,_)] [((.tmp 24),_)] eTMark_len g0 (AllE.spec ⟨R,trivial⟩) R R Tryz.underlying111 t101 R R R R R R R R<|K.appendL 105 (lrowV 104 101 eTMark 8 ([x1.e]:List TMark)) _ el111 (lrowV_is eTMark_len (by decide)) eTMark_one g0 R R R R R (ap_m h2) (ap_b h2 (by decide)) R R R R R R<|K.cC (cf 92 R) [] (fun β w S2 h=>SCon.rd0 (SCon.ren (ti':=[(0,_),(1,_),(105,_)]) (to':=[(0,_),(1,_),(106,_)]) (rn [(0,0),(1,1),(2,105),(30,106)]) (ih  hx3) ⟨(blk_ren R R),(pl_ren R),(lrow_ren R),trivial⟩ ⟨(blk_ren R R),(pl_ren R),(lrow_ren R),trivial⟩ (rn_nd (hd_ [0,1,105,106] R) R R) (rn_ks (hd_ [0,1,105,106] R) R R R)) S2 w h) g0 (fun _=>R) R R R<|K.as R R<|K.nil<|And.intro (by kernel_rfl)<|At.next<|G.ret<|At.ren (fs':=[(6,.a (.c (.nv 30)))]) (tl:=[(0,blk 0 [.p 1 0,.v (.int .i64 ri0),.v (.int .i64 rg0)] 144),(1,plM 1 p1),(30,lrow 30 101 eTMark 8 x3)]) [(30,106)] [_,_,_] R ⟨R,trivial⟩ ⟨R,(blk_ren R R),R,(pl_ren R),R,(lrow_ren R),trivial⟩ R<|At.dr Y [6] R R (by cases H0;rfl) (by cases H0;rfl) R R R
theorem Tree_allM_o2_con {k n:Nat}  {p1:Pool (TNode TMark TSwell)} {a1:TRef} {l2:List TMark} {ri0 rg0:Int} {r:List TMark}  (H0:Tree_all.r opsM k n p1 a1 l2=some r) (m0 m1 m2 m30:Nat) (hd:ndB [m0,m1,m2,m30]=true):Tree_allM_o2_st p1 a1 l2 ri0 rg0 r m0 m1 m2 m30 :=
 SCon.ren (rn [(0,m0),(1,m1),(2,m2),(30,m30)]) (Tree_allM_o2_con0 (k:=k)   H0) ⟨(blk_ren R R),(pl_ren R),(lrow_ren R),trivial⟩ ⟨(blk_ren R R),(pl_ren R),(lrow_ren R),trivial⟩ (rn_nd hd R R) (rn_ks hd R R R)
abbrev Tree_allM_n2_st (p1:Pool (TNode TMark TSwell)) (a1:TRef) (ri0:Int) (rg0:Int) (r:List TMark) (m0:Nat) (m1:Nat) (m30:Nat):Prop:=SCon Tryz.prog 92 [SV.p m0 0,.a (.agg ((eTRef a1).map .v)),SV.raw (.slice none 0 0)] [(m0,blk m0 [.p m1 0,.i ri0,.i rg0] 144),(m1,plM m1 p1)] (.a (.c (.nv m30))) [(m0,blk m0 [.p m1 0,.i ri0,.i rg0] 144),(m1,plM m1 p1),(m30,lrow m30 101 eTMark 8 r)] [m30]
theorem Tree_allM_n2_con0 {k:Nat}  : ∀ {n:Nat} {p1:Pool (TNode TMark TSwell)} {a1:TRef} {ri0 rg0:Int} {r:List TMark}  (H0:Tree_all.r opsM k n p1 a1 ([]:List TMark)=some r),Tree_allM_n2_st p1 a1 ri0 rg0 r 0 1 30:=by
 intro n
 cases n with
 | zero => intro p1 a1 ri0 rg0 r H0; exact absurd H0 (by simp [Tree_all.r])
 | succ n =>
  intro p1 a1 ri0 rg0 r H0
  rw [Tree_all.r] at H0
  refine spec_of [(0,_),(1,_),(2,_)] [(0,_),(1,_)] 28 Tryz.func92 R Tryz.ntmps92 R R R R (fun β W F=>?_)
  refine G.seq<|G.rg<|K.box Y 100 _ g0 R R R R R R<|K.nilRow 101 101 eTMark 8 (.inl R) g0 R R R<|K.nil<|At.ns<|G.seq<|G.rg<|K.fieldAddr Y g0 R t119 R R<|K.load1 Y g0 R R t3 R R<|K.bin (V:=.bool (a1.gen == 0)) g0 R R (fun _=>R) R<|K.nil<|At.next<|G.cond R (fun h1=>?_) (fun h1=>?_)
  ·
   replace H0:=bif_t H0 h1
   exact G.seq<|G.rg<|K.nilRowS 102 101 eTMark 8 (.inr R) g0 R R R R<|K.as R R<|K.nil<|At.next<|G.ret<|At.over_ret<|At.ren (fs':=[(6,.a (.c (.nv 30)))]) (tl:=[(0,blk 0 [.p 1 0,.v (.int .i64 ri0),.v (.int .i64 rg0)] 144),(1,plM 1 p1),(30,lrow 30 101 eTMark 8 ([]:List TMark))]) [(30,102)] [_,_,_] R ⟨R,trivial⟩ ⟨R,(blk_ren R R),R,(pl_ren R),R,(lrow_ren R),trivial⟩ R<|At.dr Y [6] R R (by cases H0;rfl) (by cases H0;rfl) R R R
  ·
   replace H0:=bif_f H0 h1
   refine G.skip<|At.ns ?_
   obtain ⟨x1,hx1,H0⟩:=bnd H0
   refine G.rg<|K.mv R R<|K.loadS Y _ g0 R R t119 R R R<|K.cR (cf 83 R) (Tree_getM_con hx1 0 1) g0 R R R R<|K.alloc Y 103 _ g0 t140 R R R R R<|K.store Y _ g0 R R R t140 R R R R R<|K.nil<|At.ns ?_
   obtain ⟨x2,hx2,H0⟩:=bnd H0
   obtain ⟨h2,H0⟩:=grd H0
   obtain ⟨x3,hx3,H0⟩:=bnd H0
   exact G.rd mixed<|K.mv R R<|K.fieldAddr Y g0 R t140 R R<|K.loadS Y _ g0 R R t119 R R R<|K.mv R R<|K.fieldAddr Y g0 R t140 R R<|K.loadS Y _ g0 R R t119 R R R<|K.nilRowS 104 101 eTMark 8 (.inr R) g0 R R R R<|K.cC (cf 92 R) [] (fun β w S2 h=>SCon.rd0 (Tree_allM_o2_con hx2 0 1 104 105 R) S2 w h) g0 (fun _=>R) R R R<|K.fieldAddr Y g0 R t140 R R<|K.loadS Y _ g0 R R t101 R R R<|K.buildL Y 106 ([x1.e]:List TMark) [(0,_)] [((.tmp 24),_)] eTMark_len g0 (AllE.spec ⟨R,trivial⟩) R R Tryz.underlying111 t101 R R R R R R R R<|K.appendL 107 (lrowV 106 101 eTMark 8 ([x1.e]:List TMark)) _ el111 (lrowV_is eTMark_len (by decide)) eTMark_one g0 R R R R R (ap_m h2) (ap_b h2 (by decide)) R R R R R R<|K.cC (cf 92 R) [] (fun β w S2 h=>SCon.rd0 (Tree_allM_o2_con hx3 0 1 107 108 R) S2 w h) g0 (fun _=>R) R R R<|K.as R R<|K.nil<|And.intro (by kernel_rfl)<|At.next<|G.ret<|At.ren (fs':=[(6,.a (.c (.nv 30)))]) (tl:=[(0,blk 0 [.p 1 0,.v (.int .i64 ri0),.v (.int .i64 rg0)] 144),(1,plM 1 p1),(30,lrow 30 101 eTMark 8 x3)]) [(30,108)] [_,_,_] R ⟨R,trivial⟩ ⟨R,(blk_ren R R),R,(pl_ren R),R,(lrow_ren R),trivial⟩ R<|At.dr Y [6] R R (by cases H0;rfl) (by cases H0;rfl) R R R
theorem Tree_allM_n2_con {k n:Nat}  {p1:Pool (TNode TMark TSwell)} {a1:TRef} {ri0 rg0:Int} {r:List TMark}  (H0:Tree_all.r opsM k n p1 a1 ([]:List TMark)=some r) (m0 m1 m30:Nat) (hd:ndB [m0,m1,m30]=true):Tree_allM_n2_st p1 a1 ri0 rg0 r m0 m1 m30 :=
 SCon.ren (rn [(0,m0),(1,m1),(30,m30)]) (Tree_allM_n2_con0 (k:=k)   H0) ⟨(blk_ren R R),(pl_ren R),trivial⟩ ⟨(blk_ren R R),(pl_ren R),(lrow_ren R),trivial⟩ (rn_nd hd R R) (rn_ks hd R R R)
abbrev Tree_AllM_st (p1:Pool (TNode TMark TSwell)) (rt0:TRef) (r:List TMark) (m0:Nat) (m1:Nat) (m30:Nat):Prop:=SCon Tryz.prog 64 [SV.p m0 0] [(m0,blk m0 [.p m1 0,.i rt0.index,.i rt0.gen] 144),(m1,plM m1 p1)] (.a (.c (.nv m30))) [(m0,blk m0 [.p m1 0,.i rt0.index,.i rt0.gen] 144),(m1,plM m1 p1),(m30,lrow m30 101 eTMark 8 r)] [m30]
theorem Tree_AllM_con0 {k:Nat}  {p1:Pool (TNode TMark TSwell)} {rt0:TRef} {r:List TMark}  (H0:Tree_All.f opsM k p1 rt0=some r):Tree_AllM_st p1 rt0 r 0 1 30:=by
 rw [Tree_All.f] at H0
 refine spec_of [(0,_)] [(0,_),(1,_)] 9 Tryz.func64 R Tryz.ntmps64 R R R R (fun β W F=>?_)
 refine G.seq<|G.rg<|K.nilRow 100 101 eTMark 8 (.inl R) g0 R R R<|K.nil<|At.ns ?_
 obtain ⟨x1,hx1,H0⟩:=bnd H0
 exact G.rg<|K.mv R R<|K.mv R R<|K.nilCheck g0 R R<|K.fieldAddr Y g0 R t144 R R<|K.loadS Y _ g0 R R t119 R R R<|K.c0 (cf 92 R) (Tree_allM_n2_con hx1 0 1 101 R) g0 R R R R<|K.as R R<|K.nil<|At.next<|G.ret<|At.ren (fs':=[(2,.a (.c (.nv 30)))]) (tl:=[(0,blk 0 [.p 1 0,.v (.int .i64 rt0.index),.v (.int .i64 rt0.gen)] 144),(1,plM 1 p1),(30,lrow 30 101 eTMark 8 x1)]) [(30,101)] [_,_,_] R ⟨R,trivial⟩ ⟨R,(blk_ren R R),R,(pl_ren R),R,(lrow_ren R),trivial⟩ R<|At.dr Y [2] R R (by cases H0;rfl) (by cases H0;rfl) R R R
theorem Tree_AllM_con {k:Nat}  {p1:Pool (TNode TMark TSwell)} {rt0:TRef} {r:List TMark}  (H0:Tree_All.f opsM k p1 rt0=some r) (m0 m1 m30:Nat) (hd:ndB [m0,m1,m30]=true):Tree_AllM_st p1 rt0 r m0 m1 m30 :=
 SCon.ren (rn [(0,m0),(1,m1),(30,m30)]) (Tree_AllM_con0 (k:=k)   H0) ⟨(blk_ren R R),(pl_ren R),trivial⟩ ⟨(blk_ren R R),(pl_ren R),(lrow_ren R),trivial⟩ (rn_nd hd R R) (rn_ks hd R R R)
end Go.Proofs.YtgjbibabegabnaaGreat
namespace Go.Proofs.YtgjbibabegabnaaGreat
open Go Go.Proofs.YtgjbibabegabnaaGreat.Sx
abbrev fCS:Cell (TNode TSlot TSize)→List Value:=cellE eTNode_TSlot_TSize
theorem fCS_len : ∀ c,(fCS c).length=12:=cellE_len eTNode_TSlot_TSize_len
theorem fCS_one : ∀ c,(fCS c).all Value.oneCell'=true:=cellE_one eTNode_TSlot_TSize_one
abbrev avS (x:(TNode TSlot TSize)):Av:=.agg ((eTNode_TSlot_TSize x).map .v)
abbrev poolS (k:Nat) (p:Pool (TNode TSlot TSize)):Tok:=pool k 208 183 3 12 fCS p
theorem nextS (p:Pool (TNode TSlot TSize)) (hc:p.cells.length<4294967296) (hf:p.free.length<4294967296):SCon Tryz.prog 174 [SV.p 0 0] [(0,poolS 0 p)] (SV.i (p.next zNodeS).1) [(0,poolS 0 (p.next zNodeS).2)] []:=by
  obtain ⟨cells,free,cap,held,vis⟩:=p
  simp only at hc hf
  rcases List.eq_nil_or_concat free with h0 | ⟨l,x,h0⟩
  · subst h0
    refine spec_of [(0,_)] [(0,_)] 46 Tryz.func174 R Tryz.ntmps174 R R R R (fun β W F=>?_)
    refine G.ent [(0,_)] [(0,_),(21,_),(22,_)] [21,22] (pool_open (by decide) (by decide) (by decide)) ⟨R,trivial⟩ R R R R<|G.seq<|G.rg<|K.as R R<|K.nil<|At.ns<|G.seq<|G.rg<|K.mv R R<|K.nilCheck g0 R R<|K.fieldAddr Y g0 R t208 R R<|K.load1 Y g0 R R t161 R R<|K.lenL (lrowV 22 3 intE 1 _) (lrowV_is intE_len (by decide)) g0 R R Tryz.underlying161 R<|K.bin g0 R R (fun _=>R) R<|K.as R R<|K.nil<|At.nr<|K.mv R R<|K.bin g0 R R (fun _=>R) R<|K.nil<|At.next<|G.cond R (fun h1=>?_) (fun h1=>?_)
    · exact absurd h1 (by simp [IntKind.wrap_i64] at * <;> omega)
    ·
      refine G.skip<|At.nr<|K.mv R R<|K.mv R R<|K.nilCheck g0 R R<|K.fieldAddr Y g0 R t208 R R<|K.load1 Y g0 R R t206 R R<|K.build Y [] [_,_,_,_,_,_,_,_,_,_,_,_] [] g0 (AllE.spec trivial) R R t183 R R<|K.buildL Y 136 [(⟨zNodeS,0,false⟩:Cell (TNode TSlot TSize))] [(0,_)] [((.tmp 35),_)] fCS_len g0 (AllE.spec ⟨R,trivial⟩) R R Tryz.underlying206 t183 R R R R R R R R<|K.appendL 137 (lrowV 136 183 fCS 12 _) _ el206 (lrowV_is fCS_len (by decide)) fCS_one g0 R R R R R (by simp only [List.length_cons,List.length_nil,maxLen];omega) (by simp only [List.length_cons,List.length_nil,maxLen];omega) R R R R R R<|K.nilCheck g0 R R<|K.fieldAddr Y g0 R t208 R R<|K.store Y _ g0 R R R t206 R R R R R<|K.nil<|At.nr<|K.mv R R<|K.nilCheck g0 R R<|K.fieldAddr Y g0 R t208 R R<|K.load1 Y g0 R R t206 R R<|K.lenL (lrowV 137 183 fCS 12 _) (lrowV_is fCS_len (by decide)) g0 R R Tryz.underlying206 R<|K.bin g0 R R (fun _=>R) R<|K.as R R<|K.nil<|At.next<|G.ret<|At.ent [(0,_),(137,_),(22,_)] [(0,poolS 0 ⟨_,_,_,_,_⟩)] [] (pool_close _ _ _ _ _) ⟨R,R,R,trivial⟩ R R R R<|At.done Y [(.tmp 2,.c _)] R ⟨.tmp R,trivial⟩ (to':=[(0,_)]) ⟨R,trivial⟩ ?_ ?_ R R R (.inl R)
      · simp [Pool.next, *]
      · exact ret_i (by simp [Pool.next,IntKind.wrap_i64];omega)
  · rw [List.concat_eq_append] at h0;subst h0
    have hget:(l++[x])[l.length]? = some x:=by simp
    refine spec_of [(0,_)] [(0,_)] 46 Tryz.func174 R Tryz.ntmps174 R R R R (fun β W F=>?_)
    refine G.ent [(0,_)] [(0,_),(21,_),(22,_)] [21,22] (pool_open (by decide) (by decide) (by decide)) ⟨R,trivial⟩ R R R R<|G.seq<|G.rg<|K.as R R<|K.nil<|At.ns<|G.seq<|G.rg<|K.mv R R<|K.nilCheck g0 R R<|K.fieldAddr Y g0 R t208 R R<|K.load1 Y g0 R R t161 R R<|K.lenL (lrowV 22 3 intE 1 _) (lrowV_is intE_len (by decide)) g0 R R Tryz.underlying161 R<|K.bin g0 R R (fun _=>R) R<|K.as R R<|K.nil<|At.nr<|K.mv R R<|K.bin g0 R R (fun _=>R) R<|K.nil<|At.next<|G.cond R (fun h1=>?_) (fun h1=>?_)
    ·
      refine G.seq<|G.rg<|K.mv R R<|K.nilCheck g0 R R<|K.fieldAddr Y g0 R t208 R R<|K.load1 Y g0 R R t161 R R<|K.mv R R<|K.idxL (lrowV 22 3 intE 1 _) l.length (lrowV_is intE_len (by decide)) hget (by simp [IntKind.wrap_i64] at * <;> omega) g0 R R R Tryz.underlying161 el161.size_run R<|K.load1L Y (lrowV 22 3 intE 1 _) l.length 0 (lrowV_is intE_len (by decide)) hget g0 R R t3 R R<|K.as R R<|K.nil<|At.nr<|K.mv R R<|K.mv R R<|K.nilCheck g0 R R<|K.fieldAddr Y g0 R t208 R R<|K.load1 Y g0 R R t161 R R<|K.mv R R<|K.cutL 126 l.length intE_len g0 R (.at_ R (by simp [IntKind.wrap_i64] at * <;> omega) (by simp [IntKind.wrap_i64] at * <;> omega)) R Tryz.underlying161 el161.size_run (by simp) R R R R<|K.nilCheck g0 R R<|K.fieldAddr Y g0 R t208 R R<|K.store Y _ g0 R R R t161 R R R R R<|K.nil<|At.nr<|K.mv R R<|K.as R R<|K.nil<|At.next<|G.ret<|At.over_ret<|At.ent [(0,_),(21,_),(126,_)] [(0,poolS 0 ⟨_,_,_,_,_⟩)] [] (pool_close _ _ _ _ _) ⟨R,R,R,trivial⟩ R R R R<|At.done Y [(.tmp 2,.c _)] R ⟨.tmp R,trivial⟩ (to':=[(0,_)]) ⟨R,trivial⟩ ?_ ?_ R R R (.inl R)
      · simp [Pool.next, *]
      · exact ret_i (by simp [Pool.next])
    · exact absurd h1 (by simp [IntKind.wrap_i64] at * <;> omega)
theorem findSS {cells:List (Cell (TNode TSlot TSize))} {n:Nat} {c:Cell (TNode TSlot TSize)} (hg:cells[n]? = some c) (hl:c.live=true) (hlen:cells.length<4294967296) (cap held vis:Int):SCon Tryz.prog 128 [SV.p 0 0,SV.agg [.i (n:Int),.i c.gen]] [(0,blk 0 [.nv 1,.nv 2,.i cap,.i held,.i vis] 208),(1,lrow 1 183 fCS 12 cells)] (.a (.c (.rp 1 (n*12)))) [(0,blk 0 [.nv 1,.nv 2,.i cap,.i held,.i (IntKind.i64.wrap (vis+1))] 208),(1,lrow 1 183 fCS 12 cells)] []:=by
  have hlt:=(List.getElem?_eq_some_iff.1 hg).1
  refine spec_of [(0,_),(1,_)] [(0,_),(1,_)] 48 Tryz.func128 R Tryz.ntmps128 R R R R (fun β W F=>?_)
  refine G.seq<|G.rg<|K.box Y 103 _ g0 R R R R R R<|K.as R R<|K.nil<|At.ns<|G.seq ?_
  have h1:(decide ((n:Int)<0))=false:=by simp [IntKind.wrap_i64] at * <;> omega
  refine G.rd mixed<|K.fieldAddr Y g0 R t119 R R<|K.load1 Y g0 R R t3 R R<|K.bin g0 R R (fun _=>R) R<|K.mv R R<|K.fieldAddr Y (g1 R R h1) R t119 R R<|K.load1 Y (g1 R R h1) R R t3 R R<|K.move (.inl R) (g1 R R h1) R R<|K.nilCheck (g1 R R h1) R R<|K.fieldAddr Y (g1 R R h1) R t208 R R<|K.load1 Y (g1 R R h1) R R t206 R R<|K.lenL (lrowV 1 183 fCS 12 _) (lrowV_is fCS_len (by decide)) (g1 R R h1) R R Tryz.underlying206 R<|K.bin (g1 R R h1) R R (fun _=>R) R<|K.pickF g0 R (h1) R R<|K.nil<|And.intro (by kernel_rfl)<|At.next<|G.cond R (fun h2=>?_) (fun h2=>?_)
  · exact absurd h2 (by simp [IntKind.wrap_i64] at * <;> omega)
  ·
    refine G.skip<|At.ns<|G.rd mixed<|K.mv R R<|K.nilCheck g0 R R<|K.fieldAddr Y g0 R t208 R R<|K.load1 Y g0 R R t206 R R<|K.fieldAddr Y g0 R t119 R R<|K.load1 Y g0 R R t3 R R<|K.idxL (lrowV 1 183 fCS 12 _) n (lrowV_is fCS_len (by decide)) hg R g0 R R R Tryz.underlying206 el206.size_run R<|K.as R R<|K.nil<|And.intro (by kernel_rfl)<|At.ns<|G.seq ?_
    have h3:(!c.live)=false:=by simp [hl]
    refine G.rd mixed<|K.mv R R<|K.nilL (lrowV 1 183 fCS 12 _) n 0 (lrowV_is fCS_len (by decide)) hg g0 R R R R<|K.fieldL Y (lrowV 1 183 fCS 12 _) n 0 11 (lrowV_is fCS_len (by decide)) hg g0 R R t183 R R R R<|K.load1L Y (lrowV 1 183 fCS 12 _) n 11 (lrowV_is fCS_len (by decide)) hg g0 R R t4 R R<|K.un g0 R (fun _=>R) R<|K.mv R R<|K.move (.inl R) (g1 R R h3) R R<|K.nilL (lrowV 1 183 fCS 12 _) n 0 (lrowV_is fCS_len (by decide)) hg (g1 R R h3) R R R R<|K.fieldL Y (lrowV 1 183 fCS 12 _) n 0 10 (lrowV_is fCS_len (by decide)) hg (g1 R R h3) R R t183 R R R R<|K.load1L Y (lrowV 1 183 fCS 12 _) n 10 (lrowV_is fCS_len (by decide)) hg (g1 R R h3) R R t3 R R<|K.fieldAddr Y (g1 R R h3) R t119 R R<|K.load1 Y (g1 R R h3) R R t3 R R<|K.bin (g1 R R h3) R R (fun _=>R) R<|K.pickF g0 R (h3) R R<|K.nil<|And.intro (by kernel_rfl)<|At.next<|G.cond R (fun h4=>?_) (fun h4=>?_)
    · exact absurd h4 (by simp)
    ·
      refine G.skip<|At.nr<|K.mv R R<|K.nilCheck g0 R R<|K.fieldAddr Y g0 R t208 R R<|K.load1 Y g0 R R t3 R R<|K.bin g0 R R (fun _=>R) R<|K.nilCheck g0 R R<|K.fieldAddr Y g0 R t208 R R<|K.store Y _ g0 R R R t3 R R R R R<|K.nil<|At.nr<|K.mv R R<|K.as R R<|K.nil<|At.next<|G.ret<|At.done Y [(.tmp 4,.c _)] R ⟨.tmp R,trivial⟩ (to':=[(0,_),(1,_)]) ⟨R,R,trivial⟩ ?_ ?_ R R R (.inl R)
      · rfl
      · rfl
theorem findNS {cells:List (Cell (TNode TSlot TSize))} {i g:Int} (hn:lookC cells i g=none) (hlen:cells.length<4294967296) (cap held vis:Int):SCon Tryz.prog 128 [SV.p 0 0,SV.agg [.i i,.i g]] [(0,blk 0 [.nv 1,.nv 2,.i cap,.i held,.i vis] 208),(1,lrow 1 183 fCS 12 cells)] (SV.raw (.pointer none)) [(0,blk 0 [.nv 1,.nv 2,.i cap,.i held,.i vis] 208),(1,lrow 1 183 fCS 12 cells)] []:=by
  refine spec_of [(0,_),(1,_)] [(0,_),(1,_)] 48 Tryz.func128 R Tryz.ntmps128 R R R R (fun β W F=>?_)
  refine G.seq<|G.rg<|K.box Y 103 _ g0 R R R R R R<|K.as R R<|K.nil<|At.ns<|G.seq ?_
  rcases Bool.eq_false_or_eq_true (decide (i<0)) with h1 | h1
  ·
    refine G.rd mixed<|K.fieldAddr Y g0 R t119 R R<|K.load1 Y g0 R R t3 R R<|K.bin g0 R R (fun _=>R) R<|K.mv R R<|K.sk R R h1 R<|K.sk R R h1 R<|K.sk R R h1 R<|K.sk R R h1 R<|K.sk R R h1 R<|K.sk R R h1 R<|K.sk R R h1 R<|K.sk R R h1 R<|K.pickT g0 R (h1) R R<|K.nil<|And.intro (by kernel_rfl)<|At.next<|G.cond R (fun h2=>?_) (fun h2=>?_)
    ·
      refine G.seq<|G.rg<|K.as R R<|K.nil<|At.next<|G.ret<|At.over_ret<|At.done Y [(.tmp 4,.c _)] R ⟨.tmp R,trivial⟩ (to':=[(0,_),(1,_)]) ⟨R,R,trivial⟩ ?_ ?_ R R R (.inl R)
      · rfl
      · rfl
    · cases h2
  ·
    refine G.rd mixed<|K.fieldAddr Y g0 R t119 R R<|K.load1 Y g0 R R t3 R R<|K.bin g0 R R (fun _=>R) R<|K.mv R R<|K.fieldAddr Y (g1 R R h1) R t119 R R<|K.load1 Y (g1 R R h1) R R t3 R R<|K.move (.inl R) (g1 R R h1) R R<|K.nilCheck (g1 R R h1) R R<|K.fieldAddr Y (g1 R R h1) R t208 R R<|K.load1 Y (g1 R R h1) R R t206 R R<|K.lenL (lrowV 1 183 fCS 12 _) (lrowV_is fCS_len (by decide)) (g1 R R h1) R R Tryz.underlying206 R<|K.bin (g1 R R h1) R R (fun _=>R) R<|K.pickF g0 R (h1) R R<|K.nil<|And.intro (by kernel_rfl)<|At.next<|G.cond R (fun h3=>?_) (fun h3=>?_)
    ·
      refine G.seq<|G.rg<|K.as R R<|K.nil<|At.next<|G.ret<|At.over_ret<|At.done Y [(.tmp 4,.c _)] R ⟨.tmp R,trivial⟩ (to':=[(0,_),(1,_)]) ⟨R,R,trivial⟩ ?_ ?_ R R R (.inl R)
      · rfl
      · rfl
    ·
      refine G.skip<|At.ns ?_
      obtain ⟨c,hg⟩ : ∃ c,cells[i.toNat]? = some c:=⟨_,List.getElem?_eq_getElem (by simp [IntKind.wrap_i64] at * <;> omega)⟩
      refine G.rd mixed<|K.mv R R<|K.nilCheck g0 R R<|K.fieldAddr Y g0 R t208 R R<|K.load1 Y g0 R R t206 R R<|K.fieldAddr Y g0 R t119 R R<|K.load1 Y g0 R R t3 R R<|K.idxL (lrowV 1 183 fCS 12 _) i.toNat (lrowV_is fCS_len (by decide)) hg (by simp [IntKind.wrap_i64] at * <;> omega) g0 R R R Tryz.underlying206 el206.size_run R<|K.as R R<|K.nil<|And.intro (by kernel_rfl)<|At.ns<|G.seq ?_
      rcases Bool.eq_false_or_eq_true (!c.live) with h4 | h4
      ·
        refine G.rd mixed<|K.mv R R<|K.nilL (lrowV 1 183 fCS 12 _) i.toNat 0 (lrowV_is fCS_len (by decide)) hg g0 R R R R<|K.fieldL Y (lrowV 1 183 fCS 12 _) i.toNat 0 11 (lrowV_is fCS_len (by decide)) hg g0 R R t183 R R R R<|K.load1L Y (lrowV 1 183 fCS 12 _) i.toNat 11 (lrowV_is fCS_len (by decide)) hg g0 R R t4 R R<|K.un g0 R (fun _=>R) R<|K.mv R R<|K.sk R R h4 R<|K.sk R R h4 R<|K.sk R R h4 R<|K.sk R R h4 R<|K.sk R R h4 R<|K.sk R R h4 R<|K.sk R R h4 R<|K.pickT g0 R (h4) R R<|K.nil<|And.intro (by kernel_rfl)<|At.next<|G.cond R (fun h5=>?_) (fun h5=>?_)
        ·
          refine G.seq<|G.rg<|K.as R R<|K.nil<|At.next<|G.ret<|At.over_ret<|At.done Y [(.tmp 4,.c _)] R ⟨.tmp R,trivial⟩ (to':=[(0,_),(1,_)]) ⟨R,R,trivial⟩ ?_ ?_ R R R (.inl R)
          · rfl
          · rfl
        · cases h5
      ·
        refine G.rd mixed<|K.mv R R<|K.nilL (lrowV 1 183 fCS 12 _) i.toNat 0 (lrowV_is fCS_len (by decide)) hg g0 R R R R<|K.fieldL Y (lrowV 1 183 fCS 12 _) i.toNat 0 11 (lrowV_is fCS_len (by decide)) hg g0 R R t183 R R R R<|K.load1L Y (lrowV 1 183 fCS 12 _) i.toNat 11 (lrowV_is fCS_len (by decide)) hg g0 R R t4 R R<|K.un g0 R (fun _=>R) R<|K.mv R R<|K.move (.inl R) (g1 R R h4) R R<|K.nilL (lrowV 1 183 fCS 12 _) i.toNat 0 (lrowV_is fCS_len (by decide)) hg (g1 R R h4) R R R R<|K.fieldL Y (lrowV 1 183 fCS 12 _) i.toNat 0 10 (lrowV_is fCS_len (by decide)) hg (g1 R R h4) R R t183 R R R R<|K.load1L Y (lrowV 1 183 fCS 12 _) i.toNat 10 (lrowV_is fCS_len (by decide)) hg (g1 R R h4) R R t3 R R<|K.fieldAddr Y (g1 R R h4) R t119 R R<|K.load1 Y (g1 R R h4) R R t3 R R<|K.bin (g1 R R h4) R R (fun _=>R) R<|K.pickF g0 R (h4) R R<|K.nil<|And.intro (by kernel_rfl)<|At.next<|G.cond R (fun h6=>?_) (fun h6=>?_)
        ·
          refine G.seq<|G.rg<|K.as R R<|K.nil<|At.next<|G.ret<|At.over_ret<|At.done Y [(.tmp 4,.c _)] R ⟨.tmp R,trivial⟩ (to':=[(0,_),(1,_)]) ⟨R,R,trivial⟩ ?_ ?_ R R R (.inl R)
          · rfl
          · rfl
        · exact absurd h6 (by simp_all [lookC])
theorem findSS' {cells : List (Cell (TNode TSlot TSize))} {n : Nat} {c : Cell (TNode TSlot TSize)} (hg : cells[n]? = some c) (hl : c.live = true) (hlen : cells.length < 4294967296) (cap held vis : Int) (k0 k1 k2 : Nat) : SCon Tryz.prog 128 [SV.p k0 0, SV.agg [.i (n : Int), .i c.gen]]
    [(k0,blk k0 [.nv k1,.nv k2,.i cap,.i held,.i vis] 208),(k1,lrow k1 183 fCS 12 cells)] (.a (.c (.rp k1 (n*12)))) [(k0,blk k0 [.nv k1,.nv k2,.i cap,.i held,.i (IntKind.i64.wrap (vis+1))] 208),(k1,lrow k1 183 fCS 12 cells)] [] :=
  SCon.ren (rn [(0,k0),(1,k1),(2,k2)]) (findSS hg hl hlen cap held vis) ⟨blk_ren R R,lrow_ren R,trivial⟩ ⟨blk_ren R R,lrow_ren R,trivial⟩ (by simp) (by simp)
theorem findNS' {cells : List (Cell (TNode TSlot TSize))} {i g : Int} (hn : lookC cells i g = none) (hlen : cells.length < 4294967296) (cap held vis : Int) (k0 k1 k2 : Nat) : SCon Tryz.prog 128 [SV.p k0 0, SV.agg [.i i, .i g]]
    [(k0,blk k0 [.nv k1,.nv k2,.i cap,.i held,.i vis] 208),(k1,lrow k1 183 fCS 12 cells)] (SV.raw (.pointer none)) [(k0,blk k0 [.nv k1,.nv k2,.i cap,.i held,.i vis] 208),(k1,lrow k1 183 fCS 12 cells)] [] :=
  SCon.ren (rn [(0,k0),(1,k1),(2,k2)]) (findNS hn hlen cap held vis) ⟨blk_ren R R,lrow_ren R,trivial⟩ ⟨blk_ren R R,lrow_ren R,trivial⟩ (by simp) (by simp)
theorem getS (p:Pool (TNode TSlot TSize)) (i g:Int) (hlen:p.cells.length<4294967296) (hfree:p.free.length<4294967296):SCon Tryz.prog 100 [SV.p 0 0,SV.agg [.i i,.i g]] [(0,poolS 0 p)] (.tup [avS (p.get zNodeS i g).1.1,.c (.b (p.get zNodeS i g).1.2)]) [(0,poolS 0 (p.get zNodeS i g).2)] []:=by
  obtain ⟨cells,free,cap,held,vis⟩:=p
  simp only at hlen hfree
  cases hlk:lookC cells i g with
  | none =>
    refine spec_of [(0,_),(1,_)] [(0,_)] 18 Tryz.func100 R Tryz.ntmps100 R R R R (fun β W F=>?_)
    refine G.ent [(0,_)] [(0,_),(21,_),(22,_)] [21,22] (pool_open (by decide) (by decide) (by decide)) ⟨R,trivial⟩ R R R R<|G.seq<|G.rg<|K.box Y 103 _ g0 R R R R R R<|K.alloc Y 104 _ g0 t123 R R R R R<|K.as R R<|K.nil<|At.nr<|K.mv R R<|K.loadS Y _ g0 R R t119 R R R<|K.call0 [(.func 128,_),((.tmp 8),_),((.tmp 9),_)] (findNS' hlk hlen _ _ _ 0 21 22) (toFn_func (cf 128 R) R) g0 ⟨R,R,R,trivial⟩ ⟨R,R,trivial⟩ R R R R R R<|K.as R R<|K.nil<|At.ns<|G.seq<|G.rg<|K.mv R R<|K.bin g0 R R (pn_eql_none Tryz.underlying180) R<|K.nil<|At.next<|G.cond R (fun h1=>?_) (fun h1=>?_)
    ·
      refine G.seq<|G.rg<|K.alloc Y 107 _ g0 t123 R R R R R<|K.nil<|At.nr<|K.loadS Y _ g0 R R t123 R R R<|K.store Y _ g0 R R R t123 R R R R R<|K.as R R<|K.nil<|At.next<|G.ret<|At.over_ret<|At.ent [(0,_),(21,_),(22,_)] [(0,poolS 0 ⟨_,_,_,_,_⟩)] [] (pool_close _ _ _ _ _) ⟨R,R,R,trivial⟩ R R R R<|At.done Y [(.cell 4 123,.agg [_,_,_,_,_,_,_,_,_,_]),(.tmp 5,.c _)] R ⟨.st R R t123 R R,.tmp R,trivial⟩ (to':=[(0,_)]) ⟨R,trivial⟩ ?_ ?_ R R R (.inl R)
      · simp only [Pool.get,hlk]
      · simp only [Pool.get,hlk];rfl
    · cases h1
  | some c =>
    obtain ⟨n,rfl,hg,hl,rfl⟩:=lookC_some hlk
    refine spec_of [(0,_),(1,_)] [(0,_)] 18 Tryz.func100 R Tryz.ntmps100 R R R R (fun β W F=>?_)
    refine G.ent [(0,_)] [(0,_),(21,_),(22,_)] [21,22] (pool_open (by decide) (by decide) (by decide)) ⟨R,trivial⟩ R R R R<|G.seq<|G.rg<|K.box Y 103 _ g0 R R R R R R<|K.alloc Y 104 _ g0 t123 R R R R R<|K.as R R<|K.nil<|At.nr<|K.mv R R<|K.loadS Y _ g0 R R t119 R R R<|K.call0 [(.func 128,_),((.tmp 8),_),((.tmp 9),_)] (findSS' hg hl hlen _ _ _ 0 21 22) (toFn_func (cf 128 R) R) g0 ⟨R,R,R,trivial⟩ ⟨R,R,trivial⟩ R R R R R R<|K.as R R<|K.nil<|At.ns<|G.seq<|G.rg<|K.mv R R<|K.eqnilL (lrowV 21 183 fCS 12 _) n 0 (B:=false) (lrowV_is fCS_len (by decide)) hg g0 R R R R (pn_eql_some Tryz.underlying180) R<|K.nil<|At.next<|G.cond R (fun h1=>?_) (fun h1=>?_)
    · cases h1
    ·
      refine G.skip<|At.nr<|K.mv R R<|K.nilL (lrowV 21 183 fCS 12 _) n 0 (lrowV_is fCS_len (by decide)) hg g0 R R R R<|K.fieldL Y (lrowV 21 183 fCS 12 _) n 0 0 (lrowV_is fCS_len (by decide)) hg g0 R R t183 R R R R<|K.loadSL Y (lrowV 21 183 fCS 12 _) n 0 [_,_,_,_,_,_,_,_,_,_] [_,_,_,_,_,_,_,_,_,_] (lrowV_is fCS_len (by decide)) hg g0 R R t123 R R R R R<|K.store Y _ g0 R R R t123 R R R R R<|K.as R R<|K.nil<|At.next<|G.ret<|At.ent [(0,_),(21,_),(22,_)] [(0,poolS 0 ⟨_,_,_,_,_⟩)] [] (pool_close _ _ _ _ _) ⟨R,R,R,trivial⟩ R R R R<|At.done Y [(.cell 4 123,.agg [_,_,_,_,_,_,_,_,_,_]),(.tmp 5,.c _)] R ⟨.st R R t123 R R,.tmp R,trivial⟩ (to':=[(0,_)]) ⟨R,trivial⟩ ?_ ?_ R R R (.inl R)
      · simp [Pool.get,hlk,Pool.hit]
      · simp only [Pool.get,hlk];rfl
theorem setS (p:Pool (TNode TSlot TSize)) (i g:Int) (v:(TNode TSlot TSize)) (hlen:p.cells.length<4294967296) (hfree:p.free.length<4294967296):SCon Tryz.prog 162 [SV.p 0 0,SV.agg [.i i,.i g],.a (avS v)] [(0,poolS 0 p)] (SV.b (p.set i g v).1) [(0,poolS 0 (p.set i g v).2)] []:=by
  obtain ⟨cells,free,cap,held,vis⟩:=p
  simp only at hlen hfree
  cases hlk:lookC cells i g with
  | none =>
    refine spec_of [(0,_),(1,_),(2,_)] [(0,_)] 19 Tryz.func162 R Tryz.ntmps162 R R R R (fun β W F=>?_)
    refine G.ent [(0,_)] [(0,_),(21,_),(22,_)] [21,22] (pool_open (by decide) (by decide) (by decide)) ⟨R,trivial⟩ R R R R<|G.seq<|G.rg<|K.box Y 104 _ g0 R R R R R R<|K.box Y 105 _ g0 R R R R R R<|K.as R R<|K.nil<|At.nr<|K.mv R R<|K.loadS Y _ g0 R R t119 R R R<|K.call0 [(.func 128,_),((.tmp 8),_),((.tmp 9),_)] (findNS' hlk hlen _ _ _ 0 21 22) (toFn_func (cf 128 R) R) g0 ⟨R,R,R,trivial⟩ ⟨R,R,trivial⟩ R R R R R R<|K.as R R<|K.nil<|At.ns<|G.seq<|G.rg<|K.mv R R<|K.bin g0 R R (pn_neq_none Tryz.underlying180) R<|K.nil<|At.next<|G.cond R (fun h1=>?_) (fun h1=>?_)
    · cases h1
    ·
      refine G.skip<|At.nr<|K.mv R R<|K.bin g0 R R (pn_neq_none Tryz.underlying180) R<|K.as R R<|K.nil<|At.next<|G.ret<|At.ent [(0,_),(21,_),(22,_)] [(0,poolS 0 ⟨_,_,_,_,_⟩)] [] (pool_close _ _ _ _ _) ⟨R,R,R,trivial⟩ R R R R<|At.done Y [(.tmp 6,.c _)] R ⟨.tmp R,trivial⟩ (to':=[(0,_)]) ⟨R,trivial⟩ ?_ ?_ R R R (.inl R)
      · simp only [Pool.set,hlk]
      · simp only [Pool.set,hlk];rfl
  | some c =>
    obtain ⟨n,rfl,hg,hl,rfl⟩:=lookC_some hlk
    refine spec_of [(0,_),(1,_),(2,_)] [(0,_)] 19 Tryz.func162 R Tryz.ntmps162 R R R R (fun β W F=>?_)
    refine G.ent [(0,_)] [(0,_),(21,_),(22,_)] [21,22] (pool_open (by decide) (by decide) (by decide)) ⟨R,trivial⟩ R R R R<|G.seq<|G.rg<|K.box Y 104 _ g0 R R R R R R<|K.box Y 105 _ g0 R R R R R R<|K.as R R<|K.nil<|At.nr<|K.mv R R<|K.loadS Y _ g0 R R t119 R R R<|K.call0 [(.func 128,_),((.tmp 8),_),((.tmp 9),_)] (findSS' hg hl hlen _ _ _ 0 21 22) (toFn_func (cf 128 R) R) g0 ⟨R,R,R,trivial⟩ ⟨R,R,trivial⟩ R R R R R R<|K.as R R<|K.nil<|At.ns<|G.seq<|G.rg<|K.mv R R<|K.eqnilL (lrowV 21 183 fCS 12 _) n 0 (B:=true) (lrowV_is fCS_len (by decide)) hg g0 R R R R (pn_neq_some Tryz.underlying180) R<|K.nil<|At.next<|G.cond R (fun h1=>?_) (fun h1=>?_)
    ·
      refine G.rg<|K.mv R R<|K.loadS Y _ g0 R R t123 R R R<|K.nilL (lrowV 21 183 fCS 12 _) n 0 (lrowV_is fCS_len (by decide)) hg g0 R R R R<|K.fieldL Y (lrowV 21 183 fCS 12 _) n 0 0 (lrowV_is fCS_len (by decide)) hg g0 R R t183 R R R R<|K.storeL Y n 0 [_,_,_,_,_,_,_,_,_,_] { c with v:=v } fCS_len (by decide) hg g0 R R R t123 R R R R R R<|K.nil<|At.nr<|K.mv R R<|K.eqnilL (lrowV 21 183 fCS 12 _) n 0 (B:=true) (lrowV_is fCS_len (by decide)) (set_get hg) g0 R R R R (pn_neq_some Tryz.underlying180) R<|K.as R R<|K.nil<|At.next<|G.ret<|At.ent [(0,_),(21,_),(22,_)] [(0,poolS 0 ⟨_,_,_,_,_⟩)] [] (pool_close _ _ _ _ _) ⟨R,R,R,trivial⟩ R R R R<|At.done Y [(.tmp 6,.c _)] R ⟨.tmp R,trivial⟩ (to':=[(0,_)]) ⟨R,trivial⟩ ?_ ?_ R R R (.inl R)
      · simp [Pool.set,hlk,Pool.hit]
      · simp only [Pool.set,hlk];rfl
    · cases h1
theorem dropS (p:Pool (TNode TSlot TSize)) (i g:Int) (hlen:p.cells.length<4294967296) (hfree:p.free.length<4294967296):SCon Tryz.prog 124 [SV.p 0 0,SV.agg [.i i,.i g]] [(0,poolS 0 p)] (.tup [avS (p.drop zNodeS i g).1.1,.c (.b (p.drop zNodeS i g).1.2)]) [(0,poolS 0 (p.drop zNodeS i g).2)] []:=by
  obtain ⟨cells,free,cap,held,vis⟩:=p
  simp only at hlen hfree
  cases hlk:lookC cells i g with
  | none =>
    refine spec_of [(0,_),(1,_)] [(0,_)] 50 Tryz.func124 R Tryz.ntmps124 R R R R (fun β W F=>?_)
    refine G.ent [(0,_)] [(0,_),(21,_),(22,_)] [21,22] (pool_open (by decide) (by decide) (by decide)) ⟨R,trivial⟩ R R R R<|G.seq<|G.rg<|K.box Y 103 _ g0 R R R R R R<|K.alloc Y 104 _ g0 t123 R R R R R<|K.as R R<|K.nil<|At.nr<|K.mv R R<|K.loadS Y _ g0 R R t119 R R R<|K.call0 [(.func 128,_),((.tmp 9),_),((.tmp 10),_)] (findNS' hlk hlen _ _ _ 0 21 22) (toFn_func (cf 128 R) R) g0 ⟨R,R,R,trivial⟩ ⟨R,R,trivial⟩ R R R R R R<|K.as R R<|K.nil<|At.ns<|G.seq<|G.rg<|K.mv R R<|K.bin g0 R R (pn_eql_none Tryz.underlying180) R<|K.nil<|At.next<|G.cond R (fun h1=>?_) (fun h1=>?_)
    ·
      refine G.seq<|G.rg<|K.alloc Y 107 _ g0 t123 R R R R R<|K.nil<|At.nr<|K.loadS Y _ g0 R R t123 R R R<|K.store Y _ g0 R R R t123 R R R R R<|K.as R R<|K.nil<|At.next<|G.ret<|At.over_ret<|At.ent [(0,_),(21,_),(22,_)] [(0,poolS 0 ⟨_,_,_,_,_⟩)] [] (pool_close _ _ _ _ _) ⟨R,R,R,trivial⟩ R R R R<|At.done Y [(.cell 4 123,.agg [_,_,_,_,_,_,_,_,_,_]),(.tmp 5,.c _)] R ⟨.st R R t123 R R,.tmp R,trivial⟩ (to':=[(0,_)]) ⟨R,trivial⟩ ?_ ?_ R R R (.inl R)
      · simp only [Pool.drop,hlk]
      · simp only [Pool.drop,hlk];rfl
    · cases h1
  | some c =>
    obtain ⟨n,rfl,hg,hl,rfl⟩:=lookC_some hlk
    refine spec_of [(0,_),(1,_)] [(0,_)] 50 Tryz.func124 R Tryz.ntmps124 R R R R (fun β W F=>?_)
    refine G.ent [(0,_)] [(0,_),(21,_),(22,_)] [21,22] (pool_open (by decide) (by decide) (by decide)) ⟨R,trivial⟩ R R R R<|G.seq<|G.rg<|K.box Y 103 _ g0 R R R R R R<|K.alloc Y 104 _ g0 t123 R R R R R<|K.as R R<|K.nil<|At.nr<|K.mv R R<|K.loadS Y _ g0 R R t119 R R R<|K.call0 [(.func 128,_),((.tmp 9),_),((.tmp 10),_)] (findSS' hg hl hlen _ _ _ 0 21 22) (toFn_func (cf 128 R) R) g0 ⟨R,R,R,trivial⟩ ⟨R,R,trivial⟩ R R R R R R<|K.as R R<|K.nil<|At.ns<|G.seq<|G.rg<|K.mv R R<|K.eqnilL (lrowV 21 183 fCS 12 _) n 0 (B:=false) (lrowV_is fCS_len (by decide)) hg g0 R R R R (pn_eql_some Tryz.underlying180) R<|K.nil<|At.next<|G.cond R (fun h1=>?_) (fun h1=>?_)
    · cases h1
    ·
      refine G.skip<|At.nr<|K.mv R R<|K.nilL (lrowV 21 183 fCS 12 _) n 0 (lrowV_is fCS_len (by decide)) hg g0 R R R R<|K.fieldL Y (lrowV 21 183 fCS 12 _) n 0 0 (lrowV_is fCS_len (by decide)) hg g0 R R t183 R R R R<|K.loadSL Y (lrowV 21 183 fCS 12 _) n 0 [_,_,_,_,_,_,_,_,_,_] [_,_,_,_,_,_,_,_,_,_] (lrowV_is fCS_len (by decide)) hg g0 R R t123 R R R R R<|K.alloc Y 108 _ g0 t123 R R R R R<|K.store Y _ g0 R R R t123 R R R R R<|K.nil<|At.nr<|K.mv R R<|K.mv R R<|K.nilL (lrowV 21 183 fCS 12 _) n 0 (lrowV_is fCS_len (by decide)) hg g0 R R R R<|K.fieldL Y (lrowV 21 183 fCS 12 _) n 0 10 (lrowV_is fCS_len (by decide)) hg g0 R R t183 R R R R<|K.load1L Y (lrowV 21 183 fCS 12 _) n 10 (lrowV_is fCS_len (by decide)) hg g0 R R t3 R R<|K.build Y [(1,_)] [_,_,_,_,_,_,_,_,_,_,_,_] [((.tmp 23),_)] g0 (AllE.spec ⟨R,trivial⟩) R R t183 R R<|K.nilL (lrowV 21 183 fCS 12 _) n 0 (lrowV_is fCS_len (by decide)) hg g0 R R R R<|K.storeL Y n 0 [_,_,_,_,_,_,_,_,_,_,_,_] ⟨zNodeS,c.gen,false⟩ fCS_len (by decide) hg g0 R R R t183 R R R R R R<|K.nil<|At.nr<|K.mv R R<|K.nilCheck g0 R R<|K.fieldAddr Y g0 R t208 R R<|K.load1 Y g0 R R t3 R R<|K.bin g0 R R (fun _=>R) R<|K.nilCheck g0 R R<|K.fieldAddr Y g0 R t208 R R<|K.store Y _ g0 R R R t3 R R R R R<|K.nil<|At.ns<|G.seq<|G.rg<|K.mv R R<|K.nilL (lrowV 21 183 fCS 12 _) n 0 (lrowV_is fCS_len (by decide)) (set_get hg) g0 R R R R<|K.fieldL Y (lrowV 21 183 fCS 12 _) n 0 10 (lrowV_is fCS_len (by decide)) (set_get hg) g0 R R t183 R R R R<|K.load1L Y (lrowV 21 183 fCS 12 _) n 10 (lrowV_is fCS_len (by decide)) (set_get hg) g0 R R t3 R R<|K.bin g0 R R (fun _=>R) R<|K.nil<|At.next<|G.cond R (fun h2=>?_) (fun h2=>?_)
      ·
        refine G.rd mixed<|K.mv R R<|K.mv R R<|K.nilCheck g0 R R<|K.fieldAddr Y g0 R t208 R R<|K.load1 Y g0 R R t161 R R<|K.fieldAddr Y g0 R t119 R R<|K.load1 Y g0 R R t3 R R<|K.buildL Y 145 [(n:Int)] [(0,_)] [((.tmp 44),_)] intE_len g0 (AllE.spec ⟨R,trivial⟩) R R Tryz.underlying161 t3 R R R R R R R R<|K.appendL 146 (lrowV 145 3 intE 1 _) _ el161 (lrowV_is intE_len (by decide)) intE_one g0 R R R R R (by simp only [List.length_cons,List.length_nil,maxLen];omega) (by simp only [List.length_cons,List.length_nil,maxLen];omega) R R R R R R<|K.nilCheck g0 R R<|K.fieldAddr Y g0 R t208 R R<|K.store Y _ g0 R R R t161 R R R R R<|K.nil<|And.intro (by kernel_rfl)<|At.nr<|K.loadS Y _ g0 R R t123 R R R<|K.store Y _ g0 R R R t123 R R R R R<|K.as R R<|K.nil<|At.next<|G.ret<|At.ent [(0,_),(21,_),(146,_)] [(0,poolS 0 ⟨_,_,_,_,_⟩)] [] (pool_close _ _ _ _ _) ⟨R,R,R,trivial⟩ R R R R<|At.done Y [(.cell 4 123,.agg [_,_,_,_,_,_,_,_,_,_]),(.tmp 5,.c _)] R ⟨.st R R t123 R R,.tmp R,trivial⟩ (to':=[(0,_)]) ⟨R,trivial⟩ ?_ ?_ R R R (.inl R)
        · simp [Pool.drop,hlk,Pool.hit,h2]
        · simp only [Pool.drop,hlk];rfl
      ·
        refine G.skip<|At.nr<|K.loadS Y _ g0 R R t123 R R R<|K.store Y _ g0 R R R t123 R R R R R<|K.as R R<|K.nil<|At.next<|G.ret<|At.ent [(0,_),(21,_),(22,_)] [(0,poolS 0 ⟨_,_,_,_,_⟩)] [] (pool_close _ _ _ _ _) ⟨R,R,R,trivial⟩ R R R R<|At.done Y [(.cell 4 123,.agg [_,_,_,_,_,_,_,_,_,_]),(.tmp 5,.c _)] R ⟨.st R R t123 R R,.tmp R,trivial⟩ (to':=[(0,_)]) ⟨R,trivial⟩ ?_ ?_ R R R (.inl R)
        · simp [Pool.drop,hlk,Pool.hit,h2]
        · simp only [Pool.drop,hlk];rfl
theorem putFS (p:Pool (TNode TSlot TSize)) (v:(TNode TSlot TSize)) (hh:p.held=p.cap):SCon Tryz.prog 161 [SV.p 0 0,.a (avS v)] [(0,poolS 0 p)] (.tup [.agg [.i 0,.i 0],.c (.b false)]) [(0,poolS 0 p)] []:=by
  obtain ⟨cells,free,cap,held,vis⟩:=p
  simp only at hh
  refine spec_of [(0,_),(1,_)] [(0,_)] 53 Tryz.func161 R Tryz.ntmps161 R R R R (fun β W F=>?_)
  refine G.ent [(0,_)] [(0,_),(21,_),(22,_)] [21,22] (pool_open (by decide) (by decide) (by decide)) ⟨R,trivial⟩ R R R R<|G.seq<|G.rg<|K.box Y 103 _ g0 R R R R R R<|K.alloc Y 104 _ g0 t119 R R R R R<|K.as R R<|K.nil<|At.ns<|G.seq<|G.rd mixed<|K.mv R R<|K.nilCheck g0 R R<|K.fieldAddr Y g0 R t208 R R<|K.load1 Y g0 R R t3 R R<|K.mv R R<|K.nilCheck g0 R R<|K.fieldAddr Y g0 R t208 R R<|K.load1 Y g0 R R t3 R R<|K.bin g0 R R (fun _=>R) R<|K.nil<|And.intro (by kernel_rfl)<|At.next<|G.cond R (fun h1=>?_) (fun h1=>?_)
  ·
    refine G.seq<|G.rg<|K.build Y [] [_,_] [] g0 (AllE.spec trivial) R R t119 R R<|K.store Y _ g0 R R R t119 R R R R R<|K.as R R<|K.nil<|At.next<|G.ret<|At.over_ret<|At.ent [(0,_),(21,_),(22,_)] [(0,poolS 0 ⟨_,_,_,_,_⟩)] [] (pool_close _ _ _ _ _) ⟨R,R,R,trivial⟩ R R R R<|At.done Y [(.cell 4 119,.agg [_,_]),(.tmp 5,.c _)] R ⟨.st R R t119 R R,.tmp R,trivial⟩ (to':=[(0,_)]) ⟨R,trivial⟩ ?_ ?_ R R R (.inl R)
    · rfl
    · rfl
  · exact absurd h1 (by simp [hh])
theorem putTS (p : Pool (TNode TSlot TSize)) (v : (TNode TSlot TSize)) (hh : p.held ≠ p.cap) (hlen : p.cells.length < 4294967296) (hfree : p.free.length < 4294967296) {n : Nat} {c : Cell (TNode TSlot TSize)} (hn : (p.next zNodeS).1 = n) (hg : (p.next zNodeS).2.cells[n]? = some c) : SCon Tryz.prog 161 [SV.p 0 0, .a (avS v)] [(0, poolS 0 p)]
    (.tup [.agg [.i n,.i (IntKind.i64.wrap (c.gen+1))],.c (.b true)]) [(0,poolS 0 ((p.next zNodeS).2.lay n c v))] []:=by
  obtain ⟨cells,free,cap,held,vis⟩:=p
  simp only at hh hlen hfree
  refine spec_of [(0,_),(1,_)] [(0,_)] 53 Tryz.func161 R Tryz.ntmps161 R R R R (fun β W F=>?_)
  refine G.ent [(0,_)] [(0,_),(21,_),(22,_)] [21,22] (pool_open (by decide) (by decide) (by decide)) ⟨R,trivial⟩ R R R R<|G.seq<|G.rg<|K.box Y 103 _ g0 R R R R R R<|K.alloc Y 104 _ g0 t119 R R R R R<|K.as R R<|K.nil<|At.ns<|G.seq<|G.rd mixed<|K.mv R R<|K.nilCheck g0 R R<|K.fieldAddr Y g0 R t208 R R<|K.load1 Y g0 R R t3 R R<|K.mv R R<|K.nilCheck g0 R R<|K.fieldAddr Y g0 R t208 R R<|K.load1 Y g0 R R t3 R R<|K.bin g0 R R (fun _=>R) R<|K.nil<|And.intro (by kernel_rfl)<|At.next<|G.cond R (fun h1=>?_) (fun h1=>?_)
  · exact absurd h1 (by simp [hh])
  ·
    refine G.skip<|At.ns<|G.ent [(0,_),(21,_),(22,_)] [(0,poolS 0 ⟨_,_,_,_,_⟩)] [] (pool_close _ _ _ _ _) ⟨R,R,R,trivial⟩ R R R R<|G.rg<|K.mv R R<|K.call0 [(.func 174,_),((.tmp 18),_)] (nextS _ hlen hfree) (toFn_func (cf 174 R) R) g0 ⟨R,R,trivial⟩ ⟨R,trivial⟩ R R R R R R<|K.as R R<|K.nil<|At.ns<|G.ent [(0,_)] [(0,_),(23,_),(24,_)] [23,24] (pool_open (by decide) (by decide) (by decide)) ⟨R,trivial⟩ R R R R<|G.rg<|K.mv R R<|K.nilCheck g0 R R<|K.fieldAddr Y g0 R t208 R R<|K.load1 Y g0 R R t206 R R<|K.mv R R<|K.idxL (lrowV 23 183 fCS 12 _) n (lrowV_is fCS_len (by decide)) hg hn g0 R R R Tryz.underlying206 el206.size_run R<|K.as R R<|K.nil<|At.nr<|K.mv R R<|K.mv R R<|K.loadS Y _ g0 R R t123 R R R<|K.nilL (lrowV 23 183 fCS 12 _) n 0 (lrowV_is fCS_len (by decide)) hg g0 R R R R<|K.fieldL Y (lrowV 23 183 fCS 12 _) n 0 0 (lrowV_is fCS_len (by decide)) hg g0 R R t183 R R R R<|K.storeL Y n 0 [_,_,_,_,_,_,_,_,_,_] { c with v:=v } fCS_len (by decide) hg g0 R R R t123 R R R R R R<|K.nilL (lrowV 23 183 fCS 12 _) n 0 (lrowV_is fCS_len (by decide)) (set_get hg) g0 R R R R<|K.fieldL Y (lrowV 23 183 fCS 12 _) n 0 11 (lrowV_is fCS_len (by decide)) (set_get hg) g0 R R t183 R R R R<|K.storeL Y n 11 [_] ⟨v,c.gen,true⟩ fCS_len (by decide) (set_get hg) g0 R R R t4 R R R R R R<|K.nil<|At.nr<|K.mv R R<|K.nilL (lrowV 23 183 fCS 12 _) n 0 (lrowV_is fCS_len (by decide)) (set_get (set_get hg)) g0 R R R R<|K.fieldL Y (lrowV 23 183 fCS 12 _) n 0 10 (lrowV_is fCS_len (by decide)) (set_get (set_get hg)) g0 R R t183 R R R R<|K.load1L Y (lrowV 23 183 fCS 12 _) n 10 (lrowV_is fCS_len (by decide)) (set_get (set_get hg)) g0 R R t3 R R<|K.bin g0 R R (fun _=>R) R<|K.nilL (lrowV 23 183 fCS 12 _) n 0 (lrowV_is fCS_len (by decide)) (set_get (set_get hg)) g0 R R R R<|K.fieldL Y (lrowV 23 183 fCS 12 _) n 0 10 (lrowV_is fCS_len (by decide)) (set_get (set_get hg)) g0 R R t183 R R R R<|K.storeL Y n 10 [_] ⟨v,IntKind.i64.wrap (c.gen+1),true⟩ fCS_len (by decide) (set_get (set_get hg)) g0 R R R t3 R R R R R R<|K.nil<|At.nr<|K.mv R R<|K.nilCheck g0 R R<|K.fieldAddr Y g0 R t208 R R<|K.load1 Y g0 R R t3 R R<|K.bin g0 R R (fun _=>R) R<|K.nilCheck g0 R R<|K.fieldAddr Y g0 R t208 R R<|K.store Y _ g0 R R R t3 R R R R R<|K.nil<|At.nr<|K.mv R R<|K.mv R R<|K.nilL (lrowV 23 183 fCS 12 _) n 0 (lrowV_is fCS_len (by decide)) (set_get (set_get (set_get hg))) g0 R R R R<|K.fieldL Y (lrowV 23 183 fCS 12 _) n 0 10 (lrowV_is fCS_len (by decide)) (set_get (set_get (set_get hg))) g0 R R t183 R R R R<|K.load1L Y (lrowV 23 183 fCS 12 _) n 10 (lrowV_is fCS_len (by decide)) (set_get (set_get (set_get hg))) g0 R R t3 R R<|K.build Y [(0,_),(1,_)] [_,_] [((.tmp 47),_),((.tmp 51),_)] g0 (AllE.spec ⟨R,R,trivial⟩) R R t119 R R<|K.store Y _ g0 R R R t119 R R R R R<|K.as R R<|K.nil<|At.next<|G.ret<|At.ent [(0,_),(23,_),(24,_)] [(0,poolS 0 ⟨_,_,_,_,_⟩)] [] (pool_close _ _ _ _ _) ⟨R,R,R,trivial⟩ R R R R<|At.done Y [(.cell 4 119,.agg [_,_]),(.tmp 5,.c _)] R ⟨.st R R t119 R R,.tmp R,trivial⟩ (to':=[(0,_)]) ⟨R,trivial⟩ ?_ ?_ R R R (.inl R)
    · simp [Pool.lay]
    · rw [hn];rfl
theorem newS_ (c:Int):SCon Tryz.prog 160 [SV.i c] [] (SV.p 107 0) [(107,poolS 107 ⟨[],[],capOf c,0,0⟩)] [107]:=by
  refine spec_of [(0,_)] [] 8 Tryz.func160 R Tryz.ntmps160 R R R R (fun β W F=>?_)
  refine G.seq<|G.rg<|K.as R R<|K.nil<|At.nr<|K.mv R R<|K.bi2 g0 R R (fun _ _=>R) R<|K.bi2 g0 R R (fun _ _=>R) R<|K.build Y [(2,_)] [_,_,_,_,_] [((.tmp 5),_)] g0 (AllE.spec ⟨R,trivial⟩) R R t208 R R<|K.box Y 107 _ g0 R R R R R R<|K.as R R<|K.nil<|At.next<|G.ret<|At.ent [(107,_)] [(107,poolS 107 ⟨_,_,_,_,_⟩)] [] (pool_nil _ _ _) ⟨R,trivial⟩ R R R R<|At.done Y [(.tmp 2,.c _)] R ⟨.tmp R,trivial⟩ (to':=[(107,_)]) ⟨R,trivial⟩ ?_ ?_ R R R (.inl R)
  · rfl
  · rfl
theorem newS (c:Int) (k:Nat):SCon Tryz.prog 160 [SV.i c] [] (SV.p k 0) [(k,poolS k ⟨[],[],capOf c,0,0⟩)] [k] :=
  SCon.ren (rn [(107,k)]) (newS_ c) trivial ⟨pool_ren R,trivial⟩ (by simp) (by intro j hj hn;simp [SV.ks,Av.ks,Cl.ks,pool] at hj hn;exact absurd hj hn)
theorem putS_ {N:Nat} (p:Pool (TNode TSlot TSize)) (v:(TNode TSlot TSize)) (h:PoolOk N p) (hN:N<4294967296):SCon Tryz.prog 161 [SV.p 0 0,.a (avS v)] [(0,poolS 0 p)] (.tup [.agg [.i (p.put zNodeS v).1.1.1,.i (p.put zNodeS v).1.1.2],.c (.b (p.put zNodeS v).1.2)]) [(0,poolS 0 (p.put zNodeS v).2)] []:=by
  by_cases hh:p.held=p.cap
  · have e:p.put zNodeS v=(((0,0),false),p):=by unfold Pool.put;rw [if_pos hh]
    rw [e];exact putFS p v hh
  · obtain ⟨h1,h2,c,hc⟩:=h.next (z:=zNodeS)
    have e:p.put zNodeS v=((((p.next zNodeS).1,IntKind.i64.wrap (c.gen+1)),true),(p.next zNodeS).2.lay (p.next zNodeS).1.toNat c v):=by unfold Pool.put;rw [if_neg hh,hc]
    have h3:(p.next zNodeS).1=((p.next zNodeS).1.toNat:Int):=by omega
    have:=putTS p v hh (Nat.lt_of_le_of_lt h.cells hN) (Nat.lt_of_le_of_lt h.free hN) h3 hc
    rw [← h3] at this
    rw [e];exact this
theorem putS {N:Nat} (p:Pool (TNode TSlot TSize)) (v:(TNode TSlot TSize)) (h:PoolOk N p) (hN:N<4294967296) (k:Nat):SCon Tryz.prog 161 [SV.p k 0,.a (avS v)] [(k,poolS k p)] (.tup [.agg [.i (p.put zNodeS v).1.1.1,.i (p.put zNodeS v).1.1.2],.c (.b (p.put zNodeS v).1.2)]) [(k,poolS k (p.put zNodeS v).2)] [] :=
  SCon.ren (rn [(0,k)]) (putS_ p v h hN) ⟨pool_ren R,trivial⟩ ⟨pool_ren R,trivial⟩ (by simp) (by simp)
theorem getS' {N:Nat} (p:Pool (TNode TSlot TSize)) (i g:Int) (h:PoolOk N p) (hN:N<4294967296) (k:Nat):SCon Tryz.prog 100 [SV.p k 0,SV.agg [.i i,.i g]] [(k,poolS k p)] (.tup [avS (p.get zNodeS i g).1.1,.c (.b (p.get zNodeS i g).1.2)]) [(k,poolS k (p.get zNodeS i g).2)] [] :=
  SCon.ren (rn [(0,k)]) (getS p i g (Nat.lt_of_le_of_lt h.cells hN) (Nat.lt_of_le_of_lt h.free hN)) ⟨pool_ren R,trivial⟩ ⟨pool_ren R,trivial⟩ (by simp) (by simp)
theorem setS' {N:Nat} (p:Pool (TNode TSlot TSize)) (i g:Int) (v:(TNode TSlot TSize)) (h:PoolOk N p) (hN:N<4294967296) (k:Nat):SCon Tryz.prog 162 [SV.p k 0,SV.agg [.i i,.i g],.a (avS v)] [(k,poolS k p)] (SV.b (p.set i g v).1) [(k,poolS k (p.set i g v).2)] [] :=
  SCon.ren (rn [(0,k)]) (setS p i g v (Nat.lt_of_le_of_lt h.cells hN) (Nat.lt_of_le_of_lt h.free hN)) ⟨pool_ren R,trivial⟩ ⟨pool_ren R,trivial⟩ (by simp) (by simp)
theorem dropS' {N:Nat} (p:Pool (TNode TSlot TSize)) (i g:Int) (h:PoolOk N p) (hN:N<4294967296) (k:Nat):SCon Tryz.prog 124 [SV.p k 0,SV.agg [.i i,.i g]] [(k,poolS k p)] (.tup [avS (p.drop zNodeS i g).1.1,.c (.b (p.drop zNodeS i g).1.2)]) [(k,poolS k (p.drop zNodeS i g).2)] [] :=
  SCon.ren (rn [(0,k)]) (dropS p i g (Nat.lt_of_le_of_lt h.cells hN) (Nat.lt_of_le_of_lt h.free hN)) ⟨pool_ren R,trivial⟩ ⟨pool_ren R,trivial⟩ (by simp) (by simp)
end Go.Proofs.YtgjbibabegabnaaGreat
namespace Go.Proofs.YtgjbibabegabnaaGreat
open Go Go.Proofs.YtgjbibabegabnaaGreat.Sx
abbrev plS (k:Nat) (p:Pool (TNode TSlot TSize)):Tok:=pl k 208 183 3 12 fCS p
theorem plgetS {p:Pool (TNode TSlot TSize)} {i g:Int} {x:(TNode TSlot TSize)×Bool} (h:pGet zNodeS p i g=some x) (k:Nat):SCon Tryz.prog 100 [SV.p k 0,SV.agg [.i i,.i g]] [(k,plS k p)] (.tup [avS x.1,.c (.b x.2)]) [(k,plS k p)] []:=by
 obtain ⟨hp,hx⟩:=grd h
 cases hx
 refine SCon.hide fun v=>?_
 obtain ⟨h1,v',h2⟩:=get_vis (p:=p) (z:=zNodeS) v i g
 refine ⟨v',?_⟩
 have:=getS' { p with vis:=v } i g (hp.ok v) (by decide) k
 rw [h1,h2] at this
 exact this
theorem plsetS {p:Pool (TNode TSlot TSize)} {i g:Int} {y:(TNode TSlot TSize)} {x:Bool×Pool (TNode TSlot TSize)} (h:pSet p i g y=some x) (k:Nat):SCon Tryz.prog 162 [SV.p k 0,SV.agg [.i i,.i g],.a (avS y)] [(k,plS k p)] (SV.b x.1) [(k,plS k x.2)] []:=by
 obtain ⟨hp,hx⟩:=grd h
 cases hx
 refine SCon.hide fun v=>?_
 obtain ⟨h1,v',h2⟩:=set_vis (p:=p) v i g y
 refine ⟨v',?_⟩
 have:=setS' { p with vis:=v } i g y (hp.ok v) (by decide) k
 rw [h1,h2] at this
 exact this
theorem plputS {p:Pool (TNode TSlot TSize)} {y:(TNode TSlot TSize)} {x:((Int×Int)×Bool)×Pool (TNode TSlot TSize)} (h:pPut zNodeS p y=some x) (k:Nat):SCon Tryz.prog 161 [SV.p k 0,.a (avS y)] [(k,plS k p)] (.tup [.agg [.i x.1.1.1,.i x.1.1.2],.c (.b x.1.2)]) [(k,plS k x.2)] []:=by
 obtain ⟨hp,hx⟩:=grd h
 cases hx
 refine SCon.hide fun v=>?_
 obtain ⟨h1,v',h2⟩:=put_vis (p:=p) (z:=zNodeS) v y
 refine ⟨v',?_⟩
 have:=putS { p with vis:=v } y (hp.ok v) (by decide) k
 rw [h1,h2] at this
 exact this
theorem pldropS {p:Pool (TNode TSlot TSize)} {i g:Int} {x:((TNode TSlot TSize)×Bool)×Pool (TNode TSlot TSize)} (h:pDrop zNodeS p i g=some x) (k:Nat):SCon Tryz.prog 124 [SV.p k 0,SV.agg [.i i,.i g]] [(k,plS k p)] (.tup [avS x.1.1,.c (.b x.1.2)]) [(k,plS k x.2)] []:=by
 obtain ⟨hp,hx⟩:=grd h
 cases hx
 refine SCon.hide fun v=>?_
 obtain ⟨h1,v',h2⟩:=drop_vis (p:=p) (z:=zNodeS) v i g
 refine ⟨v',?_⟩
 have:=dropS' { p with vis:=v } i g (hp.ok v) (by decide) k
 rw [h1,h2] at this
 exact this
theorem plnewS (c:Int) (k:Nat):SCon Tryz.prog 160 [SV.i c] [] (SV.p k 0) [(k,plS k ⟨[],[],capOf c,0,0⟩)] [k]:=SCon.hideNew (newS c k)
abbrev Tree_NewS_st (a0:Int) (r:TRef×Pool (TNode TSlot TSize)) (m40:Nat) (m41:Nat):Prop:=SCon Tryz.prog 135 [.a (.c (.v (.int .i64 a0)))] [] (.a (.c (.p m40 0))) [(m40,blk m40 [.p m41 0,.i r.1.index,.i r.1.gen] 121),(m41,plS m41 r.2)] [m40,m41]
theorem Tree_NewS_con0 {k:Nat}  {a0:Int} {r:TRef×Pool (TNode TSlot TSize)}  (H0:Tree_New.f opsS k a0=some r):Tree_NewS_st a0 r 40 41:=by
 rw [Tree_New.f] at H0
 refine spec_of [(0,_)] [] 7 Tryz.func135 R Tryz.ntmps135 R R R R (fun β W F=>?_)
 exact G.seq<|G.rg<|K.as R R<|K.nil<|At.nr<|K.mv R R<|K.call0 [(.func 160,_),((.tmp 3),_)] (plnewS a0 100) (toFn_func (cf 160 R) R) g0 ⟨R,R,trivial⟩ trivial R R R R R R<|K.build Y [(0,_)] [_,_,_] [((.tmp 4),_)] g0 (AllE.spec ⟨R,trivial⟩) R R t121 R R<|K.box Y 101 _ g0 R R R R R R<|K.as R R<|K.nil<|At.next<|G.ret<|At.ren (fs':=[(2,.a (.c (.p 40 0)))]) (tl:=[(40,blk 40 [.p 41 0,.v (.int .i64 0),.v (.int .i64 0)] 121),(41,plS 41 (⟨[],[],capOf a0,0,0⟩:Pool (TNode TSlot TSize)))]) [(40,101),(41,100)] [_,_] R ⟨R,trivial⟩ ⟨R,(blk_ren R R),R,(pl_ren R),trivial⟩ R<|At.dr Y [2] R R (by cases H0;rfl) (by cases H0;rfl) R R R
theorem Tree_NewS_con {k:Nat}  {a0:Int} {r:TRef×Pool (TNode TSlot TSize)}  (H0:Tree_New.f opsS k a0=some r) (m40 m41:Nat) (hd:ndB [m40,m41]=true):Tree_NewS_st a0 r m40 m41 :=
 SCon.ren (rn [(40,m40),(41,m41)]) (Tree_NewS_con0 (k:=k)   H0) trivial ⟨(blk_ren R R),(pl_ren R),trivial⟩ (rn_nd hd R R) (rn_ks hd R R R)
abbrev Tree_getS_st (p1:Pool (TNode TSlot TSize)) (a1:TRef) (ri0:Int) (rg0:Int) (r:TNode TSlot TSize) (m0:Nat) (m1:Nat):Prop:=SCon Tryz.prog 70 [SV.p m0 0,.a (.agg ((eTRef a1).map .v))] [(m0,blk m0 [.p m1 0,.i ri0,.i rg0] 121),(m1,plS m1 p1)] (.a (.agg ((eTNode_TSlot_TSize r).map .v))) [(m0,blk m0 [.p m1 0,.i ri0,.i rg0] 121),(m1,plS m1 p1)] []
theorem Tree_getS_con0 {k:Nat}  {p1:Pool (TNode TSlot TSize)} {a1:TRef} {ri0 rg0:Int} {r:TNode TSlot TSize}  (H0:Tree_get.f opsS k p1 a1=some r):Tree_getS_st p1 a1 ri0 rg0 r 0 1:=by
 rw [Tree_get.f] at H0
 refine spec_of [(0,_),(1,_)] [(0,_),(1,_)] 21 Tryz.func70 R Tryz.ntmps70 R R R R (fun β W F=>?_)
 refine G.seq<|G.rg<|K.box Y 100 _ g0 R R R R R R<|K.alloc Y 101 _ g0 t123 R R R R R<|K.nil<|At.ns<|G.seq<|G.rg<|K.fieldAddr Y g0 R t119 R R<|K.load1 Y g0 R R t3 R R<|K.bin (V:=.bool (a1.gen == 0)) g0 R R (fun _=>R) R<|K.nil<|At.next<|G.cond R (fun h1=>?_) (fun h1=>?_)
 ·
  replace H0:=bif_t H0 h1
  refine G.seq<|G.rg<|K.build Y [] [_,_,_,_,_,_,_,_,_,_] [] g0 (AllE.spec trivial) R R t123 R R<|K.store Y _ g0 R R R t123 R R R R R<|K.nil<|At.next<|G.ret<|At.over_ret<|At.done Y [(.cell 4 123,.agg [_,_,_,_,_,_,_,_,_,_])] R ⟨.st R R t123 R R,trivial⟩ (to':=[(0,_),(1,_)]) ⟨R,R,trivial⟩ ?_ ?_ R R R (.inl R)
  · cases H0;rfl
  · cases H0;rfl
 ·
  replace H0:=bif_f H0 h1
  refine G.skip<|At.ns ?_
  obtain ⟨x1,hx1,H0⟩:=bnd H0
  refine G.rd mixed<|K.mv R R<|K.nilCheck g0 R R<|K.fieldAddr Y g0 R t121 R R<|K.load1 Y g0 R R t117 R R<|K.loadS Y _ g0 R R t119 R R R<|K.callR [(.func 100,_),((.tmp 15),_),((.tmp 16),_)] (plgetS hx1 1) (toFn_func (cf 100 R) R) g0 ⟨R,R,R,trivial⟩ ⟨R,trivial⟩ R R R<|K.mv R R<|K.extract g0 R R R<|K.extract g0 R R R<|K.alloc Y 102 _ g0 t123 R R R R R<|K.store Y _ g0 R R R t123 R R R R R<|K.as R R<|K.nil<|And.intro (by kernel_rfl)<|At.nr<|K.loadS Y _ g0 R R t123 R R R<|K.store Y _ g0 R R R t123 R R R R R<|K.nil<|At.next<|G.ret<|At.done Y [(.cell 4 123,.agg [_,_,_,_,_,_,_,_,_,_])] R ⟨.st R R t123 R R,trivial⟩ (to':=[(0,_),(1,_)]) ⟨R,R,trivial⟩ ?_ ?_ R R R (.inl R)
  · cases H0;rfl
  · cases H0;rfl
theorem Tree_getS_con {k:Nat}  {p1:Pool (TNode TSlot TSize)} {a1:TRef} {ri0 rg0:Int} {r:TNode TSlot TSize}  (H0:Tree_get.f opsS k p1 a1=some r) (m0 m1:Nat):Tree_getS_st p1 a1 ri0 rg0 r m0 m1 :=
 SCon.ren (rn [(0,m0),(1,m1)]) (Tree_getS_con0 (k:=k)   H0) ⟨(blk_ren R R),(pl_ren R),trivial⟩ ⟨(blk_ren R R),(pl_ren R),trivial⟩ (by simp) (by simp)
abbrev Tree_FindS_st (p1:Pool (TNode TSlot TSize)) (rt0:TRef) (a1:TSlot) (r:TSlot×Bool) (m0:Nat) (m1:Nat):Prop:=SCon Tryz.prog 44 [SV.p m0 0,.a (.agg ((eTSlot a1).map .v))] [(m0,blk m0 [.p m1 0,.i rt0.index,.i rt0.gen] 121),(m1,plS m1 p1)] (.tup [.agg ((eTSlot r.1).map .v),.c (.v (.bool r.2))]) [(m0,blk m0 [.p m1 0,.i rt0.index,.i rt0.gen] 121),(m1,plS m1 p1)] []
theorem Tree_FindS_con0 {k:Nat}  {p1:Pool (TNode TSlot TSize)} {rt0:TRef} {a1:TSlot} {r:TSlot×Bool}  (H0:Tree_Find.f opsS k p1 rt0 a1=some r):Tree_FindS_st p1 rt0 a1 r 0 1:=by
 rw [Tree_Find.f] at H0
 refine spec_of [(0,_),(1,_)] [(0,_),(1,_)] 37 Tryz.func44 R Tryz.ntmps44 R R R R (fun β W F=>?_)
 refine G.seq<|G.rg<|K.box Y 100 _ g0 R R R R R R<|K.alloc Y 101 _ g0 t82 R R R R R<|K.as R R<|K.nil<|At.next ?_
 obtain ⟨x1,H1,H0⟩:=bnd H0
 refine G.sJ (σ:={ v:Unit // x1=Sum.inr v }) (fun q=>[(4,.a (.c (.p 102 0)))]) (fun q=>[(102,blk 102 [.v (.int .i64 0),.v (.int .i64 0),.v (.bool false),.v (.int .i64 0)] 82),(1,plS 1 p1),(0,blk 0 [.p 1 0,.v (.int .i64 rt0.index),.v (.int .i64 rt0.gen)] 121)]) ?_ ?_
 ·
  refine G.seq<|G.rg<|K.mv R R<|K.nilCheck g0 R R<|K.fieldAddr Y g0 R t121 R R<|K.loadS Y _ g0 R R t119 R R R<|K.alloc Y 103 _ g0 t119 R R R R R<|K.store Y _ g0 R R R t119 R R R R R<|K.nil<|At.next<|G.block<|G.lp (σ:={ q:Nat×(TRef) // Tree_Find.l0 opsS k p1 a1 q.1 q.2=some x1 }) (fun q=>[(0,.a (.c (.p 0 0))),(3,.a (.c (.p 110 0))),(4,.a (.c (.p 111 0))),(6,.a (.c (.p 112 0)))]) (fun q=>[(1,plS 1 p1),(0,blk 0 [.p 1 0,.v (.int .i64 rt0.index),.v (.int .i64 rt0.gen)] 121),(110,blk 110 [.v (.int .i64 a1.item.key),.v (.int .i64 a1.item.id),.v (.bool a1.eaten),.v (.int .i64 a1.time)] 82),(111,blk 111 [.v (.int .i64 0),.v (.int .i64 0),.v (.bool false),.v (.int .i64 0)] 82),(112,blk 112 [.v (.int .i64 q.1.2.index),.v (.int .i64 q.1.2.gen)] 119)]) (fun q=>q.1.1) ⟨(k,rt0),H1⟩ ?_ ?_
  · exact At.into [(110,100),(111,101),(112,103)] [_,_,_,_,_] R ⟨R,R,R,R,trivial⟩ ⟨R,(pl_ren R),R,(blk_ren R R),R,(blk_ren R R),R,(blk_ren R R),R,(blk_ren R R),trivial⟩ R
  ·
   rintro ⟨⟨n0,v1⟩,H1⟩
   show G _ _ [(0,.a (.c (.p 0 0))),(3,.a (.c (.p 110 0))),(4,.a (.c (.p 111 0))),(6,.a (.c (.p 112 0)))] [(1,some (plS 1 p1)),(0,some (blk 0 [.p 1 0,.v (.int .i64 rt0.index),.v (.int .i64 rt0.gen)] 121)),(110,some (blk 110 [.v (.int .i64 a1.item.key),.v (.int .i64 a1.item.id),.v (.bool a1.eaten),.v (.int .i64 a1.time)] 82)),(111,some (blk 111 [.v (.int .i64 0),.v (.int .i64 0),.v (.bool false),.v (.int .i64 0)] 82)),(112,some (blk 112 [.v (.int .i64 v1.index),.v (.int .i64 v1.gen)] 119))] _ _
   cases n0 with
   | zero => exact absurd H1 (by simp [Tree_Find.l0])
   | succ n0 =>
    have HL0:=H1
    rw [Tree_Find.l0] at H1
    refine G.seq<|G.seq<|G.rg<|K.fieldAddr Y g0 R t119 R R<|K.load1 Y g0 R R t3 R R<|K.bin (V:=.bool (v1.gen != 0)) g0 R R (fun _=>R) R<|K.nil<|At.next<|G.cond R (fun h1=>?_) (fun h1=>?_)
    ·
     replace H1:=bif_t H1 h1
     refine G.skip<|At.ns<|G.block<|G.seq ?_
     obtain ⟨x2,hx2,H1⟩:=bnd H1
     refine G.rg<|K.mv R R<|K.loadS Y _ g0 R R t119 R R R<|K.cR (cf 70 R) (Tree_getS_con hx2 0 1) g0 R R R R<|K.alloc Y 113 _ g0 t123 R R R R R<|K.store Y _ g0 R R R t123 R R R R R<|K.nil<|At.ns ?_
     obtain ⟨x3,hx3,H1⟩:=bnd H1
     refine G.rg<|K.loadS Y _ g0 R R t82 R R R<|K.mkIface Y g0 R (mkI Tryz.underlying82 R) R<|K.fieldAddr Y g0 R t123 R R<|K.loadS Y _ g0 R R t82 R R R<|K.callR [((.tmp 21),_),((.tmp 23),_)] (shelf_Slot_Compare_con (k:=k) hx3) (toFn_invoke (cf 201 R) (me82_201) R) g0 ⟨R,R,trivial⟩ trivial R R R<|K.as R R<|K.nil<|At.ns<|G.seq<|G.rg<|K.mv R R<|K.bin (V:=.bool (x3 == 0)) g0 R R (fun _=>R) R<|K.nil<|At.next<|G.cond R (fun h2=>?_) (fun h2=>?_)
     ·
      replace H1:=bif_t H1 h2
      refine G.seq<|G.rg<|K.fieldAddr Y g0 R t123 R R<|K.loadS Y _ g0 R R t82 R R R<|K.store Y _ g0 R R R t82 R R R R R<|K.as R R<|K.nil<|At.next<|G.ret<|At.over_ret<|At.block_ret<|At.over_ret<|At.over_ret<|At.block_ret<|At.over_ret ?_
      cases H1
      replace H0:=sum_l H0
      refine At.done Y [(.cell 4 82,.agg [_,_,_,_]),(.tmp 5,.c _)] R ⟨.st R R t82 R R,.tmp R,trivial⟩ (to':=[(0,_),(1,_)]) ⟨R,R,trivial⟩ ?_ ?_ R R R (.inl R)
      · cases H0;rfl
      · cases H0;rfl
     ·
      replace H1:=bif_f H1 h2
      refine G.skip<|At.nr<|K.fieldAddr Y g0 R t123 R R<|K.loadS Y _ g0 R R t119 R R R<|K.store Y _ g0 R R R t119 R R R R R<|K.nil<|At.nr<|K.mv R R<|K.bin (V:=.bool (decide (x3<0))) g0 R R (fun _=>R) R<|K.nil<|At.next<|G.cond R (fun h3=>?_) (fun h3=>?_)
      ·
       replace H1:=bif_t H1 h3
       exact G.rg<|K.fieldAddr Y g0 R t123 R R<|K.loadS Y _ g0 R R t119 R R R<|K.store Y _ g0 R R R t119 R R R R R<|K.nil<|At.block_normal<|At.nr<|K.loadS Y _ g0 R R t119 R R R<|K.nil<|At.next<|G.rg<|K.alloc Y 114 _ g0 t119 R R R R R<|K.store Y _ g0 R R R t119 R R R R R<|K.nil<|At.ag ⟨(n0,x2.left),H1⟩ [(112,114)] [_,_,_,_,_] (Nat.lt_succ_self _) R ⟨R,R,R,R,trivial⟩ ⟨R,(pl_ren R),R,(blk_ren R R),R,(blk_ren R R),R,(blk_ren R R),R,(blk_ren R R),trivial⟩ R
      ·
       replace H1:=bif_f H1 h3
       exact G.skip<|At.block_normal<|At.nr<|K.loadS Y _ g0 R R t119 R R R<|K.nil<|At.next<|G.rg<|K.alloc Y 115 _ g0 t119 R R R R R<|K.store Y _ g0 R R R t119 R R R R R<|K.nil<|At.ag ⟨(n0,x2.right),H1⟩ [(112,115)] [_,_,_,_,_] (Nat.lt_succ_self _) R ⟨R,R,R,R,trivial⟩ ⟨R,(pl_ren R),R,(blk_ren R R),R,(blk_ren R R),R,(blk_ren R R),R,(blk_ren R R),trivial⟩ R
    ·
     replace H1:=bif_f H1 h1
     exact G.exit<|At.over_exit<|At.over_exit<|At.block_hit<|At.jd ⟨(),oi H1⟩ [(102,111)] [_,_,_] R ⟨R,trivial⟩ ⟨R,(blk_ren R R),R,(pl_ren R),R,(blk_ren R R),trivial⟩ R
 ·
  rintro ⟨w1,rfl⟩
  replace H0:=sum_r H0
  show G _ _ [(4,.a (.c (.p 102 0)))] [(102,some (blk 102 [.v (.int .i64 0),.v (.int .i64 0),.v (.bool false),.v (.int .i64 0)] 82)),(1,some (plS 1 p1)),(0,some (blk 0 [.p 1 0,.v (.int .i64 rt0.index),.v (.int .i64 rt0.gen)] 121))] _ _
  refine G.seq<|G.rg<|K.alloc Y 116 _ g0 t82 R R R R R<|K.nil<|At.nr<|K.loadS Y _ g0 R R t82 R R R<|K.store Y _ g0 R R R t82 R R R R R<|K.as R R<|K.nil<|At.next<|G.ret<|At.done Y [(.cell 4 82,.agg [_,_,_,_]),(.tmp 5,.c _)] R ⟨.st R R t82 R R,.tmp R,trivial⟩ (to':=[(0,_),(1,_)]) ⟨R,R,trivial⟩ ?_ ?_ R R R (.inl R)
  · cases H0;rfl
  · cases H0;rfl
theorem Tree_FindS_con {k:Nat}  {p1:Pool (TNode TSlot TSize)} {rt0:TRef} {a1:TSlot} {r:TSlot×Bool}  (H0:Tree_Find.f opsS k p1 rt0 a1=some r) (m0 m1:Nat):Tree_FindS_st p1 rt0 a1 r m0 m1 :=
 SCon.ren (rn [(0,m0),(1,m1)]) (Tree_FindS_con0 (k:=k)   H0) ⟨(blk_ren R R),(pl_ren R),trivial⟩ ⟨(blk_ren R R),(pl_ren R),trivial⟩ (by simp) (by simp)
abbrev Tree_weightS_st (p1:Pool (TNode TSlot TSize)) (a1:TRef) (ri0:Int) (rg0:Int) (r:Int) (m0:Nat) (m1:Nat):Prop:=SCon Tryz.prog 130 [SV.p m0 0,.a (.agg ((eTRef a1).map .v))] [(m0,blk m0 [.p m1 0,.i ri0,.i rg0] 121),(m1,plS m1 p1)] (.a (.c (.v (.int .i64 r)))) [(m0,blk m0 [.p m1 0,.i ri0,.i rg0] 121),(m1,plS m1 p1)] []
theorem Tree_weightS_con0 {k:Nat}  {p1:Pool (TNode TSlot TSize)} {a1:TRef} {ri0 rg0:Int} {r:Int}  (H0:Tree_weight.f opsS k p1 a1=some r):Tree_weightS_st p1 a1 ri0 rg0 r 0 1:=by
 rw [Tree_weight.f] at H0
 refine spec_of [(0,_),(1,_)] [(0,_),(1,_)] 10 Tryz.func130 R Tryz.ntmps130 R R R R (fun β W F=>?_)
 refine G.seq<|G.rg<|K.box Y 100 _ g0 R R R R R R<|K.as R R<|K.nil<|At.ns ?_
 obtain ⟨x1,hx1,H0⟩:=bnd H0
 exact G.rg<|K.mv R R<|K.loadS Y _ g0 R R t119 R R R<|K.cR (cf 70 R) (Tree_getS_con hx1 0 1) g0 R R R R<|K.field1 Y g0 R t123 R t3 R R<|K.bin (V:=.int .i64 (w64 (x1.size+1))) g0 R R (fun _=>R) R<|K.as R R<|K.nil<|At.next<|G.ret<|At.dr Y [4] R R (by cases H0;rfl) (by cases H0;rfl) R R R
theorem Tree_weightS_con {k:Nat}  {p1:Pool (TNode TSlot TSize)} {a1:TRef} {ri0 rg0:Int} {r:Int}  (H0:Tree_weight.f opsS k p1 a1=some r) (m0 m1:Nat):Tree_weightS_st p1 a1 ri0 rg0 r m0 m1 :=
 SCon.ren (rn [(0,m0),(1,m1)]) (Tree_weightS_con0 (k:=k)   H0) ⟨(blk_ren R R),(pl_ren R),trivial⟩ ⟨(blk_ren R R),(pl_ren R),trivial⟩ (by simp) (by simp)
abbrev Tree_layS_st (p1:Pool (TNode TSlot TSize)) (a1:TRef) (a2:TRef) (a3:TRef) (ri0:Int) (rg0:Int) (r:TRef×Pool (TNode TSlot TSize)) (m0:Nat) (m1:Nat):Prop:=SCon Tryz.prog 147 [SV.p m0 0,.a (.agg ((eTRef a1).map .v)),.a (.agg ((eTRef a2).map .v)),.a (.agg ((eTRef a3).map .v))] [(m0,blk m0 [.p m1 0,.i ri0,.i rg0] 121),(m1,plS m1 p1)] (.a (.agg ((eTRef r.1).map .v))) [(m0,blk m0 [.p m1 0,.i ri0,.i rg0] 121),(m1,plS m1 r.2)] []
theorem Tree_layS_con0 {k:Nat}  {p1:Pool (TNode TSlot TSize)} {a1:TRef} {a2:TRef} {a3:TRef} {ri0 rg0:Int} {r:TRef×Pool (TNode TSlot TSize)}  (H0:Tree_lay.f opsS k p1 a1 a2 a3=some r):Tree_layS_st p1 a1 a2 a3 ri0 rg0 r 0 1:=by
 rw [Tree_lay.f] at H0
 refine spec_of [(0,_),(1,_),(2,_),(3,_)] [(0,_),(1,_)] 53 Tryz.func147 R Tryz.ntmps147 R R R R (fun β W F=>?_)
 refine G.seq<|G.rg<|K.box Y 100 _ g0 R R R R R R<|K.box Y 101 _ g0 R R R R R R<|K.box Y 102 _ g0 R R R R R R<|K.alloc Y 103 _ g0 t119 R R R R R<|K.nil<|At.ns ?_
 obtain ⟨x1,hx1,H0⟩:=bnd H0
 refine G.rg<|K.mv R R<|K.loadS Y _ g0 R R t119 R R R<|K.cR (cf 70 R) (Tree_getS_con hx1 0 1) g0 R R R R<|K.alloc Y 104 _ g0 t123 R R R R R<|K.store Y _ g0 R R R t123 R R R R R<|K.nil<|At.ns ?_
 obtain ⟨x2,hx2,H0⟩:=bnd H0
 obtain ⟨x3,hx3,H0⟩:=bnd H0
 refine G.rd mixed<|K.mv R R<|K.loadS Y _ g0 R R t119 R R R<|K.cR (cf 70 R) (Tree_getS_con hx2 0 1) g0 R R R R<|K.mv R R<|K.loadS Y _ g0 R R t119 R R R<|K.cR (cf 70 R) (Tree_getS_con hx3 0 1) g0 R R R R<|K.alloc Y 105 _ g0 t123 R R R R R<|K.alloc Y 106 _ g0 t123 R R R R R<|K.store Y _ g0 R R R t123 R R R R R<|K.store Y _ g0 R R R t123 R R R R R<|K.nil<|And.intro (by kernel_rfl)<|At.ns<|G.rd mixed<|K.loadS Y _ g0 R R t119 R R R<|K.loadS Y _ g0 R R t119 R R R<|K.fieldAddr Y g0 R t123 R R<|K.store Y _ g0 R R R t119 R R R R R<|K.fieldAddr Y g0 R t123 R R<|K.store Y _ g0 R R R t119 R R R R R<|K.nil<|And.intro (by kernel_rfl)<|At.nr<|K.fieldAddr Y g0 R t123 R R<|K.load1 Y g0 R R t3 R R<|K.bin (V:=.int .i64 (w64 (x2.size+1))) g0 R R (fun _=>R) R<|K.fieldAddr Y g0 R t123 R R<|K.load1 Y g0 R R t3 R R<|K.bin (V:=.int .i64 (w64 ((w64 (x2.size+1))+x3.size))) g0 R R (fun _=>R) R<|K.fieldAddr Y g0 R t123 R R<|K.store Y _ g0 R R R t3 R R R R R<|K.nil<|At.ns ?_
 obtain ⟨x4,hx4,H0⟩:=bnd H0
 obtain ⟨x5,hx5,H0⟩:=bnd H0
 obtain ⟨x6,hx6,H0⟩:=bnd H0
 refine G.rd mixed<|K.fieldAddr Y g0 R t123 R R<|K.load1 Y g0 R R t85 R R<|K.mkIface Y g0 R (mkI Tryz.underlying85 R) R<|K.fieldAddr Y g0 R t123 R R<|K.loadS Y _ g0 R R t82 R R R<|K.mkIface Y g0 R (mkI Tryz.underlying82 R) R<|K.callR [((.tmp 37),_)] (shelf_Slot_Sum_con (k:=k) hx4) (toFn_invoke (cf 202 R) (me82_202) R) g0 ⟨R,trivial⟩ trivial R R R<|K.callR [((.tmp 34),_),((.tmp 38),_)] (shelf_Size_Plus_con (k:=k) hx5) (toFn_invoke (cf 203 R) (me85_203) R) g0 ⟨R,R,trivial⟩ trivial R R R<|K.mkIface Y g0 R (mkI Tryz.underlying85 R) R<|K.fieldAddr Y g0 R t123 R R<|K.load1 Y g0 R R t85 R R<|K.callR [((.tmp 40),_),((.tmp 42),_)] (shelf_Size_Plus_con (k:=k) hx6) (toFn_invoke (cf 203 R) (me85_203) R) g0 ⟨R,R,trivial⟩ trivial R R R<|K.fieldAddr Y g0 R t123 R R<|K.store Y _ g0 R R R t85 R R R R R<|K.nil<|And.intro (by kernel_rfl)<|At.ns ?_
 obtain ⟨x7,hx7,H0⟩:=bnd H0
 refine G.rd mixed<|K.mv R R<|K.nilCheck g0 R R<|K.fieldAddr Y g0 R t121 R R<|K.load1 Y g0 R R t117 R R<|K.loadS Y _ g0 R R t119 R R R<|K.loadS Y _ g0 R R t123 R R R<|K.call0 [(.func 162,_),((.tmp 48),_),((.tmp 49),_),((.tmp 50),_)] (plsetS hx7 1) (toFn_func (cf 162 R) R) g0 ⟨R,R,R,R,trivial⟩ ⟨R,trivial⟩ R R R R R R<|K.nil<|And.intro (by kernel_rfl)<|At.nr<|K.loadS Y _ g0 R R t119 R R R<|K.store Y _ g0 R R R t119 R R R R R<|K.nil<|At.next<|G.ret<|At.done Y [(.cell 8 119,.agg [_,_])] R ⟨.st R R t119 R R,trivial⟩ (to':=[(0,_),(1,_)]) ⟨R,R,trivial⟩ ?_ ?_ R R R (.inl R)
 · cases H0;rfl
 · cases H0;rfl
theorem Tree_layS_con {k:Nat}  {p1:Pool (TNode TSlot TSize)} {a1:TRef} {a2:TRef} {a3:TRef} {ri0 rg0:Int} {r:TRef×Pool (TNode TSlot TSize)}  (H0:Tree_lay.f opsS k p1 a1 a2 a3=some r) (m0 m1:Nat):Tree_layS_st p1 a1 a2 a3 ri0 rg0 r m0 m1 :=
 SCon.ren (rn [(0,m0),(1,m1)]) (Tree_layS_con0 (k:=k)   H0) ⟨(blk_ren R R),(pl_ren R),trivial⟩ ⟨(blk_ren R R),(pl_ren R),trivial⟩ (by simp) (by simp)
abbrev Tree_turnRightS_st (p1:Pool (TNode TSlot TSize)) (a1:TRef) (ri0:Int) (rg0:Int) (r:TRef×Pool (TNode TSlot TSize)) (m0:Nat) (m1:Nat):Prop:=SCon Tryz.prog 167 [SV.p m0 0,.a (.agg ((eTRef a1).map .v))] [(m0,blk m0 [.p m1 0,.i ri0,.i rg0] 121),(m1,plS m1 p1)] (.a (.agg ((eTRef r.1).map .v))) [(m0,blk m0 [.p m1 0,.i ri0,.i rg0] 121),(m1,plS m1 r.2)] []
theorem Tree_turnRightS_con0 {k:Nat}  {p1:Pool (TNode TSlot TSize)} {a1:TRef} {ri0 rg0:Int} {r:TRef×Pool (TNode TSlot TSize)}  (H0:Tree_turnRight.f opsS k p1 a1=some r):Tree_turnRightS_st p1 a1 ri0 rg0 r 0 1:=by
 rw [Tree_turnRight.f] at H0
 refine spec_of [(0,_),(1,_)] [(0,_),(1,_)] 28 Tryz.func167 R Tryz.ntmps167 R R R R (fun β W F=>?_)
 refine G.seq<|G.rg<|K.box Y 100 _ g0 R R R R R R<|K.alloc Y 101 _ g0 t119 R R R R R<|K.nil<|At.ns ?_
 obtain ⟨x1,hx1,H0⟩:=bnd H0
 refine G.rg<|K.mv R R<|K.loadS Y _ g0 R R t119 R R R<|K.cR (cf 70 R) (Tree_getS_con hx1 0 1) g0 R R R R<|K.alloc Y 102 _ g0 t123 R R R R R<|K.store Y _ g0 R R R t123 R R R R R<|K.nil<|At.ns ?_
 obtain ⟨x2,hx2,H0⟩:=bnd H0
 refine G.rg<|K.mv R R<|K.fieldAddr Y g0 R t123 R R<|K.loadS Y _ g0 R R t119 R R R<|K.cR (cf 70 R) (Tree_getS_con hx2 0 1) g0 R R R R<|K.alloc Y 103 _ g0 t123 R R R R R<|K.store Y _ g0 R R R t123 R R R R R<|K.nil<|At.ns ?_
 obtain ⟨x3,hx3,H0⟩:=bnd H0
 refine G.rg<|K.mv R R<|K.loadS Y _ g0 R R t119 R R R<|K.fieldAddr Y g0 R t123 R R<|K.loadS Y _ g0 R R t119 R R R<|K.fieldAddr Y g0 R t123 R R<|K.loadS Y _ g0 R R t119 R R R<|K.c0 (cf 147 R) (Tree_layS_con hx3 0 1) g0 R R R R<|K.nil<|At.ns ?_
 obtain ⟨x4,hx4,H0⟩:=bnd H0
 refine G.rg<|K.mv R R<|K.fieldAddr Y g0 R t123 R R<|K.loadS Y _ g0 R R t119 R R R<|K.fieldAddr Y g0 R t123 R R<|K.loadS Y _ g0 R R t119 R R R<|K.loadS Y _ g0 R R t119 R R R<|K.c0 (cf 147 R) (Tree_layS_con hx4 0 1) g0 R R R R<|K.store Y _ g0 R R R t119 R R R R R<|K.nil<|At.next<|G.ret<|At.done Y [(.cell 4 119,.agg [_,_])] R ⟨.st R R t119 R R,trivial⟩ (to':=[(0,_),(1,_)]) ⟨R,R,trivial⟩ ?_ ?_ R R R (.inl R)
 · cases H0;rfl
 · cases H0;rfl
theorem Tree_turnRightS_con {k:Nat}  {p1:Pool (TNode TSlot TSize)} {a1:TRef} {ri0 rg0:Int} {r:TRef×Pool (TNode TSlot TSize)}  (H0:Tree_turnRight.f opsS k p1 a1=some r) (m0 m1:Nat):Tree_turnRightS_st p1 a1 ri0 rg0 r m0 m1 :=
 SCon.ren (rn [(0,m0),(1,m1)]) (Tree_turnRightS_con0 (k:=k)   H0) ⟨(blk_ren R R),(pl_ren R),trivial⟩ ⟨(blk_ren R R),(pl_ren R),trivial⟩ (by simp) (by simp)
abbrev Tree_turnLeftS_st (p1:Pool (TNode TSlot TSize)) (a1:TRef) (ri0:Int) (rg0:Int) (r:TRef×Pool (TNode TSlot TSize)) (m0:Nat) (m1:Nat):Prop:=SCon Tryz.prog 168 [SV.p m0 0,.a (.agg ((eTRef a1).map .v))] [(m0,blk m0 [.p m1 0,.i ri0,.i rg0] 121),(m1,plS m1 p1)] (.a (.agg ((eTRef r.1).map .v))) [(m0,blk m0 [.p m1 0,.i ri0,.i rg0] 121),(m1,plS m1 r.2)] []
theorem Tree_turnLeftS_con0 {k:Nat}  {p1:Pool (TNode TSlot TSize)} {a1:TRef} {ri0 rg0:Int} {r:TRef×Pool (TNode TSlot TSize)}  (H0:Tree_turnLeft.f opsS k p1 a1=some r):Tree_turnLeftS_st p1 a1 ri0 rg0 r 0 1:=by
 rw [Tree_turnLeft.f] at H0
 refine spec_of [(0,_),(1,_)] [(0,_),(1,_)] 28 Tryz.func168 R Tryz.ntmps168 R R R R (fun β W F=>?_)
 refine G.seq<|G.rg<|K.box Y 100 _ g0 R R R R R R<|K.alloc Y 101 _ g0 t119 R R R R R<|K.nil<|At.ns ?_
 obtain ⟨x1,hx1,H0⟩:=bnd H0
 refine G.rg<|K.mv R R<|K.loadS Y _ g0 R R t119 R R R<|K.cR (cf 70 R) (Tree_getS_con hx1 0 1) g0 R R R R<|K.alloc Y 102 _ g0 t123 R R R R R<|K.store Y _ g0 R R R t123 R R R R R<|K.nil<|At.ns ?_
 obtain ⟨x2,hx2,H0⟩:=bnd H0
 refine G.rg<|K.mv R R<|K.fieldAddr Y g0 R t123 R R<|K.loadS Y _ g0 R R t119 R R R<|K.cR (cf 70 R) (Tree_getS_con hx2 0 1) g0 R R R R<|K.alloc Y 103 _ g0 t123 R R R R R<|K.store Y _ g0 R R R t123 R R R R R<|K.nil<|At.ns ?_
 obtain ⟨x3,hx3,H0⟩:=bnd H0
 refine G.rg<|K.mv R R<|K.loadS Y _ g0 R R t119 R R R<|K.fieldAddr Y g0 R t123 R R<|K.loadS Y _ g0 R R t119 R R R<|K.fieldAddr Y g0 R t123 R R<|K.loadS Y _ g0 R R t119 R R R<|K.c0 (cf 147 R) (Tree_layS_con hx3 0 1) g0 R R R R<|K.nil<|At.ns ?_
 obtain ⟨x4,hx4,H0⟩:=bnd H0
 refine G.rg<|K.mv R R<|K.fieldAddr Y g0 R t123 R R<|K.loadS Y _ g0 R R t119 R R R<|K.loadS Y _ g0 R R t119 R R R<|K.fieldAddr Y g0 R t123 R R<|K.loadS Y _ g0 R R t119 R R R<|K.c0 (cf 147 R) (Tree_layS_con hx4 0 1) g0 R R R R<|K.store Y _ g0 R R R t119 R R R R R<|K.nil<|At.next<|G.ret<|At.done Y [(.cell 4 119,.agg [_,_])] R ⟨.st R R t119 R R,trivial⟩ (to':=[(0,_),(1,_)]) ⟨R,R,trivial⟩ ?_ ?_ R R R (.inl R)
 · cases H0;rfl
 · cases H0;rfl
theorem Tree_turnLeftS_con {k:Nat}  {p1:Pool (TNode TSlot TSize)} {a1:TRef} {ri0 rg0:Int} {r:TRef×Pool (TNode TSlot TSize)}  (H0:Tree_turnLeft.f opsS k p1 a1=some r) (m0 m1:Nat):Tree_turnLeftS_st p1 a1 ri0 rg0 r m0 m1 :=
 SCon.ren (rn [(0,m0),(1,m1)]) (Tree_turnLeftS_con0 (k:=k)   H0) ⟨(blk_ren R R),(pl_ren R),trivial⟩ ⟨(blk_ren R R),(pl_ren R),trivial⟩ (by simp) (by simp)
abbrev Tree_balanceS_st (p1:Pool (TNode TSlot TSize)) (a1:TRef) (ri0:Int) (rg0:Int) (r:TRef×Pool (TNode TSlot TSize)) (m0:Nat) (m1:Nat):Prop:=SCon Tryz.prog 146 [SV.p m0 0,.a (.agg ((eTRef a1).map .v))] [(m0,blk m0 [.p m1 0,.i ri0,.i rg0] 121),(m1,plS m1 p1)] (.a (.agg ((eTRef r.1).map .v))) [(m0,blk m0 [.p m1 0,.i ri0,.i rg0] 121),(m1,plS m1 r.2)] []
theorem Tree_balanceS_con0 {k:Nat}  {p1:Pool (TNode TSlot TSize)} {a1:TRef} {ri0 rg0:Int} {r:TRef×Pool (TNode TSlot TSize)}  (H0:Tree_balance.f opsS k p1 a1=some r):Tree_balanceS_st p1 a1 ri0 rg0 r 0 1:=by
 rw [Tree_balance.f] at H0
 refine spec_of [(0,_),(1,_)] [(0,_),(1,_)] 84 Tryz.func146 R Tryz.ntmps146 R R R R (fun β W F=>?_)
 refine G.seq<|G.rg<|K.box Y 100 _ g0 R R R R R R<|K.alloc Y 101 _ g0 t119 R R R R R<|K.nil<|At.ns ?_
 obtain ⟨x1,hx1,H0⟩:=bnd H0
 refine G.rg<|K.mv R R<|K.loadS Y _ g0 R R t119 R R R<|K.cR (cf 70 R) (Tree_getS_con hx1 0 1) g0 R R R R<|K.alloc Y 102 _ g0 t123 R R R R R<|K.store Y _ g0 R R R t123 R R R R R<|K.nil<|At.ns ?_
 obtain ⟨x2,hx2,H0⟩:=bnd H0
 obtain ⟨x3,hx3,H0⟩:=bnd H0
 refine G.rd mixed<|K.mv R R<|K.fieldAddr Y g0 R t123 R R<|K.loadS Y _ g0 R R t119 R R R<|K.cR (cf 130 R) (Tree_weightS_con hx2 0 1) g0 R R R R<|K.mv R R<|K.fieldAddr Y g0 R t123 R R<|K.loadS Y _ g0 R R t119 R R R<|K.cR (cf 130 R) (Tree_weightS_con hx3 0 1) g0 R R R R<|K.as R R<|K.as R R<|K.nil<|And.intro (by kernel_rfl)<|At.ns<|G.block<|G.seq<|G.rg<|K.mv R R<|K.mv R R<|K.bin (V:=.int .i64 (w64 (3*x2))) g0 R R (fun _=>R) R<|K.bin (V:=.bool (decide (x3>(w64 (3*x2))))) g0 R R (fun _=>R) R<|K.as R R<|K.nil<|At.next<|G.cond R (fun h1=>?_) (fun h1=>?_)
 ·
  replace H0:=bif_t H0 h1
  refine G.seq ?_
  obtain ⟨x4,hx4,H0⟩:=bnd H0
  refine G.rg<|K.mv R R<|K.fieldAddr Y g0 R t123 R R<|K.loadS Y _ g0 R R t119 R R R<|K.cR (cf 70 R) (Tree_getS_con hx4 0 1) g0 R R R R<|K.alloc Y 103 _ g0 t123 R R R R R<|K.store Y _ g0 R R R t123 R R R R R<|K.nil<|At.ns<|G.seq ?_
  obtain ⟨x5,hx5,H0⟩:=bnd H0
  obtain ⟨x6,hx6,H0⟩:=bnd H0
  refine G.rd mixed<|K.mv R R<|K.fieldAddr Y g0 R t123 R R<|K.loadS Y _ g0 R R t119 R R R<|K.cR (cf 130 R) (Tree_weightS_con hx5 0 1) g0 R R R R<|K.mv R R<|K.fieldAddr Y g0 R t123 R R<|K.loadS Y _ g0 R R t119 R R R<|K.cR (cf 130 R) (Tree_weightS_con hx6 0 1) g0 R R R R<|K.bin (V:=.int .i64 (w64 (2*x6))) g0 R R (fun _=>R) R<|K.bin (V:=.bool (decide (x5≥(w64 (2*x6))))) g0 R R (fun _=>R) R<|K.nil<|And.intro (by kernel_rfl)<|At.next<|G.cond R (fun h2=>?_) (fun h2=>?_)
  ·
   replace H0:=bif_t H0 h2
   obtain ⟨x7,hx7,H0⟩:=bnd H0
   obtain ⟨x8,hx8,H0⟩:=bnd H0
   refine G.rd mixed<|K.mv R R<|K.loadS Y _ g0 R R t119 R R R<|K.fieldAddr Y g0 R t123 R R<|K.loadS Y _ g0 R R t119 R R R<|K.mv R R<|K.fieldAddr Y g0 R t123 R R<|K.loadS Y _ g0 R R t119 R R R<|K.c0 (cf 167 R) (Tree_turnRightS_con hx7 0 1) g0 R R R R<|K.c0 (cf 147 R) (Tree_layS_con hx8 0 1) g0 R R R R<|K.nil<|And.intro (by kernel_rfl)<|At.ns ?_
   obtain ⟨x9,hx9,H0⟩:=bnd H0
   refine G.rg<|K.mv R R<|K.loadS Y _ g0 R R t119 R R R<|K.c0 (cf 168 R) (Tree_turnLeftS_con hx9 0 1) g0 R R R R<|K.store Y _ g0 R R R t119 R R R R R<|K.nil<|At.next<|G.ret<|At.block_ret<|At.over_ret<|At.done Y [(.cell 4 119,.agg [_,_])] R ⟨.st R R t119 R R,trivial⟩ (to':=[(0,_),(1,_)]) ⟨R,R,trivial⟩ ?_ ?_ R R R (.inl R)
   · cases H0;rfl
   · cases H0;rfl
  ·
   replace H0:=bif_f H0 h2
   refine G.skip<|At.ns ?_
   obtain ⟨x10,hx10,H0⟩:=bnd H0
   refine G.rg<|K.mv R R<|K.loadS Y _ g0 R R t119 R R R<|K.c0 (cf 168 R) (Tree_turnLeftS_con hx10 0 1) g0 R R R R<|K.store Y _ g0 R R R t119 R R R R R<|K.nil<|At.next<|G.ret<|At.block_ret<|At.over_ret<|At.done Y [(.cell 4 119,.agg [_,_])] R ⟨.st R R t119 R R,trivial⟩ (to':=[(0,_),(1,_)]) ⟨R,R,trivial⟩ ?_ ?_ R R R (.inl R)
   · cases H0;rfl
   · cases H0;rfl
 ·
  replace H0:=bif_f H0 h1
  refine G.seq<|G.rg<|K.mv R R<|K.mv R R<|K.bin (V:=.int .i64 (w64 (3*x3))) g0 R R (fun _=>R) R<|K.bin (V:=.bool (decide (x2>(w64 (3*x3))))) g0 R R (fun _=>R) R<|K.as R R<|K.nil<|At.next<|G.cond R (fun h3=>?_) (fun h3=>?_)
  ·
   replace H0:=bif_t H0 h3
   refine G.seq ?_
   obtain ⟨x11,hx11,H0⟩:=bnd H0
   refine G.rg<|K.mv R R<|K.fieldAddr Y g0 R t123 R R<|K.loadS Y _ g0 R R t119 R R R<|K.cR (cf 70 R) (Tree_getS_con hx11 0 1) g0 R R R R<|K.alloc Y 104 _ g0 t123 R R R R R<|K.store Y _ g0 R R R t123 R R R R R<|K.nil<|At.ns<|G.seq ?_
   obtain ⟨x12,hx12,H0⟩:=bnd H0
   obtain ⟨x13,hx13,H0⟩:=bnd H0
   refine G.rd mixed<|K.mv R R<|K.fieldAddr Y g0 R t123 R R<|K.loadS Y _ g0 R R t119 R R R<|K.cR (cf 130 R) (Tree_weightS_con hx12 0 1) g0 R R R R<|K.mv R R<|K.fieldAddr Y g0 R t123 R R<|K.loadS Y _ g0 R R t119 R R R<|K.cR (cf 130 R) (Tree_weightS_con hx13 0 1) g0 R R R R<|K.bin (V:=.int .i64 (w64 (2*x13))) g0 R R (fun _=>R) R<|K.bin (V:=.bool (decide (x12≥(w64 (2*x13))))) g0 R R (fun _=>R) R<|K.nil<|And.intro (by kernel_rfl)<|At.next<|G.cond R (fun h4=>?_) (fun h4=>?_)
   ·
    replace H0:=bif_t H0 h4
    obtain ⟨x14,hx14,H0⟩:=bnd H0
    obtain ⟨x15,hx15,H0⟩:=bnd H0
    refine G.rd mixed<|K.mv R R<|K.loadS Y _ g0 R R t119 R R R<|K.mv R R<|K.fieldAddr Y g0 R t123 R R<|K.loadS Y _ g0 R R t119 R R R<|K.c0 (cf 168 R) (Tree_turnLeftS_con hx14 0 1) g0 R R R R<|K.fieldAddr Y g0 R t123 R R<|K.loadS Y _ g0 R R t119 R R R<|K.c0 (cf 147 R) (Tree_layS_con hx15 0 1) g0 R R R R<|K.nil<|And.intro (by kernel_rfl)<|At.ns ?_
    obtain ⟨x16,hx16,H0⟩:=bnd H0
    refine G.rg<|K.mv R R<|K.loadS Y _ g0 R R t119 R R R<|K.c0 (cf 167 R) (Tree_turnRightS_con hx16 0 1) g0 R R R R<|K.store Y _ g0 R R R t119 R R R R R<|K.nil<|At.next<|G.ret<|At.block_ret<|At.over_ret<|At.done Y [(.cell 4 119,.agg [_,_])] R ⟨.st R R t119 R R,trivial⟩ (to':=[(0,_),(1,_)]) ⟨R,R,trivial⟩ ?_ ?_ R R R (.inl R)
    · cases H0;rfl
    · cases H0;rfl
   ·
    replace H0:=bif_f H0 h4
    refine G.skip<|At.ns ?_
    obtain ⟨x17,hx17,H0⟩:=bnd H0
    refine G.rg<|K.mv R R<|K.loadS Y _ g0 R R t119 R R R<|K.c0 (cf 167 R) (Tree_turnRightS_con hx17 0 1) g0 R R R R<|K.store Y _ g0 R R R t119 R R R R R<|K.nil<|At.next<|G.ret<|At.block_ret<|At.over_ret<|At.done Y [(.cell 4 119,.agg [_,_])] R ⟨.st R R t119 R R,trivial⟩ (to':=[(0,_),(1,_)]) ⟨R,R,trivial⟩ ?_ ?_ R R R (.inl R)
    · cases H0;rfl
    · cases H0;rfl
  ·
   replace H0:=bif_f H0 h3
   refine G.skip<|At.block_normal<|At.nr<|K.loadS Y _ g0 R R t119 R R R<|K.store Y _ g0 R R R t119 R R R R R<|K.nil<|At.next<|G.ret<|At.done Y [(.cell 4 119,.agg [_,_])] R ⟨.st R R t119 R R,trivial⟩ (to':=[(0,_),(1,_)]) ⟨R,R,trivial⟩ ?_ ?_ R R R (.inl R)
   · cases H0;rfl
   · cases H0;rfl
theorem Tree_balanceS_con {k:Nat}  {p1:Pool (TNode TSlot TSize)} {a1:TRef} {ri0 rg0:Int} {r:TRef×Pool (TNode TSlot TSize)}  (H0:Tree_balance.f opsS k p1 a1=some r) (m0 m1:Nat):Tree_balanceS_st p1 a1 ri0 rg0 r m0 m1 :=
 SCon.ren (rn [(0,m0),(1,m1)]) (Tree_balanceS_con0 (k:=k)   H0) ⟨(blk_ren R R),(pl_ren R),trivial⟩ ⟨(blk_ren R R),(pl_ren R),trivial⟩ (by simp) (by simp)
abbrev Tree_linkS_st (p1:Pool (TNode TSlot TSize)) (a1:TRef) (a2:TRef) (a3:TRef) (ri0:Int) (rg0:Int) (r:TRef×Pool (TNode TSlot TSize)) (m0:Nat) (m1:Nat):Prop:=SCon Tryz.prog 123 [SV.p m0 0,.a (.agg ((eTRef a1).map .v)),.a (.agg ((eTRef a2).map .v)),.a (.agg ((eTRef a3).map .v))] [(m0,blk m0 [.p m1 0,.i ri0,.i rg0] 121),(m1,plS m1 p1)] (.a (.agg ((eTRef r.1).map .v))) [(m0,blk m0 [.p m1 0,.i ri0,.i rg0] 121),(m1,plS m1 r.2)] []
theorem Tree_linkS_con0 {k:Nat}  : ∀ {n:Nat} {p1:Pool (TNode TSlot TSize)} {a1:TRef} {a2:TRef} {a3:TRef} {ri0 rg0:Int} {r:TRef×Pool (TNode TSlot TSize)}  (H0:Tree_link.r opsS k n p1 a1 a2 a3=some r),Tree_linkS_st p1 a1 a2 a3 ri0 rg0 r 0 1:=by
 intro n
 induction n with
 | zero => intro p1 a1 a2 a3 ri0 rg0 r H0; exact absurd H0 (by simp [Tree_link.r])
 | succ n ih =>
  intro p1 a1 a2 a3 ri0 rg0 r H0
  rw [Tree_link.r] at H0
  refine spec_of [(0,_),(1,_),(2,_),(3,_)] [(0,_),(1,_)] 66 Tryz.func123 R Tryz.ntmps123 R R R R (fun β W F=>?_)
  refine G.seq<|G.rg<|K.box Y 100 _ g0 R R R R R R<|K.box Y 101 _ g0 R R R R R R<|K.box Y 102 _ g0 R R R R R R<|K.alloc Y 103 _ g0 t119 R R R R R<|K.nil<|At.ns ?_
  obtain ⟨x1,hx1,H0⟩:=bnd H0
  obtain ⟨x2,hx2,H0⟩:=bnd H0
  refine G.rd mixed<|K.mv R R<|K.loadS Y _ g0 R R t119 R R R<|K.cR (cf 130 R) (Tree_weightS_con hx1 0 1) g0 R R R R<|K.mv R R<|K.loadS Y _ g0 R R t119 R R R<|K.cR (cf 130 R) (Tree_weightS_con hx2 0 1) g0 R R R R<|K.as R R<|K.as R R<|K.nil<|And.intro (by kernel_rfl)<|At.ns<|G.block<|G.seq<|G.rg<|K.mv R R<|K.mv R R<|K.bin (V:=.int .i64 (w64 (3*x1))) g0 R R (fun _=>R) R<|K.bin (V:=.bool (decide (x2>(w64 (3*x1))))) g0 R R (fun _=>R) R<|K.as R R<|K.nil<|At.next<|G.cond R (fun h1=>?_) (fun h1=>?_)
  ·
   replace H0:=bif_t H0 h1
   refine G.seq ?_
   obtain ⟨x3,hx3,H0⟩:=bnd H0
   refine G.rg<|K.mv R R<|K.loadS Y _ g0 R R t119 R R R<|K.cR (cf 70 R) (Tree_getS_con hx3 0 1) g0 R R R R<|K.alloc Y 104 _ g0 t123 R R R R R<|K.store Y _ g0 R R R t123 R R R R R<|K.nil<|At.ns ?_
   obtain ⟨x4,hx4,H0⟩:=bnd H0
   obtain ⟨x5,hx5,H0⟩:=bnd H0
   obtain ⟨x6,hx6,H0⟩:=bnd H0
   refine G.rd mixed<|K.mv R R<|K.mv R R<|K.loadS Y _ g0 R R t119 R R R<|K.mv R R<|K.loadS Y _ g0 R R t119 R R R<|K.loadS Y _ g0 R R t119 R R R<|K.fieldAddr Y g0 R t123 R R<|K.loadS Y _ g0 R R t119 R R R<|K.c0 (cf 123 R) (ih hx4) g0 R R R R<|K.fieldAddr Y g0 R t123 R R<|K.loadS Y _ g0 R R t119 R R R<|K.c0 (cf 147 R) (Tree_layS_con hx5 0 1) g0 R R R R<|K.c0 (cf 146 R) (Tree_balanceS_con hx6 0 1) g0 R R R R<|K.store Y _ g0 R R R t119 R R R R R<|K.nil<|And.intro (by kernel_rfl)<|At.next<|G.ret<|At.block_ret<|At.over_ret<|At.done Y [(.cell 8 119,.agg [_,_])] R ⟨.st R R t119 R R,trivial⟩ (to':=[(0,_),(1,_)]) ⟨R,R,trivial⟩ ?_ ?_ R R R (.inl R)
   · cases H0;rfl
   · cases H0;rfl
  ·
   replace H0:=bif_f H0 h1
   refine G.seq<|G.rg<|K.mv R R<|K.mv R R<|K.bin (V:=.int .i64 (w64 (3*x2))) g0 R R (fun _=>R) R<|K.bin (V:=.bool (decide (x1>(w64 (3*x2))))) g0 R R (fun _=>R) R<|K.as R R<|K.nil<|At.next<|G.cond R (fun h2=>?_) (fun h2=>?_)
   ·
    replace H0:=bif_t H0 h2
    refine G.seq ?_
    obtain ⟨x7,hx7,H0⟩:=bnd H0
    refine G.rg<|K.mv R R<|K.loadS Y _ g0 R R t119 R R R<|K.cR (cf 70 R) (Tree_getS_con hx7 0 1) g0 R R R R<|K.alloc Y 105 _ g0 t123 R R R R R<|K.store Y _ g0 R R R t123 R R R R R<|K.nil<|At.ns ?_
    obtain ⟨x8,hx8,H0⟩:=bnd H0
    obtain ⟨x9,hx9,H0⟩:=bnd H0
    obtain ⟨x10,hx10,H0⟩:=bnd H0
    refine G.rd mixed<|K.mv R R<|K.mv R R<|K.loadS Y _ g0 R R t119 R R R<|K.fieldAddr Y g0 R t123 R R<|K.loadS Y _ g0 R R t119 R R R<|K.mv R R<|K.fieldAddr Y g0 R t123 R R<|K.loadS Y _ g0 R R t119 R R R<|K.loadS Y _ g0 R R t119 R R R<|K.loadS Y _ g0 R R t119 R R R<|K.c0 (cf 123 R) (ih hx8) g0 R R R R<|K.c0 (cf 147 R) (Tree_layS_con hx9 0 1) g0 R R R R<|K.c0 (cf 146 R) (Tree_balanceS_con hx10 0 1) g0 R R R R<|K.store Y _ g0 R R R t119 R R R R R<|K.nil<|And.intro (by kernel_rfl)<|At.next<|G.ret<|At.block_ret<|At.over_ret<|At.done Y [(.cell 8 119,.agg [_,_])] R ⟨.st R R t119 R R,trivial⟩ (to':=[(0,_),(1,_)]) ⟨R,R,trivial⟩ ?_ ?_ R R R (.inl R)
    · cases H0;rfl
    · cases H0;rfl
   ·
    replace H0:=bif_f H0 h2
    refine G.skip<|At.block_normal<|At.ns ?_
    obtain ⟨x11,hx11,H0⟩:=bnd H0
    refine G.rg<|K.mv R R<|K.loadS Y _ g0 R R t119 R R R<|K.loadS Y _ g0 R R t119 R R R<|K.loadS Y _ g0 R R t119 R R R<|K.c0 (cf 147 R) (Tree_layS_con hx11 0 1) g0 R R R R<|K.store Y _ g0 R R R t119 R R R R R<|K.nil<|At.next<|G.ret<|At.done Y [(.cell 8 119,.agg [_,_])] R ⟨.st R R t119 R R,trivial⟩ (to':=[(0,_),(1,_)]) ⟨R,R,trivial⟩ ?_ ?_ R R R (.inl R)
    · cases H0;rfl
    · cases H0;rfl
theorem Tree_linkS_con {k n:Nat}  {p1:Pool (TNode TSlot TSize)} {a1:TRef} {a2:TRef} {a3:TRef} {ri0 rg0:Int} {r:TRef×Pool (TNode TSlot TSize)}  (H0:Tree_link.r opsS k n p1 a1 a2 a3=some r) (m0 m1:Nat):Tree_linkS_st p1 a1 a2 a3 ri0 rg0 r m0 m1 :=
 SCon.ren (rn [(0,m0),(1,m1)]) (Tree_linkS_con0 (k:=k)   H0) ⟨(blk_ren R R),(pl_ren R),trivial⟩ ⟨(blk_ren R R),(pl_ren R),trivial⟩ (by simp) (by simp)
abbrev Tree_putS_st (p1:Pool (TNode TSlot TSize)) (a1:TRef) (a2:TSlot) (ri0:Int) (rg0:Int) (r:TRef×Bool×Pool (TNode TSlot TSize)) (m0:Nat) (m1:Nat):Prop:=SCon Tryz.prog 136 [SV.p m0 0,.a (.agg ((eTRef a1).map .v)),.a (.agg ((eTSlot a2).map .v))] [(m0,blk m0 [.p m1 0,.i ri0,.i rg0] 121),(m1,plS m1 p1)] (.tup [.agg ((eTRef r.1).map .v),.c (.v (.bool r.2.1))]) [(m0,blk m0 [.p m1 0,.i ri0,.i rg0] 121),(m1,plS m1 r.2.2)] []
set_option maxHeartbeats 4000000 in
theorem Tree_putS_con0 {k:Nat}  : ∀ {n:Nat} {p1:Pool (TNode TSlot TSize)} {a1:TRef} {a2:TSlot} {ri0 rg0:Int} {r:TRef×Bool×Pool (TNode TSlot TSize)}  (H0:Tree_put.r opsS k n p1 a1 a2=some r),Tree_putS_st p1 a1 a2 ri0 rg0 r 0 1:=by
 intro n
 induction n with
 | zero => intro p1 a1 a2 ri0 rg0 r H0; exact absurd H0 (by simp [Tree_put.r])
 | succ n ih =>
  intro p1 a1 a2 ri0 rg0 r H0
  rw [Tree_put.r] at H0
  refine spec_of [(0,_),(1,_),(2,_)] [(0,_),(1,_)] 98 Tryz.func136 R Tryz.ntmps136 R R R R (fun β W F=>?_)
  refine G.seq<|G.rg<|K.box Y 100 _ g0 R R R R R R<|K.box Y 101 _ g0 R R R R R R<|K.alloc Y 102 _ g0 t119 R R R R R<|K.as R R<|K.nil<|At.ns<|G.seq<|G.rg<|K.fieldAddr Y g0 R t119 R R<|K.load1 Y g0 R R t3 R R<|K.bin (V:=.bool (a1.gen == 0)) g0 R R (fun _=>R) R<|K.nil<|At.next<|G.cond R (fun h1=>?_) (fun h1=>?_)
  ·
   replace H0:=bif_t H0 h1
   refine G.seq ?_
   obtain ⟨x1,hx1,H0⟩:=bnd H0
   obtain ⟨x2,hx2,H0⟩:=bnd H0
   refine G.rd mixed<|K.mv R R<|K.nilCheck g0 R R<|K.fieldAddr Y g0 R t121 R R<|K.load1 Y g0 R R t117 R R<|K.loadS Y _ g0 R R t82 R R R<|K.loadS Y _ g0 R R t82 R R R<|K.mkIface Y g0 R (mkI Tryz.underlying82 R) R<|K.callR [((.tmp 26),_)] (shelf_Slot_Sum_con (k:=k) hx1) (toFn_invoke (cf 202 R) (me82_202) R) g0 ⟨R,trivial⟩ trivial R R R<|K.build Y [(0,_),(3,_),(4,_)] [_,_,_,_,_,_,_,_,_,_] [((.tmp 24),_),(_,_),((.tmp 27),_)] g0 (AllE.spec ⟨R,R,R,trivial⟩) R R t123 R R<|K.call0 [(.func 161,_),((.tmp 23),_),((.tmp 28),_)] (plputS hx2 1) (toFn_func (cf 161 R) R) g0 ⟨R,R,R,trivial⟩ ⟨R,trivial⟩ R R R R R R<|K.mv R R<|K.extract g0 R R R<|K.extract g0 R R R<|K.alloc Y 103 _ g0 t119 R R R R R<|K.store Y _ g0 R R R t119 R R R R R<|K.as R R<|K.nil<|And.intro (by kernel_rfl)<|At.nr<|K.loadS Y _ g0 R R t119 R R R<|K.mv R R<|K.store Y _ g0 R R R t119 R R R R R<|K.as R R<|K.nil<|At.next<|G.ret<|At.over_ret<|At.done Y [(.cell 6 119,.agg [_,_]),(.tmp 7,.c _)] R ⟨.st R R t119 R R,.tmp R,trivial⟩ (to':=[(0,_),(1,_)]) ⟨R,R,trivial⟩ ?_ ?_ R R R (.inl R)
   · cases H0;rfl
   · cases H0;rfl
  ·
   replace H0:=bif_f H0 h1
   refine G.skip<|At.ns ?_
   obtain ⟨x3,hx3,H0⟩:=bnd H0
   refine G.rg<|K.mv R R<|K.loadS Y _ g0 R R t119 R R R<|K.cR (cf 70 R) (Tree_getS_con hx3 0 1) g0 R R R R<|K.alloc Y 104 _ g0 t123 R R R R R<|K.store Y _ g0 R R R t123 R R R R R<|K.nil<|At.ns ?_
   obtain ⟨x4,hx4,H0⟩:=bnd H0
   refine G.rg<|K.loadS Y _ g0 R R t82 R R R<|K.mkIface Y g0 R (mkI Tryz.underlying82 R) R<|K.fieldAddr Y g0 R t123 R R<|K.loadS Y _ g0 R R t82 R R R<|K.callR [((.tmp 38),_),((.tmp 40),_)] (shelf_Slot_Compare_con (k:=k) hx4) (toFn_invoke (cf 201 R) (me82_201) R) g0 ⟨R,R,trivial⟩ trivial R R R<|K.as R R<|K.nil<|At.ns<|G.block<|G.seq<|G.rg<|K.mv R R<|K.bin (V:=.bool (decide (x4<0))) g0 R R (fun _=>R) R<|K.as R R<|K.nil<|At.next<|G.cond R (fun h2=>?_) (fun h2=>?_)
   ·
    replace H0:=bif_t H0 h2
    refine G.seq ?_
    obtain ⟨x5,hx5,H0⟩:=bnd H0
    refine G.rg<|K.mv R R<|K.fieldAddr Y g0 R t123 R R<|K.loadS Y _ g0 R R t119 R R R<|K.loadS Y _ g0 R R t82 R R R<|K.c0 (cf 136 R) (ih hx5) g0 R R R R<|K.mv R R<|K.extract g0 R R R<|K.extract g0 R R R<|K.alloc Y 105 _ g0 t119 R R R R R<|K.store Y _ g0 R R R t119 R R R R R<|K.as R R<|K.nil<|At.ns<|G.seq<|G.rg<|K.mv R R<|K.un (V:=.bool (!x5.2.1)) g0 R (fun _=>R) R<|K.nil<|At.next<|G.cond R (fun h3=>?_) (fun h3=>?_)
    ·
     replace H0:=bif_t H0 h3
     refine G.seq<|G.rg<|K.loadS Y _ g0 R R t119 R R R<|K.store Y _ g0 R R R t119 R R R R R<|K.as R R<|K.nil<|At.next<|G.ret<|At.over_ret<|At.block_ret<|At.over_ret<|At.done Y [(.cell 6 119,.agg [_,_]),(.tmp 7,.c _)] R ⟨.st R R t119 R R,.tmp R,trivial⟩ (to':=[(0,_),(1,_)]) ⟨R,R,trivial⟩ ?_ ?_ R R R (.inl R)
     · cases H0;rfl
     · cases H0;rfl
    ·
     replace H0:=bif_f H0 h3
     refine G.skip<|At.ns ?_
     obtain ⟨x6,hx6,H0⟩:=bnd H0
     refine G.rg<|K.mv R R<|K.loadS Y _ g0 R R t119 R R R<|K.loadS Y _ g0 R R t119 R R R<|K.fieldAddr Y g0 R t123 R R<|K.loadS Y _ g0 R R t119 R R R<|K.c0 (cf 123 R) (Tree_linkS_con hx6 0 1) g0 R R R R<|K.store Y _ g0 R R R t119 R R R R R<|K.as R R<|K.nil<|At.next<|G.ret<|At.block_ret<|At.over_ret<|At.done Y [(.cell 6 119,.agg [_,_]),(.tmp 7,.c _)] R ⟨.st R R t119 R R,.tmp R,trivial⟩ (to':=[(0,_),(1,_)]) ⟨R,R,trivial⟩ ?_ ?_ R R R (.inl R)
     · cases H0;rfl
     · cases H0;rfl
   ·
    replace H0:=bif_f H0 h2
    refine G.seq<|G.rg<|K.mv R R<|K.bin (V:=.bool (decide (x4>0))) g0 R R (fun _=>R) R<|K.as R R<|K.nil<|At.next<|G.cond R (fun h4=>?_) (fun h4=>?_)
    ·
     replace H0:=bif_t H0 h4
     refine G.seq ?_
     obtain ⟨x7,hx7,H0⟩:=bnd H0
     refine G.rg<|K.mv R R<|K.fieldAddr Y g0 R t123 R R<|K.loadS Y _ g0 R R t119 R R R<|K.loadS Y _ g0 R R t82 R R R<|K.c0 (cf 136 R) (ih hx7) g0 R R R R<|K.mv R R<|K.extract g0 R R R<|K.extract g0 R R R<|K.alloc Y 106 _ g0 t119 R R R R R<|K.store Y _ g0 R R R t119 R R R R R<|K.as R R<|K.nil<|At.ns<|G.seq<|G.rg<|K.mv R R<|K.un (V:=.bool (!x7.2.1)) g0 R (fun _=>R) R<|K.nil<|At.next<|G.cond R (fun h5=>?_) (fun h5=>?_)
     ·
      replace H0:=bif_t H0 h5
      refine G.seq<|G.rg<|K.loadS Y _ g0 R R t119 R R R<|K.store Y _ g0 R R R t119 R R R R R<|K.as R R<|K.nil<|At.next<|G.ret<|At.over_ret<|At.block_ret<|At.over_ret<|At.done Y [(.cell 6 119,.agg [_,_]),(.tmp 7,.c _)] R ⟨.st R R t119 R R,.tmp R,trivial⟩ (to':=[(0,_),(1,_)]) ⟨R,R,trivial⟩ ?_ ?_ R R R (.inl R)
      · cases H0;rfl
      · cases H0;rfl
     ·
      replace H0:=bif_f H0 h5
      refine G.skip<|At.ns ?_
      obtain ⟨x8,hx8,H0⟩:=bnd H0
      refine G.rg<|K.mv R R<|K.fieldAddr Y g0 R t123 R R<|K.loadS Y _ g0 R R t119 R R R<|K.loadS Y _ g0 R R t119 R R R<|K.loadS Y _ g0 R R t119 R R R<|K.c0 (cf 123 R) (Tree_linkS_con hx8 0 1) g0 R R R R<|K.store Y _ g0 R R R t119 R R R R R<|K.as R R<|K.nil<|At.next<|G.ret<|At.block_ret<|At.over_ret<|At.done Y [(.cell 6 119,.agg [_,_]),(.tmp 7,.c _)] R ⟨.st R R t119 R R,.tmp R,trivial⟩ (to':=[(0,_),(1,_)]) ⟨R,R,trivial⟩ ?_ ?_ R R R (.inl R)
      · cases H0;rfl
      · cases H0;rfl
    ·
     replace H0:=bif_f H0 h4
     refine G.skip<|At.block_normal<|At.nr<|K.loadS Y _ g0 R R t82 R R R<|K.fieldAddr Y g0 R t123 R R<|K.store Y _ g0 R R R t82 R R R R R<|K.nil<|At.ns ?_
     obtain ⟨x9,hx9,H0⟩:=bnd H0
     refine G.rd mixed<|K.mv R R<|K.nilCheck g0 R R<|K.fieldAddr Y g0 R t121 R R<|K.load1 Y g0 R R t117 R R<|K.loadS Y _ g0 R R t119 R R R<|K.loadS Y _ g0 R R t123 R R R<|K.call0 [(.func 162,_),((.tmp 87),_),((.tmp 88),_),((.tmp 89),_)] (plsetS hx9 1) (toFn_func (cf 162 R) R) g0 ⟨R,R,R,R,trivial⟩ ⟨R,trivial⟩ R R R R R R<|K.nil<|And.intro (by kernel_rfl)<|At.ns ?_
     obtain ⟨x10,hx10,H0⟩:=bnd H0
     refine G.rg<|K.mv R R<|K.loadS Y _ g0 R R t119 R R R<|K.fieldAddr Y g0 R t123 R R<|K.loadS Y _ g0 R R t119 R R R<|K.fieldAddr Y g0 R t123 R R<|K.loadS Y _ g0 R R t119 R R R<|K.c0 (cf 147 R) (Tree_layS_con hx10 0 1) g0 R R R R<|K.store Y _ g0 R R R t119 R R R R R<|K.as R R<|K.nil<|At.next<|G.ret<|At.done Y [(.cell 6 119,.agg [_,_]),(.tmp 7,.c _)] R ⟨.st R R t119 R R,.tmp R,trivial⟩ (to':=[(0,_),(1,_)]) ⟨R,R,trivial⟩ ?_ ?_ R R R (.inl R)
     · cases H0;rfl
     · cases H0;rfl
theorem Tree_putS_con {k n:Nat}  {p1:Pool (TNode TSlot TSize)} {a1:TRef} {a2:TSlot} {ri0 rg0:Int} {r:TRef×Bool×Pool (TNode TSlot TSize)}  (H0:Tree_put.r opsS k n p1 a1 a2=some r) (m0 m1:Nat):Tree_putS_st p1 a1 a2 ri0 rg0 r m0 m1 :=
 SCon.ren (rn [(0,m0),(1,m1)]) (Tree_putS_con0 (k:=k)   H0) ⟨(blk_ren R R),(pl_ren R),trivial⟩ ⟨(blk_ren R R),(pl_ren R),trivial⟩ (by simp) (by simp)
abbrev Tree_PutS_st (p1:Pool (TNode TSlot TSize)) (rt0:TRef) (a1:TSlot) (r:Bool×TRef×Pool (TNode TSlot TSize)) (m0:Nat) (m1:Nat):Prop:=SCon Tryz.prog 111 [SV.p m0 0,.a (.agg ((eTSlot a1).map .v))] [(m0,blk m0 [.p m1 0,.i rt0.index,.i rt0.gen] 121),(m1,plS m1 p1)] (.a (.c (.v (.bool r.1)))) [(m0,blk m0 [.p m1 0,.i r.2.1.index,.i r.2.1.gen] 121),(m1,plS m1 r.2.2)] []
theorem Tree_PutS_con0 {k:Nat}  {p1:Pool (TNode TSlot TSize)} {rt0:TRef} {a1:TSlot} {r:Bool×TRef×Pool (TNode TSlot TSize)}  (H0:Tree_Put.f opsS k p1 rt0 a1=some r):Tree_PutS_st p1 rt0 a1 r 0 1:=by
 rw [Tree_Put.f] at H0
 refine spec_of [(0,_),(1,_)] [(0,_),(1,_)] 23 Tryz.func111 R Tryz.ntmps111 R R R R (fun β W F=>?_)
 refine G.seq<|G.rg<|K.box Y 100 _ g0 R R R R R R<|K.as R R<|K.nil<|At.ns ?_
 obtain ⟨x1,hx1,H0⟩:=bnd H0
 refine G.rd mixed<|K.mv R R<|K.mv R R<|K.nilCheck g0 R R<|K.fieldAddr Y g0 R t121 R R<|K.loadS Y _ g0 R R t119 R R R<|K.loadS Y _ g0 R R t82 R R R<|K.c0 (cf 136 R) (Tree_putS_con hx1 0 1) g0 R R R R<|K.mv R R<|K.extract g0 R R R<|K.extract g0 R R R<|K.alloc Y 101 _ g0 t119 R R R R R<|K.store Y _ g0 R R R t119 R R R R R<|K.as R R<|K.nil<|And.intro (by kernel_rfl)<|At.ns<|G.seq<|G.rg<|K.mv R R<|K.nil<|At.next<|G.cond R (fun h1=>?_) (fun h1=>?_)
 ·
  replace H0:=bif_t H0 h1
  exact G.rg<|K.mv R R<|K.loadS Y _ g0 R R t119 R R R<|K.nilCheck g0 R R<|K.fieldAddr Y g0 R t121 R R<|K.store Y _ g0 R R R t119 R R R R R<|K.nil<|At.nr<|K.mv R R<|K.as R R<|K.nil<|At.next<|G.ret<|At.dr Y [4] R R (by cases H0;rfl) (by cases H0;rfl) R R R
 ·
  replace H0:=bif_f H0 h1
  exact G.skip<|At.nr<|K.mv R R<|K.as R R<|K.nil<|At.next<|G.ret<|At.dr Y [4] R R (by cases H0;rfl) (by cases H0;rfl) R R R
theorem Tree_PutS_con {k:Nat}  {p1:Pool (TNode TSlot TSize)} {rt0:TRef} {a1:TSlot} {r:Bool×TRef×Pool (TNode TSlot TSize)}  (H0:Tree_Put.f opsS k p1 rt0 a1=some r) (m0 m1:Nat):Tree_PutS_st p1 rt0 a1 r m0 m1 :=
 SCon.ren (rn [(0,m0),(1,m1)]) (Tree_PutS_con0 (k:=k)   H0) ⟨(blk_ren R R),(pl_ren R),trivial⟩ ⟨(blk_ren R R),(pl_ren R),trivial⟩ (by simp) (by simp)
abbrev Tree_lastS_st (p1:Pool (TNode TSlot TSize)) (a1:TRef) (ri0:Int) (rg0:Int) (r:TRef×TRef×Pool (TNode TSlot TSize)) (m0:Nat) (m1:Nat):Prop:=SCon Tryz.prog 148 [SV.p m0 0,.a (.agg ((eTRef a1).map .v))] [(m0,blk m0 [.p m1 0,.i ri0,.i rg0] 121),(m1,plS m1 p1)] (.tup [.agg ((eTRef r.1).map .v),.agg ((eTRef r.2.1).map .v)]) [(m0,blk m0 [.p m1 0,.i ri0,.i rg0] 121),(m1,plS m1 r.2.2)] []
theorem Tree_lastS_con0 {k:Nat}  : ∀ {n:Nat} {p1:Pool (TNode TSlot TSize)} {a1:TRef} {ri0 rg0:Int} {r:TRef×TRef×Pool (TNode TSlot TSize)}  (H0:Tree_last.r opsS k n p1 a1=some r),Tree_lastS_st p1 a1 ri0 rg0 r 0 1:=by
 intro n
 induction n with
 | zero => intro p1 a1 ri0 rg0 r H0; exact absurd H0 (by simp [Tree_last.r])
 | succ n ih =>
  intro p1 a1 ri0 rg0 r H0
  rw [Tree_last.r] at H0
  refine spec_of [(0,_),(1,_)] [(0,_),(1,_)] 33 Tryz.func148 R Tryz.ntmps148 R R R R (fun β W F=>?_)
  refine G.seq<|G.rg<|K.box Y 100 _ g0 R R R R R R<|K.alloc Y 101 _ g0 t119 R R R R R<|K.alloc Y 102 _ g0 t119 R R R R R<|K.nil<|At.ns ?_
  obtain ⟨x1,hx1,H0⟩:=bnd H0
  refine G.rg<|K.mv R R<|K.loadS Y _ g0 R R t119 R R R<|K.cR (cf 70 R) (Tree_getS_con hx1 0 1) g0 R R R R<|K.alloc Y 103 _ g0 t123 R R R R R<|K.store Y _ g0 R R R t123 R R R R R<|K.nil<|At.ns<|G.seq<|G.rg<|K.fieldAddr Y g0 R t123 R R<|K.fieldAddr Y g0 R t119 R R<|K.load1 Y g0 R R t3 R R<|K.bin (V:=.bool (x1.right.gen == 0)) g0 R R (fun _=>R) R<|K.nil<|At.next<|G.cond R (fun h1=>?_) (fun h1=>?_)
  ·
   replace H0:=bif_t H0 h1
   refine G.seq<|G.rd mixed<|K.fieldAddr Y g0 R t123 R R<|K.loadS Y _ g0 R R t119 R R R<|K.loadS Y _ g0 R R t119 R R R<|K.store Y _ g0 R R R t119 R R R R R<|K.store Y _ g0 R R R t119 R R R R R<|K.nil<|And.intro (by kernel_rfl)<|At.next<|G.ret<|At.over_ret<|At.done Y [(.cell 4 119,.agg [_,_]),(.cell 5 119,.agg [_,_])] R ⟨.st R R t119 R R,.st R R t119 R R,trivial⟩ (to':=[(0,_),(1,_)]) ⟨R,R,trivial⟩ ?_ ?_ R R R (.inl R)
   · cases H0;rfl
   · cases H0;rfl
  ·
   replace H0:=bif_f H0 h1
   refine G.skip<|At.ns ?_
   obtain ⟨x2,hx2,H0⟩:=bnd H0
   refine G.rg<|K.mv R R<|K.fieldAddr Y g0 R t123 R R<|K.loadS Y _ g0 R R t119 R R R<|K.c0 (cf 148 R) (ih hx2) g0 R R R R<|K.mv R R<|K.extract g0 R R R<|K.extract g0 R R R<|K.alloc Y 104 _ g0 t119 R R R R R<|K.alloc Y 105 _ g0 t119 R R R R R<|K.store Y _ g0 R R R t119 R R R R R<|K.store Y _ g0 R R R t119 R R R R R<|K.nil<|At.ns ?_
   obtain ⟨x3,hx3,H0⟩:=bnd H0
   refine G.rd mixed<|K.mv R R<|K.fieldAddr Y g0 R t123 R R<|K.loadS Y _ g0 R R t119 R R R<|K.loadS Y _ g0 R R t119 R R R<|K.loadS Y _ g0 R R t119 R R R<|K.c0 (cf 123 R) (Tree_linkS_con hx3 0 1) g0 R R R R<|K.loadS Y _ g0 R R t119 R R R<|K.store Y _ g0 R R R t119 R R R R R<|K.store Y _ g0 R R R t119 R R R R R<|K.nil<|And.intro (by kernel_rfl)<|At.next<|G.ret<|At.done Y [(.cell 4 119,.agg [_,_]),(.cell 5 119,.agg [_,_])] R ⟨.st R R t119 R R,.st R R t119 R R,trivial⟩ (to':=[(0,_),(1,_)]) ⟨R,R,trivial⟩ ?_ ?_ R R R (.inl R)
   · cases H0;rfl
   · cases H0;rfl
theorem Tree_lastS_con {k n:Nat}  {p1:Pool (TNode TSlot TSize)} {a1:TRef} {ri0 rg0:Int} {r:TRef×TRef×Pool (TNode TSlot TSize)}  (H0:Tree_last.r opsS k n p1 a1=some r) (m0 m1:Nat):Tree_lastS_st p1 a1 ri0 rg0 r m0 m1 :=
 SCon.ren (rn [(0,m0),(1,m1)]) (Tree_lastS_con0 (k:=k)   H0) ⟨(blk_ren R R),(pl_ren R),trivial⟩ ⟨(blk_ren R R),(pl_ren R),trivial⟩ (by simp) (by simp)
abbrev Tree_mergeS_st (p1:Pool (TNode TSlot TSize)) (a1:TRef) (a2:TRef) (ri0:Int) (rg0:Int) (r:TRef×Pool (TNode TSlot TSize)) (m0:Nat) (m1:Nat):Prop:=SCon Tryz.prog 125 [SV.p m0 0,.a (.agg ((eTRef a1).map .v)),.a (.agg ((eTRef a2).map .v))] [(m0,blk m0 [.p m1 0,.i ri0,.i rg0] 121),(m1,plS m1 p1)] (.a (.agg ((eTRef r.1).map .v))) [(m0,blk m0 [.p m1 0,.i ri0,.i rg0] 121),(m1,plS m1 r.2)] []
theorem Tree_mergeS_con0 {k:Nat}  {p1:Pool (TNode TSlot TSize)} {a1:TRef} {a2:TRef} {ri0 rg0:Int} {r:TRef×Pool (TNode TSlot TSize)}  (H0:Tree_merge.f opsS k p1 a1 a2=some r):Tree_mergeS_st p1 a1 a2 ri0 rg0 r 0 1:=by
 rw [Tree_merge.f] at H0
 refine spec_of [(0,_),(1,_),(2,_)] [(0,_),(1,_)] 30 Tryz.func125 R Tryz.ntmps125 R R R R (fun β W F=>?_)
 refine G.seq<|G.rg<|K.box Y 100 _ g0 R R R R R R<|K.box Y 101 _ g0 R R R R R R<|K.alloc Y 102 _ g0 t119 R R R R R<|K.nil<|At.ns<|G.block<|G.seq<|G.rg<|K.fieldAddr Y g0 R t119 R R<|K.load1 Y g0 R R t3 R R<|K.bin (V:=.bool (a1.gen == 0)) g0 R R (fun _=>R) R<|K.as R R<|K.nil<|At.next<|G.cond R (fun h1=>?_) (fun h1=>?_)
 ·
  replace H0:=bif_t H0 h1
  refine G.seq<|G.rg<|K.loadS Y _ g0 R R t119 R R R<|K.store Y _ g0 R R R t119 R R R R R<|K.nil<|At.next<|G.ret<|At.block_ret<|At.over_ret<|At.done Y [(.cell 6 119,.agg [_,_])] R ⟨.st R R t119 R R,trivial⟩ (to':=[(0,_),(1,_)]) ⟨R,R,trivial⟩ ?_ ?_ R R R (.inl R)
  · cases H0;rfl
  · cases H0;rfl
 ·
  replace H0:=bif_f H0 h1
  refine G.seq<|G.rg<|K.fieldAddr Y g0 R t119 R R<|K.load1 Y g0 R R t3 R R<|K.bin (V:=.bool (a2.gen == 0)) g0 R R (fun _=>R) R<|K.as R R<|K.nil<|At.next<|G.cond R (fun h2=>?_) (fun h2=>?_)
  ·
   replace H0:=bif_t H0 h2
   refine G.seq<|G.rg<|K.loadS Y _ g0 R R t119 R R R<|K.store Y _ g0 R R R t119 R R R R R<|K.nil<|At.next<|G.ret<|At.block_ret<|At.over_ret<|At.done Y [(.cell 6 119,.agg [_,_])] R ⟨.st R R t119 R R,trivial⟩ (to':=[(0,_),(1,_)]) ⟨R,R,trivial⟩ ?_ ?_ R R R (.inl R)
   · cases H0;rfl
   · cases H0;rfl
  ·
   replace H0:=bif_f H0 h2
   refine G.skip<|At.block_normal<|At.ns ?_
   obtain ⟨x1,hx1,H0⟩:=bnd H0
   refine G.rg<|K.mv R R<|K.loadS Y _ g0 R R t119 R R R<|K.c0 (cf 148 R) (Tree_lastS_con hx1 0 1) g0 R R R R<|K.mv R R<|K.extract g0 R R R<|K.extract g0 R R R<|K.alloc Y 103 _ g0 t119 R R R R R<|K.alloc Y 104 _ g0 t119 R R R R R<|K.store Y _ g0 R R R t119 R R R R R<|K.store Y _ g0 R R R t119 R R R R R<|K.nil<|At.ns ?_
   obtain ⟨x2,hx2,H0⟩:=bnd H0
   refine G.rg<|K.mv R R<|K.loadS Y _ g0 R R t119 R R R<|K.loadS Y _ g0 R R t119 R R R<|K.loadS Y _ g0 R R t119 R R R<|K.c0 (cf 123 R) (Tree_linkS_con hx2 0 1) g0 R R R R<|K.store Y _ g0 R R R t119 R R R R R<|K.nil<|At.next<|G.ret<|At.done Y [(.cell 6 119,.agg [_,_])] R ⟨.st R R t119 R R,trivial⟩ (to':=[(0,_),(1,_)]) ⟨R,R,trivial⟩ ?_ ?_ R R R (.inl R)
   · cases H0;rfl
   · cases H0;rfl
theorem Tree_mergeS_con {k:Nat}  {p1:Pool (TNode TSlot TSize)} {a1:TRef} {a2:TRef} {ri0 rg0:Int} {r:TRef×Pool (TNode TSlot TSize)}  (H0:Tree_merge.f opsS k p1 a1 a2=some r) (m0 m1:Nat):Tree_mergeS_st p1 a1 a2 ri0 rg0 r m0 m1 :=
 SCon.ren (rn [(0,m0),(1,m1)]) (Tree_mergeS_con0 (k:=k)   H0) ⟨(blk_ren R R),(pl_ren R),trivial⟩ ⟨(blk_ren R R),(pl_ren R),trivial⟩ (by simp) (by simp)
abbrev Tree_dropS_st (p1:Pool (TNode TSlot TSize)) (a1:TRef) (a2:TSlot) (ri0:Int) (rg0:Int) (r:TRef×TSlot×Bool×Pool (TNode TSlot TSize)) (m0:Nat) (m1:Nat):Prop:=SCon Tryz.prog 91 [SV.p m0 0,.a (.agg ((eTRef a1).map .v)),.a (.agg ((eTSlot a2).map .v))] [(m0,blk m0 [.p m1 0,.i ri0,.i rg0] 121),(m1,plS m1 p1)] (.tup [.agg ((eTRef r.1).map .v),.agg ((eTSlot r.2.1).map .v),.c (.v (.bool r.2.2.1))]) [(m0,blk m0 [.p m1 0,.i ri0,.i rg0] 121),(m1,plS m1 r.2.2.2)] []
set_option maxHeartbeats 4000000 in
theorem Tree_dropS_con0 {k:Nat}  : ∀ {n:Nat} {p1:Pool (TNode TSlot TSize)} {a1:TRef} {a2:TSlot} {ri0 rg0:Int} {r:TRef×TSlot×Bool×Pool (TNode TSlot TSize)}  (H0:Tree_drop.r opsS k n p1 a1 a2=some r),Tree_dropS_st p1 a1 a2 ri0 rg0 r 0 1:=by
 intro n
 induction n with
 | zero => intro p1 a1 a2 ri0 rg0 r H0; exact absurd H0 (by simp [Tree_drop.r])
 | succ n ih =>
  intro p1 a1 a2 ri0 rg0 r H0
  rw [Tree_drop.r] at H0
  refine spec_of [(0,_),(1,_),(2,_)] [(0,_),(1,_)] 91 Tryz.func91 R Tryz.ntmps91 R R R R (fun β W F=>?_)
  refine G.seq<|G.rg<|K.box Y 100 _ g0 R R R R R R<|K.box Y 101 _ g0 R R R R R R<|K.alloc Y 102 _ g0 t119 R R R R R<|K.alloc Y 103 _ g0 t82 R R R R R<|K.as R R<|K.nil<|At.ns<|G.seq<|G.rg<|K.fieldAddr Y g0 R t119 R R<|K.load1 Y g0 R R t3 R R<|K.bin (V:=.bool (a1.gen == 0)) g0 R R (fun _=>R) R<|K.nil<|At.next<|G.cond R (fun h1=>?_) (fun h1=>?_)
  ·
   replace H0:=bif_t H0 h1
   refine G.seq<|G.rg<|K.alloc Y 104 _ g0 t82 R R R R R<|K.nil<|At.ns<|G.rd mixed<|K.loadS Y _ g0 R R t119 R R R<|K.loadS Y _ g0 R R t82 R R R<|K.store Y _ g0 R R R t119 R R R R R<|K.store Y _ g0 R R R t82 R R R R R<|K.as R R<|K.nil<|And.intro (by kernel_rfl)<|At.next<|G.ret<|At.over_ret<|At.done Y [(.cell 6 119,.agg [_,_]),(.cell 7 82,.agg [_,_,_,_]),(.tmp 8,.c _)] R ⟨.st R R t119 R R,.st R R t82 R R,.tmp R,trivial⟩ (to':=[(0,_),(1,_)]) ⟨R,R,trivial⟩ ?_ ?_ R R R (.inl R)
   · cases H0;rfl
   · cases H0;rfl
  ·
   replace H0:=bif_f H0 h1
   refine G.skip<|At.ns ?_
   obtain ⟨x1,hx1,H0⟩:=bnd H0
   refine G.rg<|K.mv R R<|K.loadS Y _ g0 R R t119 R R R<|K.cR (cf 70 R) (Tree_getS_con hx1 0 1) g0 R R R R<|K.alloc Y 105 _ g0 t123 R R R R R<|K.store Y _ g0 R R R t123 R R R R R<|K.nil<|At.ns ?_
   obtain ⟨x2,hx2,H0⟩:=bnd H0
   refine G.rg<|K.loadS Y _ g0 R R t82 R R R<|K.mkIface Y g0 R (mkI Tryz.underlying82 R) R<|K.fieldAddr Y g0 R t123 R R<|K.loadS Y _ g0 R R t82 R R R<|K.callR [((.tmp 27),_),((.tmp 29),_)] (shelf_Slot_Compare_con (k:=k) hx2) (toFn_invoke (cf 201 R) (me82_201) R) g0 ⟨R,R,trivial⟩ trivial R R R<|K.as R R<|K.nil<|At.ns<|G.block<|G.seq<|G.rg<|K.mv R R<|K.bin (V:=.bool (decide (x2<0))) g0 R R (fun _=>R) R<|K.as R R<|K.nil<|At.next<|G.cond R (fun h2=>?_) (fun h2=>?_)
   ·
    replace H0:=bif_t H0 h2
    refine G.seq ?_
    obtain ⟨x3,hx3,H0⟩:=bnd H0
    refine G.rg<|K.mv R R<|K.fieldAddr Y g0 R t123 R R<|K.loadS Y _ g0 R R t119 R R R<|K.loadS Y _ g0 R R t82 R R R<|K.c0 (cf 91 R) (ih hx3) g0 R R R R<|K.mv R R<|K.extract g0 R R R<|K.extract g0 R R R<|K.extract g0 R R R<|K.alloc Y 106 _ g0 t119 R R R R R<|K.alloc Y 107 _ g0 t82 R R R R R<|K.store Y _ g0 R R R t119 R R R R R<|K.store Y _ g0 R R R t82 R R R R R<|K.as R R<|K.nil<|At.ns<|G.seq<|G.rg<|K.mv R R<|K.un (V:=.bool (!x3.2.2.1)) g0 R (fun _=>R) R<|K.nil<|At.next<|G.cond R (fun h3=>?_) (fun h3=>?_)
    ·
     replace H0:=bif_t H0 h3
     refine G.seq<|G.rd mixed<|K.loadS Y _ g0 R R t119 R R R<|K.loadS Y _ g0 R R t82 R R R<|K.store Y _ g0 R R R t119 R R R R R<|K.store Y _ g0 R R R t82 R R R R R<|K.as R R<|K.nil<|And.intro (by kernel_rfl)<|At.next<|G.ret<|At.over_ret<|At.block_ret<|At.over_ret<|At.done Y [(.cell 6 119,.agg [_,_]),(.cell 7 82,.agg [_,_,_,_]),(.tmp 8,.c _)] R ⟨.st R R t119 R R,.st R R t82 R R,.tmp R,trivial⟩ (to':=[(0,_),(1,_)]) ⟨R,R,trivial⟩ ?_ ?_ R R R (.inl R)
     · cases H0;rfl
     · cases H0;rfl
    ·
     replace H0:=bif_f H0 h3
     refine G.skip<|At.ns ?_
     obtain ⟨x4,hx4,H0⟩:=bnd H0
     refine G.rd mixed<|K.mv R R<|K.loadS Y _ g0 R R t119 R R R<|K.loadS Y _ g0 R R t119 R R R<|K.fieldAddr Y g0 R t123 R R<|K.loadS Y _ g0 R R t119 R R R<|K.c0 (cf 123 R) (Tree_linkS_con hx4 0 1) g0 R R R R<|K.loadS Y _ g0 R R t82 R R R<|K.store Y _ g0 R R R t119 R R R R R<|K.store Y _ g0 R R R t82 R R R R R<|K.as R R<|K.nil<|And.intro (by kernel_rfl)<|At.next<|G.ret<|At.block_ret<|At.over_ret<|At.done Y [(.cell 6 119,.agg [_,_]),(.cell 7 82,.agg [_,_,_,_]),(.tmp 8,.c _)] R ⟨.st R R t119 R R,.st R R t82 R R,.tmp R,trivial⟩ (to':=[(0,_),(1,_)]) ⟨R,R,trivial⟩ ?_ ?_ R R R (.inl R)
     · cases H0;rfl
     · cases H0;rfl
   ·
    replace H0:=bif_f H0 h2
    refine G.seq<|G.rg<|K.mv R R<|K.bin (V:=.bool (decide (x2>0))) g0 R R (fun _=>R) R<|K.as R R<|K.nil<|At.next<|G.cond R (fun h4=>?_) (fun h4=>?_)
    ·
     replace H0:=bif_t H0 h4
     refine G.seq ?_
     obtain ⟨x5,hx5,H0⟩:=bnd H0
     refine G.rg<|K.mv R R<|K.fieldAddr Y g0 R t123 R R<|K.loadS Y _ g0 R R t119 R R R<|K.loadS Y _ g0 R R t82 R R R<|K.c0 (cf 91 R) (ih hx5) g0 R R R R<|K.mv R R<|K.extract g0 R R R<|K.extract g0 R R R<|K.extract g0 R R R<|K.alloc Y 108 _ g0 t119 R R R R R<|K.alloc Y 109 _ g0 t82 R R R R R<|K.store Y _ g0 R R R t119 R R R R R<|K.store Y _ g0 R R R t82 R R R R R<|K.as R R<|K.nil<|At.ns<|G.seq<|G.rg<|K.mv R R<|K.un (V:=.bool (!x5.2.2.1)) g0 R (fun _=>R) R<|K.nil<|At.next<|G.cond R (fun h5=>?_) (fun h5=>?_)
     ·
      replace H0:=bif_t H0 h5
      refine G.seq<|G.rd mixed<|K.loadS Y _ g0 R R t119 R R R<|K.loadS Y _ g0 R R t82 R R R<|K.store Y _ g0 R R R t119 R R R R R<|K.store Y _ g0 R R R t82 R R R R R<|K.as R R<|K.nil<|And.intro (by kernel_rfl)<|At.next<|G.ret<|At.over_ret<|At.block_ret<|At.over_ret<|At.done Y [(.cell 6 119,.agg [_,_]),(.cell 7 82,.agg [_,_,_,_]),(.tmp 8,.c _)] R ⟨.st R R t119 R R,.st R R t82 R R,.tmp R,trivial⟩ (to':=[(0,_),(1,_)]) ⟨R,R,trivial⟩ ?_ ?_ R R R (.inl R)
      · cases H0;rfl
      · cases H0;rfl
     ·
      replace H0:=bif_f H0 h5
      refine G.skip<|At.ns ?_
      obtain ⟨x6,hx6,H0⟩:=bnd H0
      refine G.rd mixed<|K.mv R R<|K.fieldAddr Y g0 R t123 R R<|K.loadS Y _ g0 R R t119 R R R<|K.loadS Y _ g0 R R t119 R R R<|K.loadS Y _ g0 R R t119 R R R<|K.c0 (cf 123 R) (Tree_linkS_con hx6 0 1) g0 R R R R<|K.loadS Y _ g0 R R t82 R R R<|K.store Y _ g0 R R R t119 R R R R R<|K.store Y _ g0 R R R t82 R R R R R<|K.as R R<|K.nil<|And.intro (by kernel_rfl)<|At.next<|G.ret<|At.block_ret<|At.over_ret<|At.done Y [(.cell 6 119,.agg [_,_]),(.cell 7 82,.agg [_,_,_,_]),(.tmp 8,.c _)] R ⟨.st R R t119 R R,.st R R t82 R R,.tmp R,trivial⟩ (to':=[(0,_),(1,_)]) ⟨R,R,trivial⟩ ?_ ?_ R R R (.inl R)
      · cases H0;rfl
      · cases H0;rfl
    ·
     replace H0:=bif_f H0 h4
     refine G.skip<|At.block_normal<|At.ns ?_
     obtain ⟨x7,hx7,H0⟩:=bnd H0
     refine G.rd mixed<|K.mv R R<|K.nilCheck g0 R R<|K.fieldAddr Y g0 R t121 R R<|K.load1 Y g0 R R t117 R R<|K.loadS Y _ g0 R R t119 R R R<|K.call0 [(.func 124,_),((.tmp 80),_),((.tmp 81),_)] (pldropS hx7 1) (toFn_func (cf 124 R) R) g0 ⟨R,R,R,trivial⟩ ⟨R,trivial⟩ R R R R R R<|K.nil<|And.intro (by kernel_rfl)<|At.ns ?_
     obtain ⟨x8,hx8,H0⟩:=bnd H0
     refine G.rd mixed<|K.mv R R<|K.fieldAddr Y g0 R t123 R R<|K.loadS Y _ g0 R R t119 R R R<|K.fieldAddr Y g0 R t123 R R<|K.loadS Y _ g0 R R t119 R R R<|K.c0 (cf 125 R) (Tree_mergeS_con hx8 0 1) g0 R R R R<|K.fieldAddr Y g0 R t123 R R<|K.loadS Y _ g0 R R t82 R R R<|K.store Y _ g0 R R R t119 R R R R R<|K.store Y _ g0 R R R t82 R R R R R<|K.as R R<|K.nil<|And.intro (by kernel_rfl)<|At.next<|G.ret<|At.done Y [(.cell 6 119,.agg [_,_]),(.cell 7 82,.agg [_,_,_,_]),(.tmp 8,.c _)] R ⟨.st R R t119 R R,.st R R t82 R R,.tmp R,trivial⟩ (to':=[(0,_),(1,_)]) ⟨R,R,trivial⟩ ?_ ?_ R R R (.inl R)
     · cases H0;rfl
     · cases H0;rfl
theorem Tree_dropS_con {k n:Nat}  {p1:Pool (TNode TSlot TSize)} {a1:TRef} {a2:TSlot} {ri0 rg0:Int} {r:TRef×TSlot×Bool×Pool (TNode TSlot TSize)}  (H0:Tree_drop.r opsS k n p1 a1 a2=some r) (m0 m1:Nat):Tree_dropS_st p1 a1 a2 ri0 rg0 r m0 m1 :=
 SCon.ren (rn [(0,m0),(1,m1)]) (Tree_dropS_con0 (k:=k)   H0) ⟨(blk_ren R R),(pl_ren R),trivial⟩ ⟨(blk_ren R R),(pl_ren R),trivial⟩ (by simp) (by simp)
abbrev Tree_DropS_st (p1:Pool (TNode TSlot TSize)) (rt0:TRef) (a1:TSlot) (r:TSlot×Bool×TRef×Pool (TNode TSlot TSize)) (m0:Nat) (m1:Nat):Prop:=SCon Tryz.prog 63 [SV.p m0 0,.a (.agg ((eTSlot a1).map .v))] [(m0,blk m0 [.p m1 0,.i rt0.index,.i rt0.gen] 121),(m1,plS m1 p1)] (.tup [.agg ((eTSlot r.1).map .v),.c (.v (.bool r.2.1))]) [(m0,blk m0 [.p m1 0,.i r.2.2.1.index,.i r.2.2.1.gen] 121),(m1,plS m1 r.2.2.2)] []
theorem Tree_DropS_con0 {k:Nat}  {p1:Pool (TNode TSlot TSize)} {rt0:TRef} {a1:TSlot} {r:TSlot×Bool×TRef×Pool (TNode TSlot TSize)}  (H0:Tree_Drop.f opsS k p1 rt0 a1=some r):Tree_DropS_st p1 rt0 a1 r 0 1:=by
 rw [Tree_Drop.f] at H0
 refine spec_of [(0,_),(1,_)] [(0,_),(1,_)] 26 Tryz.func63 R Tryz.ntmps63 R R R R (fun β W F=>?_)
 refine G.seq<|G.rg<|K.box Y 100 _ g0 R R R R R R<|K.alloc Y 101 _ g0 t82 R R R R R<|K.as R R<|K.nil<|At.ns ?_
 obtain ⟨x1,hx1,H0⟩:=bnd H0
 refine G.rd mixed<|K.mv R R<|K.mv R R<|K.nilCheck g0 R R<|K.fieldAddr Y g0 R t121 R R<|K.loadS Y _ g0 R R t119 R R R<|K.loadS Y _ g0 R R t82 R R R<|K.c0 (cf 91 R) (Tree_dropS_con hx1 0 1) g0 R R R R<|K.mv R R<|K.extract g0 R R R<|K.extract g0 R R R<|K.extract g0 R R R<|K.alloc Y 102 _ g0 t119 R R R R R<|K.alloc Y 103 _ g0 t82 R R R R R<|K.store Y _ g0 R R R t119 R R R R R<|K.store Y _ g0 R R R t82 R R R R R<|K.as R R<|K.nil<|And.intro (by kernel_rfl)<|At.nr<|K.mv R R<|K.loadS Y _ g0 R R t119 R R R<|K.nilCheck g0 R R<|K.fieldAddr Y g0 R t121 R R<|K.store Y _ g0 R R R t119 R R R R R<|K.nil<|At.nr<|K.loadS Y _ g0 R R t82 R R R<|K.mv R R<|K.store Y _ g0 R R R t82 R R R R R<|K.as R R<|K.nil<|At.next<|G.ret<|At.done Y [(.cell 4 82,.agg [_,_,_,_]),(.tmp 5,.c _)] R ⟨.st R R t82 R R,.tmp R,trivial⟩ (to':=[(0,_),(1,_)]) ⟨R,R,trivial⟩ ?_ ?_ R R R (.inl R)
 · cases H0;rfl
 · cases H0;rfl
theorem Tree_DropS_con {k:Nat}  {p1:Pool (TNode TSlot TSize)} {rt0:TRef} {a1:TSlot} {r:TSlot×Bool×TRef×Pool (TNode TSlot TSize)}  (H0:Tree_Drop.f opsS k p1 rt0 a1=some r) (m0 m1:Nat):Tree_DropS_st p1 rt0 a1 r m0 m1 :=
 SCon.ren (rn [(0,m0),(1,m1)]) (Tree_DropS_con0 (k:=k)   H0) ⟨(blk_ren R R),(pl_ren R),trivial⟩ ⟨(blk_ren R R),(pl_ren R),trivial⟩ (by simp) (by simp)
end Go.Proofs.YtgjbibabegabnaaGreat
