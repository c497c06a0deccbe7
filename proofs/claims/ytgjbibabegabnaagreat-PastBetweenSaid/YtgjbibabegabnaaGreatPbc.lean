/- My texts that the proof of PastBetween rests on, part 3: a calculus of walks, the walks, and the plain law. -/
import Derived.KernelRfl
import Derived.RangeFuncRecord
import Derived.RangeFuncSeq
import Derived.TacticsIn
import Derived.Shelf.SlSortCmp.WholeK
import Derived.Test.YtgjbibabegabnaaGreatProg
import Derived.Test.YtgjbibabegabnaaGreatPbb
set_option linter.unusedVariables false
set_option linter.unusedSimpArgs false
namespace Go.Proofs.YtgjbibabegabnaaGreat
open Go Go.Proofs.YtgjbibabegabnaaGreat.Sx
abbrev plM (k:Nat) (p:Pool (TNode TMark TSwell)):Tok:=pl k 201 195 3 31 fCM p
theorem plgetM {p:Pool (TNode TMark TSwell)} {i g:Int} {x:(TNode TMark TSwell)×Bool} (h:pGet zNodeM p i g=some x) (k:Nat):SCon Tryz.prog 113 [SV.p k 0,SV.agg [.i i,.i g]] [(k,plM k p)] (.tup [avM x.1,.c (.b x.2)]) [(k,plM k p)] []:=by
 obtain ⟨hp,hx⟩:=grd h
 cases hx
 refine SCon.hide fun v=>?_
 obtain ⟨h1,v',h2⟩:=get_vis (p:=p) (z:=zNodeM) v i g
 refine ⟨v',?_⟩
 have:=getM' { p with vis:=v } i g (hp.ok v) (by decide) k
 rw [h1,h2] at this
 exact this
theorem plsetM {p:Pool (TNode TMark TSwell)} {i g:Int} {y:(TNode TMark TSwell)} {x:Bool×Pool (TNode TMark TSwell)} (h:pSet p i g y=some x) (k:Nat):SCon Tryz.prog 164 [SV.p k 0,SV.agg [.i i,.i g],.a (avM y)] [(k,plM k p)] (SV.b x.1) [(k,plM k x.2)] []:=by
 obtain ⟨hp,hx⟩:=grd h
 cases hx
 refine SCon.hide fun v=>?_
 obtain ⟨h1,v',h2⟩:=set_vis (p:=p) v i g y
 refine ⟨v',?_⟩
 have:=setM' { p with vis:=v } i g y (hp.ok v) (by decide) k
 rw [h1,h2] at this
 exact this
theorem plputM {p:Pool (TNode TMark TSwell)} {y:(TNode TMark TSwell)} {x:((Int×Int)×Bool)×Pool (TNode TMark TSwell)} (h:pPut zNodeM p y=some x) (k:Nat):SCon Tryz.prog 163 [SV.p k 0,.a (avM y)] [(k,plM k p)] (.tup [.agg [.i x.1.1.1,.i x.1.1.2],.c (.b x.1.2)]) [(k,plM k x.2)] []:=by
 obtain ⟨hp,hx⟩:=grd h
 cases hx
 refine SCon.hide fun v=>?_
 obtain ⟨h1,v',h2⟩:=put_vis (p:=p) (z:=zNodeM) v y
 refine ⟨v',?_⟩
 have:=putM { p with vis:=v } y (hp.ok v) (by decide) k
 rw [h1,h2] at this
 exact this
theorem pldropM {p:Pool (TNode TMark TSwell)} {i g:Int} {x:((TNode TMark TSwell)×Bool)×Pool (TNode TMark TSwell)} (h:pDrop zNodeM p i g=some x) (k:Nat):SCon Tryz.prog 119 [SV.p k 0,SV.agg [.i i,.i g]] [(k,plM k p)] (.tup [avM x.1.1,.c (.b x.1.2)]) [(k,plM k x.2)] []:=by
 obtain ⟨hp,hx⟩:=grd h
 cases hx
 refine SCon.hide fun v=>?_
 obtain ⟨h1,v',h2⟩:=drop_vis (p:=p) (z:=zNodeM) v i g
 refine ⟨v',?_⟩
 have:=dropM' { p with vis:=v } i g (hp.ok v) (by decide) k
 rw [h1,h2] at this
 exact this
theorem plnewM (c:Int) (k:Nat):SCon Tryz.prog 159 [SV.i c] [] (SV.p k 0) [(k,plM k ⟨[],[],capOf c,0,0⟩)] [k]:=SCon.hideNew (newM c k)
abbrev Tree_NewM_st (m40 m41:Nat):Prop:=∀ {k:Nat} {a0:Int} {r:TRef×Pool (TNode TMark TSwell)} (H0:Tree_New.f opsM k a0=some r),SCon Tryz.prog 134 [.a (.c (.v (.int .i64 a0)))] [] (.a (.c (.p m40 0))) [(m40,blk m40 [.p m41 0,.i r.1.index,.i r.1.gen] 144),(m41,plM m41 r.2)] [m40,m41]
theorem Tree_NewM_con0:Tree_NewM_st 40 41:=by
 intro k a0 r H0
 rw [Tree_New.f] at H0
 exact M.s Tryz.func134 Tryz.ntmps134 R fun β W F=>xg 8 [] R<|K.call0 [(.func 159,_),((.tmp 3),_)] (plnewM a0 100) (toFn_func (cf 159 R) R) g0 ⟨R,R,trivial⟩ trivial R R R R R R<|xk 6 [101] R<|by cases H0;exact ZR [(40,101),(41,100)]
theorem Tree_NewM_con (m40 m41:Nat) (hd:ndB [m40,m41]=true):Tree_NewM_st m40 m41:=fun H0=>cnB [(40,m40),(41,m41)] hd (Tree_NewM_con0 H0)
abbrev Tree_getM_st (m0 m1:Nat):Prop:=∀ {k:Nat} {p1:Pool (TNode TMark TSwell)} {a1:TRef} {ri0 rg0:Int} {r:TNode TMark TSwell} (H0:Tree_get.f opsM k p1 a1=some r),SCon Tryz.prog 83 [SV.p m0 0,.a (.agg ((eTRef a1).map .v))] [(m0,blk m0 [.p m1 0,.i ri0,.i rg0] 144),(m1,plM m1 p1)] (.a (.agg ((eTNode_TMark_TSwell r).map .v))) [(m0,blk m0 [.p m1 0,.i ri0,.i rg0] 144),(m1,plM m1 p1)] []
theorem Tree_getM_con0:Tree_getM_st 0 1:=by
 intro k p1 a1 ri0 rg0 r H0
 rw [Tree_get.f] at H0
 exact M.s Tryz.func83 Tryz.ntmps83 R fun β W F=>xg 14 [100,101] R<|M.c R H0 (fun h1 H0=>xg 8 [] R<|by cases H0;exact ZR []) (fun h1 H0=>xg 3 [] R<|M.b H0 fun x1 hx1 H0=>xg 6 [] R<|K.callR [(.func 113,_),((.tmp 15),_),((.tmp 16),_)] (plgetM hx1 1) (toFn_func (cf 113 R) R) g0 ⟨R,R,R,trivial⟩ ⟨R,trivial⟩ R R R<|xd 6 [102] R<|M.n<|xa 8 [] R<|by cases H0;exact ZR [])
theorem Tree_getM_con (m0 m1:Nat):Tree_getM_st m0 m1:=fun H0=>cnA [(0,m0),(1,m1)] (Tree_getM_con0 H0)
abbrev Tree_LenM_st (m0 m1:Nat):Prop:=∀ {k:Nat} {p1:Pool (TNode TMark TSwell)} {rt0:TRef} {r:Int} (H0:Tree_Len.f opsM k p1 rt0=some r),SCon Tryz.prog 56 [SV.p m0 0] [(m0,blk m0 [.p m1 0,.i rt0.index,.i rt0.gen] 144),(m1,plM m1 p1)] (.a (.c (.v (.int .i64 r)))) [(m0,blk m0 [.p m1 0,.i rt0.index,.i rt0.gen] 144),(m1,plM m1 p1)] []
theorem Tree_LenM_con0:Tree_LenM_st 0 1:=by
 intro k p1 rt0 r H0
 rw [Tree_Len.f] at H0
 exact M.s Tryz.func56 Tryz.ntmps56 R fun β W F=>xg 6 [] R<|M.b H0 fun x1 hx1 H0=>xg 6 [] R<|kR (Tree_getM_con 0 1 hx1) R<|xk 5 [] R<|by cases H0;exact ZR []
theorem Tree_LenM_con (m0 m1:Nat):Tree_LenM_st m0 m1:=fun H0=>cnA [(0,m0),(1,m1)] (Tree_LenM_con0 H0)
abbrev Tree_FindM_st (m0 m1:Nat):Prop:=∀ {k:Nat} {p1:Pool (TNode TMark TSwell)} {rt0:TRef} {a1:TMark} {r:TMark×Bool} (H0:Tree_Find.f opsM k p1 rt0 a1=some r),SCon Tryz.prog 57 [SV.p m0 0,.a (.agg ((eTMark a1).map .v))] [(m0,blk m0 [.p m1 0,.i rt0.index,.i rt0.gen] 144),(m1,plM m1 p1)] (.tup [.agg ((eTMark r.1).map .v),.c (.v (.bool r.2))]) [(m0,blk m0 [.p m1 0,.i rt0.index,.i rt0.gen] 144),(m1,plM m1 p1)] []
theorem Tree_FindM_con0:Tree_FindM_st 0 1:=by
 intro k p1 rt0 a1 r H0
 rw [Tree_Find.f] at H0
 exact M.s Tryz.func57 Tryz.ntmps57 R fun β W F=>xg 7 [100,101] R<|M.b H0 fun x1 H1 H0=>M.j (σ:={ v:Unit // x1=Sum.inr v }) (fun q=>[(4,.a (.c (.p 102 0)))]) (fun q=>[(102,blk 102 [.v (.int .i64 0),.v (.bool false),.v (.int .i64 0),.v (.int .i64 0),.v (.bool false),.v (.bool false),.v (.int .i64 0),.v (.int .i64 0)] 101),(1,plM 1 p1),(0,blk 0 [.p 1 0,.v (.int .i64 rt0.index),.v (.int .i64 rt0.gen)] 144)]) (xg 11 [103] R<|M.l (Tree_Find.l0 opsM k p1 a1) H1 (fun v1=>[(0,.a (.c (.p 0 0))),(3,.a (.c (.p 110 0))),(4,.a (.c (.p 111 0))),(6,.a (.c (.p 112 0)))]) (fun v1=>[(1,plM 1 p1),(0,blk 0 [.p 1 0,.v (.int .i64 rt0.index),.v (.int .i64 rt0.gen)] 144),(110,blk 110 [.v (.int .i64 a1.op.time),.v (.bool a1.op.insert),.v (.int .i64 a1.op.item.key),.v (.int .i64 a1.op.item.id),.v (.bool a1.here),.v (.bool a1.took.found),.v (.int .i64 a1.took.item.key),.v (.int .i64 a1.took.item.id)] 101),(111,blk 111 [.v (.int .i64 0),.v (.bool false),.v (.int .i64 0),.v (.int .i64 0),.v (.bool false),.v (.bool false),.v (.int .i64 0),.v (.int .i64 0)] 101),(112,blk 112 [.v (.int .i64 v1.index),.v (.int .i64 v1.gen)] 119)]) [(110,100),(111,101),(112,103)] fun n0 v1 H1=>xg 8 [] R<|M.c R H1 (fun h1 H1=>xg 5 [] R<|M.b H1 fun x2 hx2 H1=>xg 3 [] R<|kR (Tree_getM_con 0 1 hx2) R<|xk 5 [113] R<|M.b H1 fun x3 hx3 H1=>xg 2 [] R<|K.mkIface Y g0 R (mkI Tryz.underlying101 R) R<|xk 2 [] R<|K.callR [((.tmp 21),_),((.tmp 23),_)] (wave_Mark_Compare_con (k:=k) hx3) (toFn_invoke (cf 206 R) (me101_206) R) g0 ⟨R,R,trivial⟩ trivial R R R<|xk 10 [] R<|M.c R H1 (fun h2 H1=>xg 15 [] R<|by cases H1;exact have H0:=sum_l H0;by cases H0;exact ZR []) (fun h2 H1=>xg 15 [] R<|M.c R H1 (fun h3 H1=>xg 16 [114] R<|M.ag H1 [(112,114)]) (fun h3 H1=>xg 12 [115] R<|M.ag H1 [(112,115)]))) (fun h1 H1=>xg 4 [] R<|M.jd ⟨(),oi H1⟩ [(102,111)]))<|by rintro ⟨w1,rfl⟩;exact have H0:=sum_r H0;xg 13 [116] R<|by cases H0;exact ZR []
theorem Tree_FindM_con (m0 m1:Nat):Tree_FindM_st m0 m1:=fun H0=>cnA [(0,m0),(1,m1)] (Tree_FindM_con0 H0)
abbrev Tree_weightM_st (m0 m1:Nat):Prop:=∀ {k:Nat} {p1:Pool (TNode TMark TSwell)} {a1:TRef} {ri0 rg0:Int} {r:Int} (H0:Tree_weight.f opsM k p1 a1=some r),SCon Tryz.prog 84 [SV.p m0 0,.a (.agg ((eTRef a1).map .v))] [(m0,blk m0 [.p m1 0,.i ri0,.i rg0] 144),(m1,plM m1 p1)] (.a (.c (.v (.int .i64 r)))) [(m0,blk m0 [.p m1 0,.i ri0,.i rg0] 144),(m1,plM m1 p1)] []
theorem Tree_weightM_con0:Tree_weightM_st 0 1:=by
 intro k p1 a1 ri0 rg0 r H0
 rw [Tree_weight.f] at H0
 exact M.s Tryz.func84 Tryz.ntmps84 R fun β W F=>xg 7 [100] R<|M.b H0 fun x1 hx1 H0=>xg 3 [] R<|kR (Tree_getM_con 0 1 hx1) R<|xk 6 [] R<|by cases H0;exact ZR []
theorem Tree_weightM_con (m0 m1:Nat):Tree_weightM_st m0 m1:=fun H0=>cnA [(0,m0),(1,m1)] (Tree_weightM_con0 H0)
abbrev Tree_RankM_st (m0 m1:Nat):Prop:=∀ {k:Nat} {p1:Pool (TNode TMark TSwell)} {rt0:TRef} {a1:TMark} {r:Int} (H0:Tree_Rank.f opsM k p1 rt0 a1=some r),SCon Tryz.prog 59 [SV.p m0 0,.a (.agg ((eTMark a1).map .v))] [(m0,blk m0 [.p m1 0,.i rt0.index,.i rt0.gen] 144),(m1,plM m1 p1)] (.a (.c (.v (.int .i64 r)))) [(m0,blk m0 [.p m1 0,.i rt0.index,.i rt0.gen] 144),(m1,plM m1 p1)] []
theorem Tree_RankM_con0:Tree_RankM_st 0 1:=by
 intro k p1 rt0 a1 r H0
 rw [Tree_Rank.f] at H0
 exact M.s Tryz.func59 Tryz.ntmps59 R fun β W F=>xg 11 [100] R<|M.b H0 fun x1 H1 H0=>M.x ([(5,.a (.c (.v (.int .i64 x1))))]) ([(1,plM 1 p1),(0,blk 0 [.p 1 0,.v (.int .i64 rt0.index),.v (.int .i64 rt0.gen)] 144)]) (xg 11 [101] R<|M.l (Tree_Rank.l0 opsM k p1 a1) H1 (fun (v1,v2)=>[(0,.a (.c (.p 0 0))),(3,.a (.c (.p 106 0))),(5,.a (.c (.v (.int .i64 v1)))),(6,.a (.c (.p 107 0)))]) (fun (v1,v2)=>[(1,plM 1 p1),(0,blk 0 [.p 1 0,.v (.int .i64 rt0.index),.v (.int .i64 rt0.gen)] 144),(106,blk 106 [.v (.int .i64 a1.op.time),.v (.bool a1.op.insert),.v (.int .i64 a1.op.item.key),.v (.int .i64 a1.op.item.id),.v (.bool a1.here),.v (.bool a1.took.found),.v (.int .i64 a1.took.item.key),.v (.int .i64 a1.took.item.id)] 101),(107,blk 107 [.v (.int .i64 v2.index),.v (.int .i64 v2.gen)] 119)]) [(106,100),(107,101)] fun n0 (v1,v2) H1=>xg 8 [] R<|M.c R H1 (fun h1 H1=>xg 5 [] R<|M.b H1 fun x2 hx2 H1=>xg 3 [] R<|kR (Tree_getM_con 0 1 hx2) R<|xk 6 [108] R<|M.b H1 fun x3 hx3 H1=>xg 2 [] R<|K.mkIface Y g0 R (mkI Tryz.underlying101 R) R<|xk 2 [] R<|K.callR [((.tmp 19),_),((.tmp 21),_)] (wave_Mark_Compare_con (k:=k) hx3) (toFn_invoke (cf 206 R) (me101_206) R) g0 ⟨R,R,trivial⟩ trivial R R R<|xk 3 [] R<|M.c R H1 (fun h2 H1=>xg 20 [109] R<|M.ag H1 [(107,109)]) (fun h2 H1=>xg 3 [] R<|M.b H1 fun x4 hx4 H1=>xg 5 [] R<|kR (Tree_weightM_con 0 1 hx4) R<|xk 20 [110] R<|M.ag H1 [(107,110)])) (fun h1 H1=>xg 4 [] R<|by cases H1;exact M.xd []))<|xg 7 [] R<|by cases H0;exact ZR []
theorem Tree_RankM_con (m0 m1:Nat):Tree_RankM_st m0 m1:=fun H0=>cnA [(0,m0),(1,m1)] (Tree_RankM_con0 H0)
abbrev Tree_lastOfM_f14_st (g4:FuncId) (cv4:List Value) (Tc4:TypeId) (p1:Pool (TNode TMark TSwell)) (a1:TRef) (a2:Int) (a3:TSwell) (ri0:Int) (rg0:Int) (r:Int) (m0:Nat) (m1:Nat) (m2:Nat):Prop:=SCon Tryz.prog 139 [SV.p m0 0,.a (.agg ((eTRef a1).map .v)),.a (.c (.v (.int .i64 a2))),.a (.agg ((eTSwell a3).map .v)),.a (.c (.fn (.func g4) [m2]))] [(m0,blk m0 [.p m1 0,.i ri0,.i rg0] 144),(m1,plM m1 p1),(m2,vblk m2 cv4 Tc4)] (.a (.c (.v (.int .i64 r)))) [(m0,blk m0 [.p m1 0,.i ri0,.i rg0] 144),(m1,plM m1 p1),(m2,vblk m2 cv4 Tc4)] []
set_option maxHeartbeats 4000000 in
theorem Tree_lastOfM_f14_con0 {k:Nat} {g4:FuncId} {fn4:TSwell→TSwell→Option Bool} {cv4:List Value} {Tc4:TypeId} (cg4:fnB Tryz.prog g4=true) (hm4 : ∀ (c:Nat) {z0:TSwell} {z1:TSwell} {y:Bool},fn4 z0 z1=some y→SCon Tryz.prog g4 [.a (.agg ((eTSwell z0).map .v)),.a (.agg ((eTSwell z1).map .v)),SV.p c 0] [(c,vblk c cv4 Tc4)] (SV.b y) [(c,vblk c cv4 Tc4)] []) : ∀ {n:Nat} {p1:Pool (TNode TMark TSwell)} {a1:TRef} {a2:Int} {a3:TSwell} {ri0 rg0:Int} {r:Int}  (H0:Tree_lastOf.r opsM k n p1 a1 a2 a3 fn4=some r),Tree_lastOfM_f14_st g4 cv4 Tc4 p1 a1 a2 a3 ri0 rg0 r 0 1 2:=by
 intro n
 induction n with
 | zero => intro p1 a1 a2 a3 ri0 rg0 r H0; exact absurd H0 (by simp [Tree_lastOf.r])
 | succ n ih =>
  intro p1 a1 a2 a3 ri0 rg0 r H0
  rw [Tree_lastOf.r] at H0
  exact M.s Tryz.func139 Tryz.ntmps139 R fun β W F=>xg 8 [100,101] R<|M.b H0 fun x1 hx1 H0=>xg 3 [] R<|kR (Tree_getM_con 0 1 hx1) R<|xk 4 [102] R<|M.b H0 fun x2 H1 H0=>M.j (σ:={ v:Unit // x2=Sum.inr v }) (fun q=>[(0,.a (.c (.p 0 0))),(2,.a (.c (.v (.int .i64 a2)))),(4,.a (.c (.fn (.func g4) [2]))),(8,.a (.c (.p 103 0))),(11,.a (.c (.p 104 0)))]) (fun q=>[(1,plM 1 p1),(0,blk 0 [.p 1 0,.v (.int .i64 ri0),.v (.int .i64 rg0)] 144),(2,vblk 2 cv4 Tc4),(103,blk 103 [.v (.int .i64 a3.count.n),.v (.int .i64 a3.count.sum),.v (.int .i64 a3.count.low),.v (.int .i64 a3.weight.n),.v (.int .i64 a3.weight.sum),.v (.int .i64 a3.weight.low),.v (.int .i64 a3.deletes),.v (.int .i64 a3.free),.v (.int .i64 a3.most.key),.v (.int .i64 a3.most.id),.v (.bool a3.gone.found),.v (.int .i64 a3.gone.item.key),.v (.int .i64 a3.gone.item.id),.v (.bool a3.least.found),.v (.int .i64 a3.least.item.key),.v (.int .i64 a3.least.item.id)] 105),(104,blk 104 [.v (.int .i64 x1.e.op.time),.v (.bool x1.e.op.insert),.v (.int .i64 x1.e.op.item.key),.v (.int .i64 x1.e.op.item.id),.v (.bool x1.e.here),.v (.bool x1.e.took.found),.v (.int .i64 x1.e.took.item.key),.v (.int .i64 x1.e.took.item.id),.v (.int .i64 x1.left.index),.v (.int .i64 x1.left.gen),.v (.int .i64 x1.right.index),.v (.int .i64 x1.right.gen),.v (.int .i64 x1.size),.v (.int .i64 x1.sum.count.n),.v (.int .i64 x1.sum.count.sum),.v (.int .i64 x1.sum.count.low),.v (.int .i64 x1.sum.weight.n),.v (.int .i64 x1.sum.weight.sum),.v (.int .i64 x1.sum.weight.low),.v (.int .i64 x1.sum.deletes),.v (.int .i64 x1.sum.free),.v (.int .i64 x1.sum.most.key),.v (.int .i64 x1.sum.most.id),.v (.bool x1.sum.gone.found),.v (.int .i64 x1.sum.gone.item.key),.v (.int .i64 x1.sum.gone.item.id),.v (.bool x1.sum.least.found),.v (.int .i64 x1.sum.least.item.key),.v (.int .i64 x1.sum.least.item.id)] 140)]) (xg 1 [] R<|M.i (t:=(x1.size == 0)) (fun h1=>have H1:=bif_t H1 h1;xg 5 [] R<|kk h1 R<|kk h1 R<|K.pickT g0 R (h1) R R<|xk 1 [] R<|kk R R<|kk R R<|kk R R<|kk R R<|kk R R<|K.skipU R R R R R<|K.skipU R R R R R<|K.skipU R R R R R<|K.skipU R R R R R<|K.skipU R R R R R<|K.skipU R R R R R<|kk R R<|K.pickT g0 R (R) R R<|xk 2 [] R<|G.cond R (fun h2=>xg 7 [] R<|by cases H1;exact have H0:=sum_l H0;by cases H0;exact ZR []) (fun h2=>by cases h2)) (fun h1=>have H1:=bif_f H1 h1;M.i (t:=(decide (a2≤0))) (fun h3=>have H1:=bif_t H1 h3;xg 5 [] R<|K.move (.inl R) (g1 R R h1) R R<|K.bin (V:=.bool (decide (a2≤0))) (g1 R R h1) R R (fun _=>R) R<|K.pickF g0 R (h1) R R<|xk 1 [] R<|kk h3 R<|kk h3 R<|kk h3 R<|kk h3 R<|kk h3 R<|K.skipU R R R R R<|K.skipU R R R R R<|K.skipU R R R R R<|K.skipU R R R R R<|K.skipU R R R R R<|K.skipU R R R R R<|kk h3 R<|K.pickT g0 R (h3) R R<|xk 2 [] R<|G.cond R (fun h4=>xg 7 [] R<|by cases H1;exact have H0:=sum_l H0;by cases H0;exact ZR []) (fun h4=>by cases h4)) (fun h3=>have H1:=bif_f H1 h3;M.i (t:=(decide (a2≥x1.size))) (fun h5=>have H1:=bif_t H1 h5;M.b H1 fun x3 hx3 H1=>xg 5 [] R<|K.move (.inl R) (g1 R R h1) R R<|K.bin (V:=.bool (decide (a2≤0))) (g1 R R h1) R R (fun _=>R) R<|K.pickF g0 R (h1) R R<|xk 1 [] R<|K.move (.inl R) (g1 R R h3) R R<|K.fieldAddr Y (g1 R R h3) R t140 R R<|K.load1 Y (g1 R R h3) R R t3 R R<|K.bin (V:=.bool (decide (a2≥x1.size))) (g1 R R h3) R R (fun _=>R) R<|K.move (.inl R) (g1 R R h3) R R<|K.move (.inl R) (g1 R R h5) R R<|K.loadS Y _ (g1 R R h5) R R t105 R R R<|K.fieldAddr Y (g1 R R h5) R t140 R R<|K.loadS Y _ (g1 R R h5) R R t105 R R R<|K.callR [((.tmp 32),_),((.tmp 33),_),((.tmp 35),_)] (hm4 2 hx3) (toFn_val cg4 R) (g1 R R h5) ⟨R,R,R,trivial⟩ ⟨R,trivial⟩ R R R<|K.un (V:=.bool (!x3)) (g1 R R h5) R (fun _=>R) R<|K.pickT (g1 R R h3) R (h5) R R<|K.pickF g0 R (h3) R R<|xk 2 [] R<|M.c R H1 (fun h6 H1=>xg 7 [] R<|by cases H1;exact have H0:=sum_l H0;by cases H0;exact ZR []) (fun h6 H1=>xg 1 [] R<|M.jd ⟨(),oi H1⟩ [(103,101),(104,102)])) (fun h5=>have H1:=bif_f H1 h5;xg 5 [] R<|K.move (.inl R) (g1 R R h1) R R<|K.bin (V:=.bool (decide (a2≤0))) (g1 R R h1) R R (fun _=>R) R<|K.pickF g0 R (h1) R R<|xk 1 [] R<|K.move (.inl R) (g1 R R h3) R R<|K.fieldAddr Y (g1 R R h3) R t140 R R<|K.load1 Y (g1 R R h3) R R t3 R R<|K.bin (V:=.bool (decide (a2≥x1.size))) (g1 R R h3) R R (fun _=>R) R<|K.move (.inl R) (g1 R R h3) R R<|kk h5 R<|kk h5 R<|kk h5 R<|kk h5 R<|kk h5 R<|kk h5 R<|K.pickF (g1 R R h3) R (h5) R R<|K.pickF g0 R (h3) R R<|xk 2 [] R<|G.cond R (fun h7=>by cases h7) (fun h7=>xg 1 [] R<|M.jd ⟨(),oi H1⟩ [(103,101),(104,102)])))))<|by rintro ⟨w2,rfl⟩;exact have H0:=sum_r H0;xg 1 [] R<|M.b H0 fun x4 hx4 H0=>xg 4 [] R<|kR (Tree_getM_con 0 1 hx4) R<|xk 5 [105] R<|M.b H0 fun x5 hx5 H0=>M.b H0 fun x6 hx6 H0=>xg 2 [] R<|K.mkIface Y g0 R (mkI Tryz.underlying105 R) R<|xd 2 [] R<|K.callR [((.tmp 45),_),((.tmp 47),_)] (wave_Swell_Plus_con (k:=k) hx5) (toFn_invoke (cf 211 R) (me105_211) R) g0 ⟨R,R,trivial⟩ trivial R R R<|xd 2 [] R<|K.mkIface Y g0 R (mkI Tryz.underlying101 R) R<|K.callR [((.tmp 51),_)] (wave_Mark_Sum_con (k:=k) hx6) (toFn_invoke (cf 207 R) (me101_207) R) g0 ⟨R,trivial⟩ trivial R R R<|xd 4 [106,107] R<|M.n<|xa 3 [] R<|M.b H0 fun x7 hx7 H0=>M.b H0 fun x8 hx8 H0=>xg 10 [] R<|K.mkIface Y g0 R (mkI Tryz.underlying105 R) R<|xd 1 [] R<|K.callR [((.tmp 62),_),((.tmp 63),_)] (wave_Swell_Plus_con (k:=k) hx7) (toFn_invoke (cf 211 R) (me105_211) R) g0 ⟨R,R,trivial⟩ trivial R R R<|xd 1 [] R<|kR (ih hx8) R<|xd 1 [] R<|M.n<|xa 7 [] R<|M.c R H0 (fun h8 H0=>xg 12 [] R<|by cases H0;exact ZR []) (fun h8 H0=>xg 4 [] R<|M.i (t:=(decide (a2>x4.size))) (fun h9=>have H0:=bif_t H0 h9;M.b H0 fun x9 hx9 H0=>xg 6 [] R<|K.move (.inl R) (g1 R R h9) R R<|K.loadS Y _ (g1 R R h9) R R t105 R R R<|K.loadS Y _ (g1 R R h9) R R t105 R R R<|K.callR [((.tmp 79),_),((.tmp 80),_),((.tmp 81),_)] (hm4 2 hx9) (toFn_val cg4 R) (g1 R R h9) ⟨R,R,R,trivial⟩ ⟨R,trivial⟩ R R R<|K.pickT g0 R (h9) R R<|xk 2 [] R<|M.c R H0 (fun h10 H0=>xg 9 [] R<|by cases H0;exact ZR []) (fun h10 H0=>xg 3 [] R<|M.b H0 fun x10 hx10 H0=>xg 7 [] R<|kR (ih hx10) R<|xk 4 [] R<|by cases H0;exact ZR [])) (fun h9=>have H0:=bif_f H0 h9;xg 6 [] R<|kk h9 R<|kk h9 R<|kk h9 R<|kk h9 R<|K.pickF g0 R (h9) R R<|xk 2 [] R<|G.cond R (fun h11=>by cases h11) (fun h11=>xg 3 [] R<|M.b H0 fun x11 hx11 H0=>xg 7 [] R<|kR (ih hx11) R<|xk 4 [] R<|by cases H0;exact ZR [])))
theorem Tree_lastOfM_f14_con {k n:Nat} {g4:FuncId} {fn4:TSwell→TSwell→Option Bool} {cv4:List Value} {Tc4:TypeId} (cg4:fnB Tryz.prog g4=true) (hm4 : ∀ (c:Nat) {z0:TSwell} {z1:TSwell} {y:Bool},fn4 z0 z1=some y→SCon Tryz.prog g4 [.a (.agg ((eTSwell z0).map .v)),.a (.agg ((eTSwell z1).map .v)),SV.p c 0] [(c,vblk c cv4 Tc4)] (SV.b y) [(c,vblk c cv4 Tc4)] []) {p1:Pool (TNode TMark TSwell)} {a1:TRef} {a2:Int} {a3:TSwell} {ri0 rg0:Int} {r:Int}  (H0:Tree_lastOf.r opsM k n p1 a1 a2 a3 fn4=some r) (m0 m1 m2:Nat):Tree_lastOfM_f14_st g4 cv4 Tc4 p1 a1 a2 a3 ri0 rg0 r m0 m1 m2 :=
 SCon.ren (rn [(0,m0),(1,m1),(2,m2)]) (Tree_lastOfM_f14_con0 (k:=k) cg4 hm4  H0) ⟨(blk_ren R R),(pl_ren R),(vblk_ren R),trivial⟩ ⟨(blk_ren R R),(pl_ren R),(vblk_ren R),trivial⟩ (by simp) (by simp)
abbrev Tree_LastM_f12_st (m0 m1 m2:Nat):Prop:=∀ {k:Nat} {g2:FuncId} {fn2:TSwell→TSwell→Option Bool} {cv2:List Value} {Tc2:TypeId} {p1:Pool (TNode TMark TSwell)} {rt0:TRef} {a1:Int} {r:Int} (cg2:fnB Tryz.prog g2=true) (hm2 : ∀ (c:Nat) {z0:TSwell} {z1:TSwell} {y:Bool},fn2 z0 z1=some y→SCon Tryz.prog g2 [.a (.agg ((eTSwell z0).map .v)),.a (.agg ((eTSwell z1).map .v)),SV.p c 0] [(c,vblk c cv2 Tc2)] (SV.b y) [(c,vblk c cv2 Tc2)] []) (H0:Tree_Last.f opsM k p1 rt0 a1 fn2=some r),SCon Tryz.prog 114 [SV.p m0 0,.a (.c (.v (.int .i64 a1))),.a (.c (.fn (.func g2) [m2]))] [(m0,blk m0 [.p m1 0,.i rt0.index,.i rt0.gen] 144),(m1,plM m1 p1),(m2,vblk m2 cv2 Tc2)] (.a (.c (.v (.int .i64 r)))) [(m0,blk m0 [.p m1 0,.i rt0.index,.i rt0.gen] 144),(m1,plM m1 p1),(m2,vblk m2 cv2 Tc2)] []
theorem Tree_LastM_f12_con0:Tree_LastM_f12_st 0 1 2:=by
 intro k g2 fn2 cv2 Tc2 p1 rt0 a1 r cg2 hm2 H0
 rw [Tree_Last.f] at H0
 exact M.s Tryz.func114 Tryz.ntmps114 R fun β W F=>xg 11 [100] R<|M.b H0 fun x1 hx1 H0=>M.b H0 fun x2 hx2 H0=>xg 7 [] R<|K.bi2 (V:=.int .i64 (gmax a1 0)) g0 R R (fun _ _=>R) R<|xd 1 [] R<|kR (Tree_LenM_con 0 1 hx1) R<|K.bi2 (V:=.int .i64 (gmin (gmax a1 0) x1)) g0 R R (fun _ _=>R) R<|xd 2 [] R<|kR (Tree_lastOfM_f14_con cg2 hm2 hx2 0 1 2) R<|xd 1 [] R<|M.n<|xa 2 [] R<|by cases H0;exact ZR []
theorem Tree_LastM_f12_con (m0 m1 m2:Nat):Tree_LastM_f12_st m0 m1 m2:=fun cg2 hm2 H0=>cnA [(0,m0),(1,m1),(2,m2)] (Tree_LastM_f12_con0 cg2 hm2 H0)
abbrev Tree_layM_st (m0 m1:Nat):Prop:=∀ {k:Nat} {p1:Pool (TNode TMark TSwell)} {a1:TRef} {a2:TRef} {a3:TRef} {ri0 rg0:Int} {r:TRef×Pool (TNode TMark TSwell)} (H0:Tree_lay.f opsM k p1 a1 a2 a3=some r),SCon Tryz.prog 143 [SV.p m0 0,.a (.agg ((eTRef a1).map .v)),.a (.agg ((eTRef a2).map .v)),.a (.agg ((eTRef a3).map .v))] [(m0,blk m0 [.p m1 0,.i ri0,.i rg0] 144),(m1,plM m1 p1)] (.a (.agg ((eTRef r.1).map .v))) [(m0,blk m0 [.p m1 0,.i ri0,.i rg0] 144),(m1,plM m1 r.2)] []
theorem Tree_layM_con0:Tree_layM_st 0 1:=by
 intro k p1 a1 a2 a3 ri0 rg0 r H0
 rw [Tree_lay.f] at H0
 exact M.s Tryz.func143 Tryz.ntmps143 R fun β W F=>xg 9 [100,101,102,103] R<|M.b H0 fun x1 hx1 H0=>xg 3 [] R<|kR (Tree_getM_con 0 1 hx1) R<|xk 5 [104] R<|M.b H0 fun x2 hx2 H0=>M.b H0 fun x3 hx3 H0=>xg 3 [] R<|kR (Tree_getM_con 0 1 hx2) R<|xd 2 [] R<|kR (Tree_getM_con 0 1 hx3) R<|xd 4 [105,106] R<|M.n<|xa 9 [] R<|M.n<|xa 14 [] R<|M.b H0 fun x4 hx4 H0=>M.b H0 fun x5 hx5 H0=>M.b H0 fun x6 hx6 H0=>xg 3 [] R<|K.mkIface Y g0 R (mkI Tryz.underlying105 R) R<|xd 2 [] R<|K.mkIface Y g0 R (mkI Tryz.underlying101 R) R<|K.callR [((.tmp 37),_)] (wave_Mark_Sum_con (k:=k) hx4) (toFn_invoke (cf 207 R) (me101_207) R) g0 ⟨R,trivial⟩ trivial R R R<|K.callR [((.tmp 34),_),((.tmp 38),_)] (wave_Swell_Plus_con (k:=k) hx5) (toFn_invoke (cf 211 R) (me105_211) R) g0 ⟨R,R,trivial⟩ trivial R R R<|K.mkIface Y g0 R (mkI Tryz.underlying105 R) R<|xd 2 [] R<|K.callR [((.tmp 40),_),((.tmp 42),_)] (wave_Swell_Plus_con (k:=k) hx6) (toFn_invoke (cf 211 R) (me105_211) R) g0 ⟨R,R,trivial⟩ trivial R R R<|xd 2 [] R<|M.n<|xa 2 [] R<|M.b H0 fun x7 hx7 H0=>xg 7 [] R<|K.call0 [(.func 164,_),((.tmp 48),_),((.tmp 49),_),((.tmp 50),_)] (plsetM hx7 1) (toFn_func (cf 164 R) R) g0 ⟨R,R,R,R,trivial⟩ ⟨R,trivial⟩ R R R R R R<|M.n<|xa 8 [] R<|by cases H0;exact ZR []
theorem Tree_layM_con (m0 m1:Nat):Tree_layM_st m0 m1:=fun H0=>cnA [(0,m0),(1,m1)] (Tree_layM_con0 H0)
abbrev Tree_turnRightM_st (m0 m1:Nat):Prop:=∀ {k:Nat} {p1:Pool (TNode TMark TSwell)} {a1:TRef} {ri0 rg0:Int} {r:TRef×Pool (TNode TMark TSwell)} (H0:Tree_turnRight.f opsM k p1 a1=some r),SCon Tryz.prog 165 [SV.p m0 0,.a (.agg ((eTRef a1).map .v))] [(m0,blk m0 [.p m1 0,.i ri0,.i rg0] 144),(m1,plM m1 p1)] (.a (.agg ((eTRef r.1).map .v))) [(m0,blk m0 [.p m1 0,.i ri0,.i rg0] 144),(m1,plM m1 r.2)] []
theorem Tree_turnRightM_con0:Tree_turnRightM_st 0 1:=by
 intro k p1 a1 ri0 rg0 r H0
 rw [Tree_turnRight.f] at H0
 exact M.s Tryz.func165 Tryz.ntmps165 R fun β W F=>xg 7 [100,101] R<|M.b H0 fun x1 hx1 H0=>xg 3 [] R<|kR (Tree_getM_con 0 1 hx1) R<|xk 5 [102] R<|M.b H0 fun x2 hx2 H0=>xg 4 [] R<|kR (Tree_getM_con 0 1 hx2) R<|xk 5 [103] R<|M.b H0 fun x3 hx3 H0=>xg 7 [] R<|k0 (Tree_layM_con 0 1 hx3) R<|xk 3 [] R<|M.b H0 fun x4 hx4 H0=>xg 7 [] R<|k0 (Tree_layM_con 0 1 hx4) R<|xk 4 [] R<|by cases H0;exact ZR []
theorem Tree_turnRightM_con (m0 m1:Nat):Tree_turnRightM_st m0 m1:=fun H0=>cnA [(0,m0),(1,m1)] (Tree_turnRightM_con0 H0)
abbrev Tree_turnLeftM_st (m0 m1:Nat):Prop:=∀ {k:Nat} {p1:Pool (TNode TMark TSwell)} {a1:TRef} {ri0 rg0:Int} {r:TRef×Pool (TNode TMark TSwell)} (H0:Tree_turnLeft.f opsM k p1 a1=some r),SCon Tryz.prog 166 [SV.p m0 0,.a (.agg ((eTRef a1).map .v))] [(m0,blk m0 [.p m1 0,.i ri0,.i rg0] 144),(m1,plM m1 p1)] (.a (.agg ((eTRef r.1).map .v))) [(m0,blk m0 [.p m1 0,.i ri0,.i rg0] 144),(m1,plM m1 r.2)] []
theorem Tree_turnLeftM_con0:Tree_turnLeftM_st 0 1:=by
 intro k p1 a1 ri0 rg0 r H0
 rw [Tree_turnLeft.f] at H0
 exact M.s Tryz.func166 Tryz.ntmps166 R fun β W F=>xg 7 [100,101] R<|M.b H0 fun x1 hx1 H0=>xg 3 [] R<|kR (Tree_getM_con 0 1 hx1) R<|xk 5 [102] R<|M.b H0 fun x2 hx2 H0=>xg 4 [] R<|kR (Tree_getM_con 0 1 hx2) R<|xk 5 [103] R<|M.b H0 fun x3 hx3 H0=>xg 7 [] R<|k0 (Tree_layM_con 0 1 hx3) R<|xk 3 [] R<|M.b H0 fun x4 hx4 H0=>xg 7 [] R<|k0 (Tree_layM_con 0 1 hx4) R<|xk 4 [] R<|by cases H0;exact ZR []
theorem Tree_turnLeftM_con (m0 m1:Nat):Tree_turnLeftM_st m0 m1:=fun H0=>cnA [(0,m0),(1,m1)] (Tree_turnLeftM_con0 H0)
abbrev Tree_balanceM_st (m0 m1:Nat):Prop:=∀ {k:Nat} {p1:Pool (TNode TMark TSwell)} {a1:TRef} {ri0 rg0:Int} {r:TRef×Pool (TNode TMark TSwell)} (H0:Tree_balance.f opsM k p1 a1=some r),SCon Tryz.prog 142 [SV.p m0 0,.a (.agg ((eTRef a1).map .v))] [(m0,blk m0 [.p m1 0,.i ri0,.i rg0] 144),(m1,plM m1 p1)] (.a (.agg ((eTRef r.1).map .v))) [(m0,blk m0 [.p m1 0,.i ri0,.i rg0] 144),(m1,plM m1 r.2)] []
theorem Tree_balanceM_con0:Tree_balanceM_st 0 1:=by
 intro k p1 a1 ri0 rg0 r H0
 rw [Tree_balance.f] at H0
 exact M.s Tryz.func142 Tryz.ntmps142 R fun β W F=>xg 7 [100,101] R<|M.b H0 fun x1 hx1 H0=>xg 3 [] R<|kR (Tree_getM_con 0 1 hx1) R<|xk 5 [102] R<|M.b H0 fun x2 hx2 H0=>M.b H0 fun x3 hx3 H0=>xg 4 [] R<|kR (Tree_weightM_con 0 1 hx2) R<|xd 3 [] R<|kR (Tree_weightM_con 0 1 hx3) R<|xd 2 [] R<|M.n<|xa 12 [] R<|M.c R H0 (fun h1 H0=>xg 1 [] R<|M.b H0 fun x4 hx4 H0=>xg 4 [] R<|kR (Tree_getM_con 0 1 hx4) R<|xk 6 [103] R<|M.b H0 fun x5 hx5 H0=>M.b H0 fun x6 hx6 H0=>xg 4 [] R<|kR (Tree_weightM_con 0 1 hx5) R<|xd 3 [] R<|kR (Tree_weightM_con 0 1 hx6) R<|xd 2 [] R<|M.n<|xa 1 [] R<|M.c R H0 (fun h2 H0=>M.b H0 fun x7 hx7 H0=>M.b H0 fun x8 hx8 H0=>xg 8 [] R<|k0 (Tree_turnRightM_con 0 1 hx7) R<|k0 (Tree_layM_con 0 1 hx8) R<|M.n<|xa 2 [] R<|M.b H0 fun x9 hx9 H0=>xg 3 [] R<|k0 (Tree_turnLeftM_con 0 1 hx9) R<|xk 6 [] R<|by cases H0;exact ZR []) (fun h2 H0=>xg 3 [] R<|M.b H0 fun x10 hx10 H0=>xg 3 [] R<|k0 (Tree_turnLeftM_con 0 1 hx10) R<|xk 6 [] R<|by cases H0;exact ZR [])) (fun h1 H0=>xg 9 [] R<|M.c R H0 (fun h3 H0=>xg 1 [] R<|M.b H0 fun x11 hx11 H0=>xg 4 [] R<|kR (Tree_getM_con 0 1 hx11) R<|xk 6 [104] R<|M.b H0 fun x12 hx12 H0=>M.b H0 fun x13 hx13 H0=>xg 4 [] R<|kR (Tree_weightM_con 0 1 hx12) R<|xd 3 [] R<|kR (Tree_weightM_con 0 1 hx13) R<|xd 2 [] R<|M.n<|xa 1 [] R<|M.c R H0 (fun h4 H0=>M.b H0 fun x14 hx14 H0=>M.b H0 fun x15 hx15 H0=>xg 6 [] R<|k0 (Tree_turnLeftM_con 0 1 hx14) R<|xd 2 [] R<|k0 (Tree_layM_con 0 1 hx15) R<|M.n<|xa 2 [] R<|M.b H0 fun x16 hx16 H0=>xg 3 [] R<|k0 (Tree_turnRightM_con 0 1 hx16) R<|xk 6 [] R<|by cases H0;exact ZR []) (fun h4 H0=>xg 3 [] R<|M.b H0 fun x17 hx17 H0=>xg 3 [] R<|k0 (Tree_turnRightM_con 0 1 hx17) R<|xk 6 [] R<|by cases H0;exact ZR [])) (fun h3 H0=>xg 10 [] R<|by cases H0;exact ZR []))
theorem Tree_balanceM_con (m0 m1:Nat):Tree_balanceM_st m0 m1:=fun H0=>cnA [(0,m0),(1,m1)] (Tree_balanceM_con0 H0)
abbrev Tree_linkM_st (k n m0 m1:Nat):Prop:=∀ {p1:Pool (TNode TMark TSwell)} {a1:TRef} {a2:TRef} {a3:TRef} {ri0 rg0:Int} {r:TRef×Pool (TNode TMark TSwell)} (H0:Tree_link.r opsM k n p1 a1 a2 a3=some r),SCon Tryz.prog 118 [SV.p m0 0,.a (.agg ((eTRef a1).map .v)),.a (.agg ((eTRef a2).map .v)),.a (.agg ((eTRef a3).map .v))] [(m0,blk m0 [.p m1 0,.i ri0,.i rg0] 144),(m1,plM m1 p1)] (.a (.agg ((eTRef r.1).map .v))) [(m0,blk m0 [.p m1 0,.i ri0,.i rg0] 144),(m1,plM m1 r.2)] []
theorem Tree_linkM_con0 {k:Nat} : ∀ {n:Nat},Tree_linkM_st k n 0 1:=by
 intro n
 induction n with
 | zero => intro p1 a1 a2 a3 ri0 rg0 r H0; exact absurd H0 (by simp [Tree_link.r])
 | succ n ih =>
  intro p1 a1 a2 a3 ri0 rg0 r H0
  rw [Tree_link.r] at H0
  exact M.s Tryz.func118 Tryz.ntmps118 R fun β W F=>xg 9 [100,101,102,103] R<|M.b H0 fun x1 hx1 H0=>M.b H0 fun x2 hx2 H0=>xg 3 [] R<|kR (Tree_weightM_con 0 1 hx1) R<|xd 2 [] R<|kR (Tree_weightM_con 0 1 hx2) R<|xd 2 [] R<|M.n<|xa 12 [] R<|M.c R H0 (fun h1 H0=>xg 1 [] R<|M.b H0 fun x3 hx3 H0=>xg 3 [] R<|kR (Tree_getM_con 0 1 hx3) R<|xk 5 [104] R<|M.b H0 fun x4 hx4 H0=>M.b H0 fun x5 hx5 H0=>M.b H0 fun x6 hx6 H0=>xg 9 [] R<|k0 (ih hx4) R<|xd 2 [] R<|k0 (Tree_layM_con 0 1 hx5) R<|k0 (Tree_balanceM_con 0 1 hx6) R<|xd 1 [] R<|M.n<|xa 4 [] R<|by cases H0;exact ZR []) (fun h1 H0=>xg 9 [] R<|M.c R H0 (fun h2 H0=>xg 1 [] R<|M.b H0 fun x7 hx7 H0=>xg 3 [] R<|kR (Tree_getM_con 0 1 hx7) R<|xk 5 [105] R<|M.b H0 fun x8 hx8 H0=>M.b H0 fun x9 hx9 H0=>M.b H0 fun x10 hx10 H0=>xg 11 [] R<|k0 (ih hx8) R<|k0 (Tree_layM_con 0 1 hx9) R<|k0 (Tree_balanceM_con 0 1 hx10) R<|xd 1 [] R<|M.n<|xa 4 [] R<|by cases H0;exact ZR []) (fun h2 H0=>xg 4 [] R<|M.b H0 fun x11 hx11 H0=>xg 5 [] R<|k0 (Tree_layM_con 0 1 hx11) R<|xk 4 [] R<|by cases H0;exact ZR []))
theorem Tree_linkM_con {k n:Nat} (m0 m1:Nat):Tree_linkM_st k n m0 m1:=fun H0=>cnA [(0,m0),(1,m1)] (Tree_linkM_con0 H0)
abbrev Tree_putM_st (k n m0 m1:Nat):Prop:=∀ {p1:Pool (TNode TMark TSwell)} {a1:TRef} {a2:TMark} {ri0 rg0:Int} {r:TRef×Bool×Pool (TNode TMark TSwell)} (H0:Tree_put.r opsM k n p1 a1 a2=some r),SCon Tryz.prog 137 [SV.p m0 0,.a (.agg ((eTRef a1).map .v)),.a (.agg ((eTMark a2).map .v))] [(m0,blk m0 [.p m1 0,.i ri0,.i rg0] 144),(m1,plM m1 p1)] (.tup [.agg ((eTRef r.1).map .v),.c (.v (.bool r.2.1))]) [(m0,blk m0 [.p m1 0,.i ri0,.i rg0] 144),(m1,plM m1 r.2.2)] []
set_option maxHeartbeats 4000000 in
theorem Tree_putM_con0 {k:Nat} : ∀ {n:Nat},Tree_putM_st k n 0 1:=by
 intro n
 induction n with
 | zero => intro p1 a1 a2 ri0 rg0 r H0; exact absurd H0 (by simp [Tree_put.r])
 | succ n ih =>
  intro p1 a1 a2 ri0 rg0 r H0
  rw [Tree_put.r] at H0
  exact M.s Tryz.func137 Tryz.ntmps137 R fun β W F=>xg 16 [100,101,102] R<|M.c R H0 (fun h1 H0=>xg 1 [] R<|M.b H0 fun x1 hx1 H0=>M.b H0 fun x2 hx2 H0=>xg 7 [] R<|K.mkIface Y g0 R (mkI Tryz.underlying101 R) R<|K.callR [((.tmp 26),_)] (wave_Mark_Sum_con (k:=k) hx1) (toFn_invoke (cf 207 R) (me101_207) R) g0 ⟨R,trivial⟩ trivial R R R<|xd 1 [] R<|K.call0 [(.func 163,_),((.tmp 23),_),((.tmp 28),_)] (plputM hx2 1) (toFn_func (cf 163 R) R) g0 ⟨R,R,R,trivial⟩ ⟨R,trivial⟩ R R R R R R<|xd 6 [103] R<|M.n<|xa 11 [] R<|by cases H0;exact ZR []) (fun h1 H0=>xg 3 [] R<|M.b H0 fun x3 hx3 H0=>xg 3 [] R<|kR (Tree_getM_con 0 1 hx3) R<|xk 5 [104] R<|M.b H0 fun x4 hx4 H0=>xg 2 [] R<|K.mkIface Y g0 R (mkI Tryz.underlying101 R) R<|xk 2 [] R<|K.callR [((.tmp 38),_),((.tmp 40),_)] (wave_Mark_Compare_con (k:=k) hx4) (toFn_invoke (cf 206 R) (me101_206) R) g0 ⟨R,R,trivial⟩ trivial R R R<|xk 12 [] R<|M.c R H0 (fun h2 H0=>xg 1 [] R<|M.b H0 fun x5 hx5 H0=>xg 5 [] R<|k0 (ih hx5) R<|xk 15 [105] R<|M.c R H0 (fun h3 H0=>xg 11 [] R<|by cases H0;exact ZR []) (fun h3 H0=>xg 3 [] R<|M.b H0 fun x6 hx6 H0=>xg 6 [] R<|k0 (Tree_linkM_con 0 1 hx6) R<|xk 7 [] R<|by cases H0;exact ZR [])) (fun h2 H0=>xg 7 [] R<|M.c R H0 (fun h4 H0=>xg 1 [] R<|M.b H0 fun x7 hx7 H0=>xg 5 [] R<|k0 (ih hx7) R<|xk 15 [106] R<|M.c R H0 (fun h5 H0=>xg 11 [] R<|by cases H0;exact ZR []) (fun h5 H0=>xg 3 [] R<|M.b H0 fun x8 hx8 H0=>xg 6 [] R<|k0 (Tree_linkM_con 0 1 hx8) R<|xk 7 [] R<|by cases H0;exact ZR [])) (fun h4 H0=>xg 11 [] R<|M.b H0 fun x9 hx9 H0=>xg 7 [] R<|K.call0 [(.func 164,_),((.tmp 87),_),((.tmp 88),_),((.tmp 89),_)] (plsetM hx9 1) (toFn_func (cf 164 R) R) g0 ⟨R,R,R,R,trivial⟩ ⟨R,trivial⟩ R R R R R R<|M.n<|xa 2 [] R<|M.b H0 fun x10 hx10 H0=>xg 7 [] R<|k0 (Tree_layM_con 0 1 hx10) R<|xk 5 [] R<|by cases H0;exact ZR [])))
theorem Tree_putM_con {k n:Nat} (m0 m1:Nat):Tree_putM_st k n m0 m1:=fun H0=>cnA [(0,m0),(1,m1)] (Tree_putM_con0 H0)
abbrev Tree_PutM_st (m0 m1:Nat):Prop:=∀ {k:Nat} {p1:Pool (TNode TMark TSwell)} {rt0:TRef} {a1:TMark} {r:Bool×TRef×Pool (TNode TMark TSwell)} (H0:Tree_Put.f opsM k p1 rt0 a1=some r),SCon Tryz.prog 112 [SV.p m0 0,.a (.agg ((eTMark a1).map .v))] [(m0,blk m0 [.p m1 0,.i rt0.index,.i rt0.gen] 144),(m1,plM m1 p1)] (.a (.c (.v (.bool r.1)))) [(m0,blk m0 [.p m1 0,.i r.2.1.index,.i r.2.1.gen] 144),(m1,plM m1 r.2.2)] []
theorem Tree_PutM_con0:Tree_PutM_st 0 1:=by
 intro k p1 rt0 a1 r H0
 rw [Tree_Put.f] at H0
 exact M.s Tryz.func112 Tryz.ntmps112 R fun β W F=>xg 7 [100] R<|M.b H0 fun x1 hx1 H0=>xg 7 [] R<|k0 (Tree_putM_con 0 1 hx1) R<|xd 6 [101] R<|M.n<|xa 7 [] R<|M.c R H0 (fun h1 H0=>xg 15 [] R<|by cases H0;exact ZR []) (fun h1 H0=>xg 9 [] R<|by cases H0;exact ZR [])
theorem Tree_PutM_con (m0 m1:Nat):Tree_PutM_st m0 m1:=fun H0=>cnA [(0,m0),(1,m1)] (Tree_PutM_con0 H0)
abbrev Tree_betweenM_st (k n m0 m1:Nat):Prop:=∀ {p1:Pool (TNode TMark TSwell)} {a1:TRef} {a2:Int} {a3:Int} {ri0 rg0:Int} {r:TSwell} (H0:Tree_between.r opsM k n p1 a1 a2 a3=some r),SCon Tryz.prog 141 [SV.p m0 0,.a (.agg ((eTRef a1).map .v)),.a (.c (.v (.int .i64 a2))),.a (.c (.v (.int .i64 a3)))] [(m0,blk m0 [.p m1 0,.i ri0,.i rg0] 144),(m1,plM m1 p1)] (.a (.agg ((eTSwell r).map .v))) [(m0,blk m0 [.p m1 0,.i ri0,.i rg0] 144),(m1,plM m1 p1)] []
set_option maxHeartbeats 4000000 in
theorem Tree_betweenM_con0 {k:Nat} : ∀ {n:Nat},Tree_betweenM_st k n 0 1:=by
 intro n
 induction n with
 | zero => intro p1 a1 a2 a3 ri0 rg0 r H0; exact absurd H0 (by simp [Tree_between.r])
 | succ n ih =>
  intro p1 a1 a2 a3 ri0 rg0 r H0
  rw [Tree_between.r] at H0
  exact M.s Tryz.func141 Tryz.ntmps141 R fun β W F=>xg 7 [100,101] R<|M.b H0 fun x1 hx1 H0=>xg 3 [] R<|kR (Tree_getM_con 0 1 hx1) R<|xk 9 [102,103] R<|M.b H0 fun x2 H1 H0=>M.j (σ:={ v:Unit // x2=Sum.inr v }) (fun q=>[(0,.a (.c (.p 0 0))),(2,.a (.c (.v (.int .i64 a2)))),(3,.a (.c (.v (.int .i64 a3)))),(8,.a (.c (.p 104 0))),(9,.a (.c (.p 105 0))),(10,.a (.c (.p 106 0)))]) (fun q=>[(1,plM 1 p1),(0,blk 0 [.p 1 0,.v (.int .i64 ri0),.v (.int .i64 rg0)] 144),(104,blk 104 [.v (.int .i64 0),.v (.int .i64 0),.v (.int .i64 0),.v (.int .i64 0),.v (.int .i64 0),.v (.int .i64 0),.v (.int .i64 0),.v (.int .i64 0),.v (.int .i64 0),.v (.int .i64 0),.v (.bool false),.v (.int .i64 0),.v (.int .i64 0),.v (.bool false),.v (.int .i64 0),.v (.int .i64 0)] 105),(105,blk 105 [.v (.int .i64 x1.e.op.time),.v (.bool x1.e.op.insert),.v (.int .i64 x1.e.op.item.key),.v (.int .i64 x1.e.op.item.id),.v (.bool x1.e.here),.v (.bool x1.e.took.found),.v (.int .i64 x1.e.took.item.key),.v (.int .i64 x1.e.took.item.id),.v (.int .i64 x1.left.index),.v (.int .i64 x1.left.gen),.v (.int .i64 x1.right.index),.v (.int .i64 x1.right.gen),.v (.int .i64 x1.size),.v (.int .i64 x1.sum.count.n),.v (.int .i64 x1.sum.count.sum),.v (.int .i64 x1.sum.count.low),.v (.int .i64 x1.sum.weight.n),.v (.int .i64 x1.sum.weight.sum),.v (.int .i64 x1.sum.weight.low),.v (.int .i64 x1.sum.deletes),.v (.int .i64 x1.sum.free),.v (.int .i64 x1.sum.most.key),.v (.int .i64 x1.sum.most.id),.v (.bool x1.sum.gone.found),.v (.int .i64 x1.sum.gone.item.key),.v (.int .i64 x1.sum.gone.item.id),.v (.bool x1.sum.least.found),.v (.int .i64 x1.sum.least.item.key),.v (.int .i64 x1.sum.least.item.id)] 140),(106,blk 106 [.v (.int .i64 0),.v (.int .i64 0),.v (.int .i64 0),.v (.int .i64 0),.v (.int .i64 0),.v (.int .i64 0),.v (.int .i64 0),.v (.int .i64 0),.v (.int .i64 0),.v (.int .i64 0),.v (.bool false),.v (.int .i64 0),.v (.int .i64 0),.v (.bool false),.v (.int .i64 0),.v (.int .i64 0)] 105)]) (xg 1 [] R<|M.i (t:=(decide (a2≥a3))) (fun h1=>have H1:=bif_t H1 h1;xg 5 [] R<|kk h1 R<|kk h1 R<|kk h1 R<|kk h1 R<|K.pickT g0 R (h1) R R<|xk 1 [] R<|kk R R<|kk R R<|K.pickT g0 R (R) R R<|xk 1 [] R<|kk R R<|kk R R<|kk R R<|K.pickT g0 R (R) R R<|xk 2 [] R<|G.cond R (fun h2=>xg 8 [] R<|by cases H1;exact have H0:=sum_l H0;by cases H0;exact ZR []) (fun h2=>by cases h2)) (fun h1=>have H1:=bif_f H1 h1;M.i (t:=(decide (a2≥x1.size))) (fun h3=>have H1:=bif_t H1 h3;xg 5 [] R<|K.move (.inl R) (g1 R R h1) R R<|K.fieldAddr Y (g1 R R h1) R t140 R R<|K.load1 Y (g1 R R h1) R R t3 R R<|K.bin (V:=.bool (decide (a2≥x1.size))) (g1 R R h1) R R (fun _=>R) R<|K.pickF g0 R (h1) R R<|xk 1 [] R<|kk h3 R<|kk h3 R<|K.pickT g0 R (h3) R R<|xk 1 [] R<|kk R R<|kk R R<|kk R R<|K.pickT g0 R (R) R R<|xk 2 [] R<|G.cond R (fun h4=>xg 8 [] R<|by cases H1;exact have H0:=sum_l H0;by cases H0;exact ZR []) (fun h4=>by cases h4)) (fun h3=>have H1:=bif_f H1 h3;M.i (t:=(decide (a3≤0))) (fun h5=>have H1:=bif_t H1 h5;xg 5 [] R<|K.move (.inl R) (g1 R R h1) R R<|K.fieldAddr Y (g1 R R h1) R t140 R R<|K.load1 Y (g1 R R h1) R R t3 R R<|K.bin (V:=.bool (decide (a2≥x1.size))) (g1 R R h1) R R (fun _=>R) R<|K.pickF g0 R (h1) R R<|xk 1 [] R<|K.move (.inl R) (g1 R R h3) R R<|K.bin (V:=.bool (decide (a3≤0))) (g1 R R h3) R R (fun _=>R) R<|K.pickF g0 R (h3) R R<|xk 1 [] R<|kk h5 R<|kk h5 R<|kk h5 R<|K.pickT g0 R (h5) R R<|xk 2 [] R<|G.cond R (fun h6=>xg 8 [] R<|by cases H1;exact have H0:=sum_l H0;by cases H0;exact ZR []) (fun h6=>by cases h6)) (fun h5=>have H1:=bif_f H1 h5;xg 5 [] R<|K.move (.inl R) (g1 R R h1) R R<|K.fieldAddr Y (g1 R R h1) R t140 R R<|K.load1 Y (g1 R R h1) R R t3 R R<|K.bin (V:=.bool (decide (a2≥x1.size))) (g1 R R h1) R R (fun _=>R) R<|K.pickF g0 R (h1) R R<|xk 1 [] R<|K.move (.inl R) (g1 R R h3) R R<|K.bin (V:=.bool (decide (a3≤0))) (g1 R R h3) R R (fun _=>R) R<|K.pickF g0 R (h3) R R<|xk 1 [] R<|K.fieldAddr Y (g1 R R h5) R t140 R R<|K.load1 Y (g1 R R h5) R R t3 R R<|K.bin (V:=.bool (x1.size == 0)) (g1 R R h5) R R (fun _=>R) R<|K.pickF g0 R (h5) R R<|xk 2 [] R<|M.c R H1 (fun h7 H1=>xg 8 [] R<|by cases H1;exact have H0:=sum_l H0;by cases H0;exact ZR []) (fun h7 H1=>xg 1 [] R<|M.jd ⟨(),oi H1⟩ [(104,101),(105,102),(106,103)])))))<|by rintro ⟨w2,rfl⟩;exact have H0:=sum_r H0;M.b H0 fun x3 H1 H0=>M.j (σ:={ v:Unit // x3=Sum.inr v }) (fun q=>[(0,.a (.c (.p 0 0))),(2,.a (.c (.v (.int .i64 a2)))),(3,.a (.c (.v (.int .i64 a3)))),(8,.a (.c (.p 107 0))),(9,.a (.c (.p 108 0))),(10,.a (.c (.p 109 0)))]) (fun q=>[(1,plM 1 p1),(0,blk 0 [.p 1 0,.v (.int .i64 ri0),.v (.int .i64 rg0)] 144),(107,blk 107 [.v (.int .i64 0),.v (.int .i64 0),.v (.int .i64 0),.v (.int .i64 0),.v (.int .i64 0),.v (.int .i64 0),.v (.int .i64 0),.v (.int .i64 0),.v (.int .i64 0),.v (.int .i64 0),.v (.bool false),.v (.int .i64 0),.v (.int .i64 0),.v (.bool false),.v (.int .i64 0),.v (.int .i64 0)] 105),(108,blk 108 [.v (.int .i64 x1.e.op.time),.v (.bool x1.e.op.insert),.v (.int .i64 x1.e.op.item.key),.v (.int .i64 x1.e.op.item.id),.v (.bool x1.e.here),.v (.bool x1.e.took.found),.v (.int .i64 x1.e.took.item.key),.v (.int .i64 x1.e.took.item.id),.v (.int .i64 x1.left.index),.v (.int .i64 x1.left.gen),.v (.int .i64 x1.right.index),.v (.int .i64 x1.right.gen),.v (.int .i64 x1.size),.v (.int .i64 x1.sum.count.n),.v (.int .i64 x1.sum.count.sum),.v (.int .i64 x1.sum.count.low),.v (.int .i64 x1.sum.weight.n),.v (.int .i64 x1.sum.weight.sum),.v (.int .i64 x1.sum.weight.low),.v (.int .i64 x1.sum.deletes),.v (.int .i64 x1.sum.free),.v (.int .i64 x1.sum.most.key),.v (.int .i64 x1.sum.most.id),.v (.bool x1.sum.gone.found),.v (.int .i64 x1.sum.gone.item.key),.v (.int .i64 x1.sum.gone.item.id),.v (.bool x1.sum.least.found),.v (.int .i64 x1.sum.least.item.key),.v (.int .i64 x1.sum.least.item.id)] 140),(109,blk 109 [.v (.int .i64 0),.v (.int .i64 0),.v (.int .i64 0),.v (.int .i64 0),.v (.int .i64 0),.v (.int .i64 0),.v (.int .i64 0),.v (.int .i64 0),.v (.int .i64 0),.v (.int .i64 0),.v (.bool false),.v (.int .i64 0),.v (.int .i64 0),.v (.bool false),.v (.int .i64 0),.v (.int .i64 0)] 105)]) (xg 1 [] R<|M.i (t:=(decide (a2≤0))) (fun h8=>have H1:=bif_t H1 h8;xg 4 [] R<|K.move (.inl R) (g1 R R h8) R R<|K.fieldAddr Y (g1 R R h8) R t140 R R<|K.load1 Y (g1 R R h8) R R t3 R R<|K.bin (V:=.bool (decide (a3≥x1.size))) (g1 R R h8) R R (fun _=>R) R<|K.pickT g0 R (h8) R R<|xk 2 [] R<|M.c R H1 (fun h9 H1=>xg 9 [] R<|by cases H1;exact have H0:=sum_l H0;by cases H0;exact ZR []) (fun h9 H1=>xg 1 [] R<|M.jd ⟨(),oi H1⟩ [(107,104),(108,105),(109,106)])) (fun h8=>have H1:=bif_f H1 h8;xg 4 [] R<|kk h8 R<|kk h8 R<|kk h8 R<|kk h8 R<|K.pickF g0 R (h8) R R<|xk 2 [] R<|G.cond R (fun h10=>by cases h10) (fun h10=>xg 1 [] R<|M.jd ⟨(),oi H1⟩ [(107,104),(108,105),(109,106)])))<|by rintro ⟨w3,rfl⟩;exact have H0:=sum_r H0;xg 1 [] R<|M.b H0 fun x4 hx4 H0=>xg 4 [] R<|kR (Tree_getM_con 0 1 hx4) R<|xk 5 [] R<|M.b H0 fun x5 hx5 H0=>xg 6 [] R<|kR (ih hx5) R<|xk 3 [] R<|M.b H0 fun x6 H1 H0=>M.x ([(0,.a (.c (.p 0 0))),(2,.a (.c (.v (.int .i64 a2)))),(3,.a (.c (.v (.int .i64 a3)))),(8,.a (.c (.p 110 0))),(9,.a (.c (.p 111 0))),(10,.a (.c (.p 112 0))),(11,.a (.c (.v (.int .i64 x4.size))))]) ([(1,plM 1 p1),(0,blk 0 [.p 1 0,.v (.int .i64 ri0),.v (.int .i64 rg0)] 144),(110,blk 110 [.v (.int .i64 0),.v (.int .i64 0),.v (.int .i64 0),.v (.int .i64 0),.v (.int .i64 0),.v (.int .i64 0),.v (.int .i64 0),.v (.int .i64 0),.v (.int .i64 0),.v (.int .i64 0),.v (.bool false),.v (.int .i64 0),.v (.int .i64 0),.v (.bool false),.v (.int .i64 0),.v (.int .i64 0)] 105),(111,blk 111 [.v (.int .i64 x1.e.op.time),.v (.bool x1.e.op.insert),.v (.int .i64 x1.e.op.item.key),.v (.int .i64 x1.e.op.item.id),.v (.bool x1.e.here),.v (.bool x1.e.took.found),.v (.int .i64 x1.e.took.item.key),.v (.int .i64 x1.e.took.item.id),.v (.int .i64 x1.left.index),.v (.int .i64 x1.left.gen),.v (.int .i64 x1.right.index),.v (.int .i64 x1.right.gen),.v (.int .i64 x1.size),.v (.int .i64 x1.sum.count.n),.v (.int .i64 x1.sum.count.sum),.v (.int .i64 x1.sum.count.low),.v (.int .i64 x1.sum.weight.n),.v (.int .i64 x1.sum.weight.sum),.v (.int .i64 x1.sum.weight.low),.v (.int .i64 x1.sum.deletes),.v (.int .i64 x1.sum.free),.v (.int .i64 x1.sum.most.key),.v (.int .i64 x1.sum.most.id),.v (.bool x1.sum.gone.found),.v (.int .i64 x1.sum.gone.item.key),.v (.int .i64 x1.sum.gone.item.id),.v (.bool x1.sum.least.found),.v (.int .i64 x1.sum.least.item.key),.v (.int .i64 x1.sum.least.item.id)] 140),(112,blk 112 [.v (.int .i64 x6.count.n),.v (.int .i64 x6.count.sum),.v (.int .i64 x6.count.low),.v (.int .i64 x6.weight.n),.v (.int .i64 x6.weight.sum),.v (.int .i64 x6.weight.low),.v (.int .i64 x6.deletes),.v (.int .i64 x6.free),.v (.int .i64 x6.most.key),.v (.int .i64 x6.most.id),.v (.bool x6.gone.found),.v (.int .i64 x6.gone.item.key),.v (.int .i64 x6.gone.item.id),.v (.bool x6.least.found),.v (.int .i64 x6.least.item.key),.v (.int .i64 x6.least.item.id)] 105)]) (xg 1 [] R<|M.i (t:=(decide (a2≤x4.size))) (fun h11=>have H1:=bif_t H1 h11;xg 5 [] R<|K.move (.inl R) (g1 R R h11) R R<|K.move (.inl R) (g1 R R h11) R R<|K.bin (V:=.bool (decide (a3>x4.size))) (g1 R R h11) R R (fun _=>R) R<|K.pickT g0 R (h11) R R<|xk 2 [] R<|M.c R H1 (fun h12 H1=>M.b H1 fun x7 hx7 H1=>M.b H1 fun x8 hx8 H1=>xg 2 [] R<|K.mkIface Y g0 R (mkI Tryz.underlying105 R) R<|xd 2 [] R<|K.mkIface Y g0 R (mkI Tryz.underlying101 R) R<|K.callR [((.tmp 67),_)] (wave_Mark_Sum_con (k:=k) hx7) (toFn_invoke (cf 207 R) (me101_207) R) g0 ⟨R,trivial⟩ trivial R R R<|K.callR [((.tmp 64),_),((.tmp 68),_)] (wave_Swell_Plus_con (k:=k) hx8) (toFn_invoke (cf 211 R) (me105_211) R) g0 ⟨R,R,trivial⟩ trivial R R R<|xd 1 [] R<|M.n<|by cases H1;exact M.xd [(110,107),(111,108),(112,109)]) (fun h12 H1=>xg 1 [] R<|by cases H1;exact M.xd [(110,107),(111,108),(112,109)])) (fun h11=>have H1:=bif_f H1 h11;xg 5 [] R<|kk h11 R<|kk h11 R<|kk h11 R<|K.pickF g0 R (h11) R R<|xk 2 [] R<|G.cond R (fun h13=>by cases h13) (fun h13=>xg 1 [] R<|by cases H1;exact M.xd [(110,107),(111,108),(112,109)])))<|xg 1 [] R<|M.b H0 fun x9 hx9 H0=>M.b H0 fun x10 hx10 H0=>xg 2 [] R<|K.mkIface Y g0 R (mkI Tryz.underlying105 R) R<|xd 11 [] R<|kR (ih hx9) R<|K.callR [((.tmp 71),_),((.tmp 83),_)] (wave_Swell_Plus_con (k:=k) hx10) (toFn_invoke (cf 211 R) (me105_211) R) g0 ⟨R,R,trivial⟩ trivial R R R<|xd 1 [] R<|M.n<|xa 2 [] R<|by cases H0;exact ZR []
theorem Tree_betweenM_con {k n:Nat} (m0 m1:Nat):Tree_betweenM_st k n m0 m1:=fun H0=>cnA [(0,m0),(1,m1)] (Tree_betweenM_con0 H0)
abbrev Tree_BetweenM_st (m0 m1:Nat):Prop:=∀ {k:Nat} {p1:Pool (TNode TMark TSwell)} {rt0:TRef} {a1:Int} {a2:Int} {r:TSwell} (H0:Tree_Between.f opsM k p1 rt0 a1 a2=some r),SCon Tryz.prog 117 [SV.p m0 0,.a (.c (.v (.int .i64 a1))),.a (.c (.v (.int .i64 a2)))] [(m0,blk m0 [.p m1 0,.i rt0.index,.i rt0.gen] 144),(m1,plM m1 p1)] (.a (.agg ((eTSwell r).map .v))) [(m0,blk m0 [.p m1 0,.i rt0.index,.i rt0.gen] 144),(m1,plM m1 p1)] []
theorem Tree_BetweenM_con0:Tree_BetweenM_st 0 1:=by
 intro k p1 rt0 a1 a2 r H0
 rw [Tree_Between.f] at H0
 exact M.s Tryz.func117 Tryz.ntmps117 R fun β W F=>xg 6 [100] R<|M.b H0 fun x1 hx1 H0=>xg 2 [] R<|kR (Tree_LenM_con 0 1 hx1) R<|xk 4 [] R<|M.b H0 fun x2 hx2 H0=>xg 7 [] R<|K.bi2 (V:=.int .i64 (gmax a1 0)) g0 R R (fun _ _=>R) R<|xk 1 [] R<|K.bi2 (V:=.int .i64 (gmin (gmax a1 0) x1)) g0 R R (fun _ _=>R) R<|xk 1 [] R<|K.bi2 (V:=.int .i64 (gmax a2 0)) g0 R R (fun _ _=>R) R<|xk 1 [] R<|K.bi2 (V:=.int .i64 (gmin (gmax a2 0) x1)) g0 R R (fun _ _=>R) R<|kR (Tree_betweenM_con 0 1 hx2) R<|xk 4 [] R<|by cases H0;exact ZR []
theorem Tree_BetweenM_con (m0 m1:Nat):Tree_BetweenM_st m0 m1:=fun H0=>cnA [(0,m0),(1,m1)] (Tree_BetweenM_con0 H0)
abbrev Tree_firstM_f14_st (g4:FuncId) (cv4:List Value) (Tc4:TypeId) (p1:Pool (TNode TMark TSwell)) (a1:TRef) (a2:Int) (a3:TSwell) (ri0:Int) (rg0:Int) (r:Int×TSwell) (m0:Nat) (m1:Nat) (m2:Nat):Prop:=SCon Tryz.prog 145 [SV.p m0 0,.a (.agg ((eTRef a1).map .v)),.a (.c (.v (.int .i64 a2))),.a (.agg ((eTSwell a3).map .v)),.a (.c (.fn (.func g4) [m2]))] [(m0,blk m0 [.p m1 0,.i ri0,.i rg0] 144),(m1,plM m1 p1),(m2,vblk m2 cv4 Tc4)] (.tup [.c (.v (.int .i64 r.1)),.agg ((eTSwell r.2).map .v)]) [(m0,blk m0 [.p m1 0,.i ri0,.i rg0] 144),(m1,plM m1 p1),(m2,vblk m2 cv4 Tc4)] []
set_option maxHeartbeats 4000000 in
theorem Tree_firstM_f14_con0 {k:Nat} {g4:FuncId} {fn4:TSwell→TSwell→Option Bool} {cv4:List Value} {Tc4:TypeId} (cg4:fnB Tryz.prog g4=true) (hm4 : ∀ (c:Nat) {z0:TSwell} {z1:TSwell} {y:Bool},fn4 z0 z1=some y→SCon Tryz.prog g4 [.a (.agg ((eTSwell z0).map .v)),.a (.agg ((eTSwell z1).map .v)),SV.p c 0] [(c,vblk c cv4 Tc4)] (SV.b y) [(c,vblk c cv4 Tc4)] []) : ∀ {n:Nat} {p1:Pool (TNode TMark TSwell)} {a1:TRef} {a2:Int} {a3:TSwell} {ri0 rg0:Int} {r:Int×TSwell}  (H0:Tree_first.r opsM k n p1 a1 a2 a3 fn4=some r),Tree_firstM_f14_st g4 cv4 Tc4 p1 a1 a2 a3 ri0 rg0 r 0 1 2:=by
 intro n
 induction n with
 | zero => intro p1 a1 a2 a3 ri0 rg0 r H0; exact absurd H0 (by simp [Tree_first.r])
 | succ n ih =>
  intro p1 a1 a2 a3 ri0 rg0 r H0
  rw [Tree_first.r] at H0
  exact M.s Tryz.func145 Tryz.ntmps145 R fun β W F=>xg 9 [100,101,102] R<|M.b H0 fun x1 hx1 H0=>xg 3 [] R<|kR (Tree_getM_con 0 1 hx1) R<|xk 4 [103] R<|M.b H0 fun x2 H1 H0=>M.j (σ:={ v:Unit // x2=Sum.inr v }) (fun q=>[(0,.a (.c (.p 0 0))),(2,.a (.c (.v (.int .i64 a2)))),(4,.a (.c (.fn (.func g4) [2]))),(8,.a (.c (.p 104 0))),(11,.a (.c (.p 105 0))),(12,.a (.c (.p 106 0)))]) (fun q=>[(1,plM 1 p1),(0,blk 0 [.p 1 0,.v (.int .i64 ri0),.v (.int .i64 rg0)] 144),(2,vblk 2 cv4 Tc4),(104,blk 104 [.v (.int .i64 a3.count.n),.v (.int .i64 a3.count.sum),.v (.int .i64 a3.count.low),.v (.int .i64 a3.weight.n),.v (.int .i64 a3.weight.sum),.v (.int .i64 a3.weight.low),.v (.int .i64 a3.deletes),.v (.int .i64 a3.free),.v (.int .i64 a3.most.key),.v (.int .i64 a3.most.id),.v (.bool a3.gone.found),.v (.int .i64 a3.gone.item.key),.v (.int .i64 a3.gone.item.id),.v (.bool a3.least.found),.v (.int .i64 a3.least.item.key),.v (.int .i64 a3.least.item.id)] 105),(105,blk 105 [.v (.int .i64 0),.v (.int .i64 0),.v (.int .i64 0),.v (.int .i64 0),.v (.int .i64 0),.v (.int .i64 0),.v (.int .i64 0),.v (.int .i64 0),.v (.int .i64 0),.v (.int .i64 0),.v (.bool false),.v (.int .i64 0),.v (.int .i64 0),.v (.bool false),.v (.int .i64 0),.v (.int .i64 0)] 105),(106,blk 106 [.v (.int .i64 x1.e.op.time),.v (.bool x1.e.op.insert),.v (.int .i64 x1.e.op.item.key),.v (.int .i64 x1.e.op.item.id),.v (.bool x1.e.here),.v (.bool x1.e.took.found),.v (.int .i64 x1.e.took.item.key),.v (.int .i64 x1.e.took.item.id),.v (.int .i64 x1.left.index),.v (.int .i64 x1.left.gen),.v (.int .i64 x1.right.index),.v (.int .i64 x1.right.gen),.v (.int .i64 x1.size),.v (.int .i64 x1.sum.count.n),.v (.int .i64 x1.sum.count.sum),.v (.int .i64 x1.sum.count.low),.v (.int .i64 x1.sum.weight.n),.v (.int .i64 x1.sum.weight.sum),.v (.int .i64 x1.sum.weight.low),.v (.int .i64 x1.sum.deletes),.v (.int .i64 x1.sum.free),.v (.int .i64 x1.sum.most.key),.v (.int .i64 x1.sum.most.id),.v (.bool x1.sum.gone.found),.v (.int .i64 x1.sum.gone.item.key),.v (.int .i64 x1.sum.gone.item.id),.v (.bool x1.sum.least.found),.v (.int .i64 x1.sum.least.item.key),.v (.int .i64 x1.sum.least.item.id)] 140)]) (xg 1 [] R<|M.i (t:=(x1.size == 0)) (fun h1=>have H1:=bif_t H1 h1;xg 5 [] R<|kk h1 R<|kk h1 R<|kk h1 R<|kk h1 R<|K.pickT g0 R (h1) R R<|xk 1 [] R<|kk R R<|kk R R<|kk R R<|K.skipU R R R R R<|K.skipU R R R R R<|K.skipU R R R R R<|K.skipU R R R R R<|K.skipU R R R R R<|K.skipU R R R R R<|kk R R<|K.pickT g0 R (R) R R<|xk 2 [] R<|G.cond R (fun h2=>xg 1 [] R<|M.b H1 fun x3 hx3 H1=>xg 2 [] R<|K.mkIface Y g0 R (mkI Tryz.underlying105 R) R<|xk 2 [] R<|K.callR [((.tmp 41),_),((.tmp 43),_)] (wave_Swell_Plus_con (k:=k) hx3) (toFn_invoke (cf 211 R) (me105_211) R) g0 ⟨R,R,trivial⟩ trivial R R R<|xk 6 [] R<|by cases H1;exact have H0:=sum_l H0;by cases H0;exact ZR []) (fun h2=>by cases h2)) (fun h1=>have H1:=bif_f H1 h1;M.i (t:=(decide (a2≥x1.size))) (fun h3=>have H1:=bif_t H1 h3;xg 5 [] R<|K.move (.inl R) (g1 R R h1) R R<|K.fieldAddr Y (g1 R R h1) R t140 R R<|K.load1 Y (g1 R R h1) R R t3 R R<|K.bin (V:=.bool (decide (a2≥x1.size))) (g1 R R h1) R R (fun _=>R) R<|K.pickF g0 R (h1) R R<|xk 1 [] R<|kk h3 R<|kk h3 R<|kk h3 R<|K.skipU R R R R R<|K.skipU R R R R R<|K.skipU R R R R R<|K.skipU R R R R R<|K.skipU R R R R R<|K.skipU R R R R R<|kk h3 R<|K.pickT g0 R (h3) R R<|xk 2 [] R<|G.cond R (fun h4=>xg 1 [] R<|M.b H1 fun x4 hx4 H1=>xg 2 [] R<|K.mkIface Y g0 R (mkI Tryz.underlying105 R) R<|xk 2 [] R<|K.callR [((.tmp 41),_),((.tmp 43),_)] (wave_Swell_Plus_con (k:=k) hx4) (toFn_invoke (cf 211 R) (me105_211) R) g0 ⟨R,R,trivial⟩ trivial R R R<|xk 6 [] R<|by cases H1;exact have H0:=sum_l H0;by cases H0;exact ZR []) (fun h4=>by cases h4)) (fun h3=>have H1:=bif_f H1 h3;M.i (t:=(decide (a2≤0))) (fun h5=>have H1:=bif_t H1 h5;M.b H1 fun x5 hx5 H1=>xg 5 [] R<|K.move (.inl R) (g1 R R h1) R R<|K.fieldAddr Y (g1 R R h1) R t140 R R<|K.load1 Y (g1 R R h1) R R t3 R R<|K.bin (V:=.bool (decide (a2≥x1.size))) (g1 R R h1) R R (fun _=>R) R<|K.pickF g0 R (h1) R R<|xk 1 [] R<|K.move (.inl R) (g1 R R h3) R R<|K.bin (V:=.bool (decide (a2≤0))) (g1 R R h3) R R (fun _=>R) R<|K.move (.inl R) (g1 R R h3) R R<|K.move (.inl R) (g1 R R h5) R R<|K.loadS Y _ (g1 R R h5) R R t105 R R R<|K.fieldAddr Y (g1 R R h5) R t140 R R<|K.loadS Y _ (g1 R R h5) R R t105 R R R<|K.callR [((.tmp 32),_),((.tmp 33),_),((.tmp 35),_)] (hm4 2 hx5) (toFn_val cg4 R) (g1 R R h5) ⟨R,R,R,trivial⟩ ⟨R,trivial⟩ R R R<|K.un (V:=.bool (!x5)) (g1 R R h5) R (fun _=>R) R<|K.pickT (g1 R R h3) R (h5) R R<|K.pickF g0 R (h3) R R<|xk 2 [] R<|M.c R H1 (fun h6 H1=>xg 1 [] R<|M.b H1 fun x6 hx6 H1=>xg 2 [] R<|K.mkIface Y g0 R (mkI Tryz.underlying105 R) R<|xk 2 [] R<|K.callR [((.tmp 41),_),((.tmp 43),_)] (wave_Swell_Plus_con (k:=k) hx6) (toFn_invoke (cf 211 R) (me105_211) R) g0 ⟨R,R,trivial⟩ trivial R R R<|xk 6 [] R<|by cases H1;exact have H0:=sum_l H0;by cases H0;exact ZR []) (fun h6 H1=>xg 1 [] R<|M.jd ⟨(),oi H1⟩ [(104,101),(105,102),(106,103)])) (fun h5=>have H1:=bif_f H1 h5;xg 5 [] R<|K.move (.inl R) (g1 R R h1) R R<|K.fieldAddr Y (g1 R R h1) R t140 R R<|K.load1 Y (g1 R R h1) R R t3 R R<|K.bin (V:=.bool (decide (a2≥x1.size))) (g1 R R h1) R R (fun _=>R) R<|K.pickF g0 R (h1) R R<|xk 1 [] R<|K.move (.inl R) (g1 R R h3) R R<|K.bin (V:=.bool (decide (a2≤0))) (g1 R R h3) R R (fun _=>R) R<|K.move (.inl R) (g1 R R h3) R R<|kk h5 R<|kk h5 R<|kk h5 R<|kk h5 R<|kk h5 R<|kk h5 R<|K.pickF (g1 R R h3) R (h5) R R<|K.pickF g0 R (h3) R R<|xk 2 [] R<|G.cond R (fun h7=>by cases h7) (fun h7=>xg 1 [] R<|M.jd ⟨(),oi H1⟩ [(104,101),(105,102),(106,103)])))))<|by rintro ⟨w2,rfl⟩;exact have H0:=sum_r H0;xg 1 [] R<|M.b H0 fun x7 hx7 H0=>xg 4 [] R<|kR (Tree_getM_con 0 1 hx7) R<|xk 5 [] R<|M.b H0 fun x8 hx8 H0=>xg 7 [] R<|kR (ih hx8) R<|xk 14 [] R<|M.c R H0 (fun h8 H0=>xg 6 [] R<|M.n<|xa 3 [] R<|by cases H0;exact ZR []) (fun h8 H0=>xg 3 [] R<|M.b H0 fun x9 hx9 H0=>xg 3 [] R<|K.mkIface Y g0 R (mkI Tryz.underlying101 R) R<|K.callR [((.tmp 66),_)] (wave_Mark_Sum_con (k:=k) hx9) (toFn_invoke (cf 207 R) (me101_207) R) g0 ⟨R,trivial⟩ trivial R R R<|xk 4 [107] R<|M.b H0 fun x10 H1 H0=>M.j (σ:={ v:Unit // x10=Sum.inr v }) (fun q=>[(0,.a (.c (.p 0 0))),(2,.a (.c (.v (.int .i64 a2)))),(4,.a (.c (.fn (.func g4) [2]))),(8,.a (.c (.p 108 0))),(11,.a (.c (.p 109 0))),(12,.a (.c (.p 110 0))),(13,.a (.c (.v (.int .i64 x7.size)))),(15,.a (.c (.p 111 0)))]) (fun q=>[(1,plM 1 p1),(0,blk 0 [.p 1 0,.v (.int .i64 ri0),.v (.int .i64 rg0)] 144),(2,vblk 2 cv4 Tc4),(108,blk 108 [.v (.int .i64 x8.2.count.n),.v (.int .i64 x8.2.count.sum),.v (.int .i64 x8.2.count.low),.v (.int .i64 x8.2.weight.n),.v (.int .i64 x8.2.weight.sum),.v (.int .i64 x8.2.weight.low),.v (.int .i64 x8.2.deletes),.v (.int .i64 x8.2.free),.v (.int .i64 x8.2.most.key),.v (.int .i64 x8.2.most.id),.v (.bool x8.2.gone.found),.v (.int .i64 x8.2.gone.item.key),.v (.int .i64 x8.2.gone.item.id),.v (.bool x8.2.least.found),.v (.int .i64 x8.2.least.item.key),.v (.int .i64 x8.2.least.item.id)] 105),(109,blk 109 [.v (.int .i64 0),.v (.int .i64 0),.v (.int .i64 0),.v (.int .i64 0),.v (.int .i64 0),.v (.int .i64 0),.v (.int .i64 0),.v (.int .i64 0),.v (.int .i64 0),.v (.int .i64 0),.v (.bool false),.v (.int .i64 0),.v (.int .i64 0),.v (.bool false),.v (.int .i64 0),.v (.int .i64 0)] 105),(110,blk 110 [.v (.int .i64 x1.e.op.time),.v (.bool x1.e.op.insert),.v (.int .i64 x1.e.op.item.key),.v (.int .i64 x1.e.op.item.id),.v (.bool x1.e.here),.v (.bool x1.e.took.found),.v (.int .i64 x1.e.took.item.key),.v (.int .i64 x1.e.took.item.id),.v (.int .i64 x1.left.index),.v (.int .i64 x1.left.gen),.v (.int .i64 x1.right.index),.v (.int .i64 x1.right.gen),.v (.int .i64 x1.size),.v (.int .i64 x1.sum.count.n),.v (.int .i64 x1.sum.count.sum),.v (.int .i64 x1.sum.count.low),.v (.int .i64 x1.sum.weight.n),.v (.int .i64 x1.sum.weight.sum),.v (.int .i64 x1.sum.weight.low),.v (.int .i64 x1.sum.deletes),.v (.int .i64 x1.sum.free),.v (.int .i64 x1.sum.most.key),.v (.int .i64 x1.sum.most.id),.v (.bool x1.sum.gone.found),.v (.int .i64 x1.sum.gone.item.key),.v (.int .i64 x1.sum.gone.item.id),.v (.bool x1.sum.least.found),.v (.int .i64 x1.sum.least.item.key),.v (.int .i64 x1.sum.least.item.id)] 140),(111,blk 111 [.v (.int .i64 x9.count.n),.v (.int .i64 x9.count.sum),.v (.int .i64 x9.count.low),.v (.int .i64 x9.weight.n),.v (.int .i64 x9.weight.sum),.v (.int .i64 x9.weight.low),.v (.int .i64 x9.deletes),.v (.int .i64 x9.free),.v (.int .i64 x9.most.key),.v (.int .i64 x9.most.id),.v (.bool x9.gone.found),.v (.int .i64 x9.gone.item.key),.v (.int .i64 x9.gone.item.id),.v (.bool x9.least.found),.v (.int .i64 x9.least.item.key),.v (.int .i64 x9.least.item.id)] 105)]) (xg 1 [] R<|M.i (t:=(decide (a2≤x7.size))) (fun h9=>have H1:=bif_t H1 h9;M.b H1 fun x11 hx11 H1=>xg 5 [] R<|K.move (.inl R) (g1 R R h9) R R<|K.loadS Y _ (g1 R R h9) R R t105 R R R<|K.loadS Y _ (g1 R R h9) R R t105 R R R<|K.callR [((.tmp 72),_),((.tmp 73),_),((.tmp 74),_)] (hm4 2 hx11) (toFn_val cg4 R) (g1 R R h9) ⟨R,R,R,trivial⟩ ⟨R,trivial⟩ R R R<|K.pickT g0 R (h9) R R<|xk 2 [] R<|M.c R H1 (fun h10 H1=>xg 6 [] R<|M.n<|xa 3 [] R<|by cases H1;exact have H0:=sum_l H0;by cases H0;exact ZR []) (fun h10 H1=>xg 1 [] R<|M.jd ⟨(),oi H1⟩ [(108,104),(109,105),(110,106),(111,107)])) (fun h9=>have H1:=bif_f H1 h9;xg 5 [] R<|kk h9 R<|kk h9 R<|kk h9 R<|kk h9 R<|K.pickF g0 R (h9) R R<|xk 2 [] R<|G.cond R (fun h11=>by cases h11) (fun h11=>xg 1 [] R<|M.jd ⟨(),oi H1⟩ [(108,104),(109,105),(110,106),(111,107)])))<|by rintro ⟨w10,rfl⟩;exact have H0:=sum_r H0;xg 1 [] R<|M.b H0 fun x12 hx12 H0=>M.b H0 fun x13 hx13 H0=>xg 9 [] R<|K.mkIface Y g0 R (mkI Tryz.underlying105 R) R<|xd 1 [] R<|K.callR [((.tmp 88),_),((.tmp 89),_)] (wave_Swell_Plus_con (k:=k) hx12) (toFn_invoke (cf 211 R) (me105_211) R) g0 ⟨R,R,trivial⟩ trivial R R R<|xd 1 [] R<|kR (ih hx13) R<|xd 5 [] R<|M.n<|xa 8 [] R<|M.c R H0 (fun h12 H0=>xg 14 [] R<|M.n<|xa 2 [] R<|by cases H0;exact ZR []) (fun h12 H0=>xg 8 [] R<|M.n<|xa 2 [] R<|by cases H0;exact ZR []))
theorem Tree_firstM_f14_con {k n:Nat} {g4:FuncId} {fn4:TSwell→TSwell→Option Bool} {cv4:List Value} {Tc4:TypeId} (cg4:fnB Tryz.prog g4=true) (hm4 : ∀ (c:Nat) {z0:TSwell} {z1:TSwell} {y:Bool},fn4 z0 z1=some y→SCon Tryz.prog g4 [.a (.agg ((eTSwell z0).map .v)),.a (.agg ((eTSwell z1).map .v)),SV.p c 0] [(c,vblk c cv4 Tc4)] (SV.b y) [(c,vblk c cv4 Tc4)] []) {p1:Pool (TNode TMark TSwell)} {a1:TRef} {a2:Int} {a3:TSwell} {ri0 rg0:Int} {r:Int×TSwell}  (H0:Tree_first.r opsM k n p1 a1 a2 a3 fn4=some r) (m0 m1 m2:Nat):Tree_firstM_f14_st g4 cv4 Tc4 p1 a1 a2 a3 ri0 rg0 r m0 m1 m2 :=
 SCon.ren (rn [(0,m0),(1,m1),(2,m2)]) (Tree_firstM_f14_con0 (k:=k) cg4 hm4  H0) ⟨(blk_ren R R),(pl_ren R),(vblk_ren R),trivial⟩ ⟨(blk_ren R R),(pl_ren R),(vblk_ren R),trivial⟩ (by simp) (by simp)
abbrev Tree_FirstM_f12_st (m0 m1 m2:Nat):Prop:=∀ {k:Nat} {g2:FuncId} {fn2:TSwell→TSwell→Option Bool} {cv2:List Value} {Tc2:TypeId} {p1:Pool (TNode TMark TSwell)} {rt0:TRef} {a1:Int} {r:Int} (cg2:fnB Tryz.prog g2=true) (hm2 : ∀ (c:Nat) {z0:TSwell} {z1:TSwell} {y:Bool},fn2 z0 z1=some y→SCon Tryz.prog g2 [.a (.agg ((eTSwell z0).map .v)),.a (.agg ((eTSwell z1).map .v)),SV.p c 0] [(c,vblk c cv2 Tc2)] (SV.b y) [(c,vblk c cv2 Tc2)] []) (H0:Tree_First.f opsM k p1 rt0 a1 fn2=some r),SCon Tryz.prog 122 [SV.p m0 0,.a (.c (.v (.int .i64 a1))),.a (.c (.fn (.func g2) [m2]))] [(m0,blk m0 [.p m1 0,.i rt0.index,.i rt0.gen] 144),(m1,plM m1 p1),(m2,vblk m2 cv2 Tc2)] (.a (.c (.v (.int .i64 r)))) [(m0,blk m0 [.p m1 0,.i rt0.index,.i rt0.gen] 144),(m1,plM m1 p1),(m2,vblk m2 cv2 Tc2)] []
theorem Tree_FirstM_f12_con0:Tree_FirstM_f12_st 0 1 2:=by
 intro k g2 fn2 cv2 Tc2 p1 rt0 a1 r cg2 hm2 H0
 rw [Tree_First.f] at H0
 exact M.s Tryz.func122 Tryz.ntmps122 R fun β W F=>xg 11 [100] R<|M.b H0 fun x1 hx1 H0=>M.b H0 fun x2 hx2 H0=>xg 7 [] R<|K.bi2 (V:=.int .i64 (gmax a1 0)) g0 R R (fun _ _=>R) R<|xd 1 [] R<|kR (Tree_LenM_con 0 1 hx1) R<|K.bi2 (V:=.int .i64 (gmin (gmax a1 0) x1)) g0 R R (fun _ _=>R) R<|xd 2 [] R<|kR (Tree_firstM_f14_con cg2 hm2 hx2 0 1 2) R<|xd 6 [101] R<|M.n<|xa 8 [] R<|by cases H0;exact ZR []
theorem Tree_FirstM_f12_con (m0 m1 m2:Nat):Tree_FirstM_f12_st m0 m1 m2:=fun cg2 hm2 H0=>cnA [(0,m0),(1,m1),(2,m2)] (Tree_FirstM_f12_con0 cg2 hm2 H0)
abbrev Tree_lastM_st (k n m0 m1:Nat):Prop:=∀ {p1:Pool (TNode TMark TSwell)} {a1:TRef} {ri0 rg0:Int} {r:TRef×TRef×Pool (TNode TMark TSwell)} (H0:Tree_last.r opsM k n p1 a1=some r),SCon Tryz.prog 144 [SV.p m0 0,.a (.agg ((eTRef a1).map .v))] [(m0,blk m0 [.p m1 0,.i ri0,.i rg0] 144),(m1,plM m1 p1)] (.tup [.agg ((eTRef r.1).map .v),.agg ((eTRef r.2.1).map .v)]) [(m0,blk m0 [.p m1 0,.i ri0,.i rg0] 144),(m1,plM m1 r.2.2)] []
theorem Tree_lastM_con0 {k:Nat} : ∀ {n:Nat},Tree_lastM_st k n 0 1:=by
 intro n
 induction n with
 | zero => intro p1 a1 ri0 rg0 r H0; exact absurd H0 (by simp [Tree_last.r])
 | succ n ih =>
  intro p1 a1 ri0 rg0 r H0
  rw [Tree_last.r] at H0
  exact M.s Tryz.func144 Tryz.ntmps144 R fun β W F=>xg 8 [100,101,102] R<|M.b H0 fun x1 hx1 H0=>xg 3 [] R<|kR (Tree_getM_con 0 1 hx1) R<|xk 13 [103] R<|M.c R H0 (fun h1 H0=>xg 7 [] R<|M.n<|xa 3 [] R<|by cases H0;exact ZR []) (fun h1 H0=>xg 3 [] R<|M.b H0 fun x2 hx2 H0=>xg 4 [] R<|k0 (ih hx2) R<|xk 10 [104,105] R<|M.b H0 fun x3 hx3 H0=>xg 6 [] R<|k0 (Tree_linkM_con 0 1 hx3) R<|xd 3 [] R<|M.n<|xa 2 [] R<|by cases H0;exact ZR [])
theorem Tree_lastM_con {k n:Nat} (m0 m1:Nat):Tree_lastM_st k n m0 m1:=fun H0=>cnA [(0,m0),(1,m1)] (Tree_lastM_con0 H0)
abbrev Tree_mergeM_st (m0 m1:Nat):Prop:=∀ {k:Nat} {p1:Pool (TNode TMark TSwell)} {a1:TRef} {a2:TRef} {ri0 rg0:Int} {r:TRef×Pool (TNode TMark TSwell)} (H0:Tree_merge.f opsM k p1 a1 a2=some r),SCon Tryz.prog 120 [SV.p m0 0,.a (.agg ((eTRef a1).map .v)),.a (.agg ((eTRef a2).map .v))] [(m0,blk m0 [.p m1 0,.i ri0,.i rg0] 144),(m1,plM m1 p1)] (.a (.agg ((eTRef r.1).map .v))) [(m0,blk m0 [.p m1 0,.i ri0,.i rg0] 144),(m1,plM m1 r.2)] []
theorem Tree_mergeM_con0:Tree_mergeM_st 0 1:=by
 intro k p1 a1 a2 ri0 rg0 r H0
 rw [Tree_merge.f] at H0
 exact M.s Tryz.func120 Tryz.ntmps120 R fun β W F=>xg 17 [100,101,102] R<|M.c R H0 (fun h1 H0=>xg 9 [] R<|by cases H0;exact ZR []) (fun h1 H0=>xg 8 [] R<|M.c R H0 (fun h2 H0=>xg 9 [] R<|by cases H0;exact ZR []) (fun h2 H0=>xg 4 [] R<|M.b H0 fun x1 hx1 H0=>xg 3 [] R<|k0 (Tree_lastM_con 0 1 hx1) R<|xk 10 [103,104] R<|M.b H0 fun x2 hx2 H0=>xg 5 [] R<|k0 (Tree_linkM_con 0 1 hx2) R<|xk 4 [] R<|by cases H0;exact ZR []))
theorem Tree_mergeM_con (m0 m1:Nat):Tree_mergeM_st m0 m1:=fun H0=>cnA [(0,m0),(1,m1)] (Tree_mergeM_con0 H0)
abbrev Tree_dropM_st (k n m0 m1:Nat):Prop:=∀ {p1:Pool (TNode TMark TSwell)} {a1:TRef} {a2:TMark} {ri0 rg0:Int} {r:TRef×TMark×Bool×Pool (TNode TMark TSwell)} (H0:Tree_drop.r opsM k n p1 a1 a2=some r),SCon Tryz.prog 88 [SV.p m0 0,.a (.agg ((eTRef a1).map .v)),.a (.agg ((eTMark a2).map .v))] [(m0,blk m0 [.p m1 0,.i ri0,.i rg0] 144),(m1,plM m1 p1)] (.tup [.agg ((eTRef r.1).map .v),.agg ((eTMark r.2.1).map .v),.c (.v (.bool r.2.2.1))]) [(m0,blk m0 [.p m1 0,.i ri0,.i rg0] 144),(m1,plM m1 r.2.2.2)] []
set_option maxHeartbeats 4000000 in
theorem Tree_dropM_con0 {k:Nat} : ∀ {n:Nat},Tree_dropM_st k n 0 1:=by
 intro n
 induction n with
 | zero => intro p1 a1 a2 ri0 rg0 r H0; exact absurd H0 (by simp [Tree_drop.r])
 | succ n ih =>
  intro p1 a1 a2 ri0 rg0 r H0
  rw [Tree_drop.r] at H0
  exact M.s Tryz.func88 Tryz.ntmps88 R fun β W F=>xg 17 [100,101,102,103] R<|M.c R H0 (fun h1 H0=>xg 12 [104] R<|M.n<|xa 3 [] R<|by cases H0;exact ZR []) (fun h1 H0=>xg 3 [] R<|M.b H0 fun x1 hx1 H0=>xg 3 [] R<|kR (Tree_getM_con 0 1 hx1) R<|xk 5 [105] R<|M.b H0 fun x2 hx2 H0=>xg 2 [] R<|K.mkIface Y g0 R (mkI Tryz.underlying101 R) R<|xk 2 [] R<|K.callR [((.tmp 27),_),((.tmp 29),_)] (wave_Mark_Compare_con (k:=k) hx2) (toFn_invoke (cf 206 R) (me101_206) R) g0 ⟨R,R,trivial⟩ trivial R R R<|xk 12 [] R<|M.c R H0 (fun h2 H0=>xg 1 [] R<|M.b H0 fun x3 hx3 H0=>xg 5 [] R<|k0 (ih hx3) R<|xk 18 [106,107] R<|M.c R H0 (fun h3 H0=>xg 7 [] R<|M.n<|xa 5 [] R<|by cases H0;exact ZR []) (fun h3 H0=>xg 3 [] R<|M.b H0 fun x4 hx4 H0=>xg 6 [] R<|k0 (Tree_linkM_con 0 1 hx4) R<|xd 4 [] R<|M.n<|xa 4 [] R<|by cases H0;exact ZR [])) (fun h2 H0=>xg 7 [] R<|M.c R H0 (fun h4 H0=>xg 1 [] R<|M.b H0 fun x5 hx5 H0=>xg 5 [] R<|k0 (ih hx5) R<|xk 18 [108,109] R<|M.c R H0 (fun h5 H0=>xg 7 [] R<|M.n<|xa 5 [] R<|by cases H0;exact ZR []) (fun h5 H0=>xg 3 [] R<|M.b H0 fun x6 hx6 H0=>xg 6 [] R<|k0 (Tree_linkM_con 0 1 hx6) R<|xd 4 [] R<|M.n<|xa 4 [] R<|by cases H0;exact ZR [])) (fun h4 H0=>xg 4 [] R<|M.b H0 fun x7 hx7 H0=>xg 6 [] R<|K.call0 [(.func 119,_),((.tmp 80),_),((.tmp 81),_)] (pldropM hx7 1) (toFn_func (cf 119 R) R) g0 ⟨R,R,R,trivial⟩ ⟨R,trivial⟩ R R R R R R<|M.n<|xa 2 [] R<|M.b H0 fun x8 hx8 H0=>xg 6 [] R<|k0 (Tree_mergeM_con 0 1 hx8) R<|xd 5 [] R<|M.n<|xa 2 [] R<|by cases H0;exact ZR [])))
theorem Tree_dropM_con {k n:Nat} (m0 m1:Nat):Tree_dropM_st k n m0 m1:=fun H0=>cnA [(0,m0),(1,m1)] (Tree_dropM_con0 H0)
abbrev Tree_DropM_st (m0 m1:Nat):Prop:=∀ {k:Nat} {p1:Pool (TNode TMark TSwell)} {rt0:TRef} {a1:TMark} {r:TMark×Bool×TRef×Pool (TNode TMark TSwell)} (H0:Tree_Drop.f opsM k p1 rt0 a1=some r),SCon Tryz.prog 61 [SV.p m0 0,.a (.agg ((eTMark a1).map .v))] [(m0,blk m0 [.p m1 0,.i rt0.index,.i rt0.gen] 144),(m1,plM m1 p1)] (.tup [.agg ((eTMark r.1).map .v),.c (.v (.bool r.2.1))]) [(m0,blk m0 [.p m1 0,.i r.2.2.1.index,.i r.2.2.1.gen] 144),(m1,plM m1 r.2.2.2)] []
theorem Tree_DropM_con0:Tree_DropM_st 0 1:=by
 intro k p1 rt0 a1 r H0
 rw [Tree_Drop.f] at H0
 exact M.s Tryz.func61 Tryz.ntmps61 R fun β W F=>xg 8 [100,101] R<|M.b H0 fun x1 hx1 H0=>xg 7 [] R<|k0 (Tree_dropM_con 0 1 hx1) R<|xd 9 [102,103] R<|M.n<|xa 19 [] R<|by cases H0;exact ZR []
theorem Tree_DropM_con (m0 m1:Nat):Tree_DropM_st m0 m1:=fun H0=>cnA [(0,m0),(1,m1)] (Tree_DropM_con0 H0)
abbrev Tree_allM_o2_st (k n m0 m1 m2 m30:Nat):Prop:=∀ {p1:Pool (TNode TMark TSwell)} {a1:TRef} {l2:List TMark} {ri0 rg0:Int} {r:List TMark} (H0:Tree_all.r opsM k n p1 a1 l2=some r),SCon Tryz.prog 92 [SV.p m0 0,.a (.agg ((eTRef a1).map .v)),.a (.c (.nv m2))] [(m0,blk m0 [.p m1 0,.i ri0,.i rg0] 144),(m1,plM m1 p1),(m2,lrow m2 101 eTMark 8 l2)] (.a (.c (.nv m30))) [(m0,blk m0 [.p m1 0,.i ri0,.i rg0] 144),(m1,plM m1 p1),(m30,lrow m30 101 eTMark 8 r)] [m30]
theorem Tree_allM_o2_con0 {k:Nat} : ∀ {n:Nat},Tree_allM_o2_st k n 0 1 2 30:=by
 intro n
 induction n with
 | zero => intro p1 a1 l2 ri0 rg0 r H0; exact absurd H0 (by simp [Tree_all.r])
 | succ n ih =>
  intro p1 a1 l2 ri0 rg0 r H0
  rw [Tree_all.r] at H0
  exact M.s Tryz.func92 Tryz.ntmps92 R fun β W F=>xg 3 [100] R<|K.nilRow 101 101 eTMark 8 (.inl R) g0 R R R<|xk 10 [] R<|M.c R H0 (fun h1 H0=>xg 8 [] R<|by cases H0;exact ZR [(30,2)]) (fun h1 H0=>xg 3 [] R<|M.b H0 fun x1 hx1 H0=>xg 3 [] R<|kR (Tree_getM_con 0 1 hx1) R<|xk 5 [102] R<|M.b H0 fun x2 hx2 H0=>M.e H0 fun h2 H0=>M.b H0 fun x3 hx3 H0=>xg 8 [] R<|K.cC (cf 92 R) [] (fun β w S2 h=>SCon.rd0 (SCon.ren (ti':=[(0,_),(1,_),(2,_)]) (to':=[(0,_),(1,_),(103,_)]) (rn [(0,0),(1,1),(2,2),(30,103)]) (ih  hx2) ⟨(blk_ren R R),(pl_ren R),(lrow_ren R),trivial⟩ ⟨(blk_ren R R),(pl_ren R),(lrow_ren R),trivial⟩ (rn_nd (hd_ [0,1,2,103] R) R R) (rn_ks (hd_ [0,1,2,103] R) R R R)) S2 w h) g0 (fun _=>R) R R R<|xd 2 [] R<|K.buildL Y 104 ([x1.e]:List TMark) [(0,_)] [((.tmp 24),_)] eTMark_len g0 (AllE.spec ⟨R,trivial⟩) R R Tryz.underlying111 t101 R R R R R R R R<|K.appendL 105 (lrowV 104 101 eTMark 8 ([x1.e]:List TMark)) _ el111 (lrowV_is eTMark_len (by decide)) eTMark_one g0 R R R R R (ap_m h2) (ap_b h2 (by decide)) R R R R R R<|K.cC (cf 92 R) [] (fun β w S2 h=>SCon.rd0 (SCon.ren (ti':=[(0,_),(1,_),(105,_)]) (to':=[(0,_),(1,_),(106,_)]) (rn [(0,0),(1,1),(2,105),(30,106)]) (ih  hx3) ⟨(blk_ren R R),(pl_ren R),(lrow_ren R),trivial⟩ ⟨(blk_ren R R),(pl_ren R),(lrow_ren R),trivial⟩ (rn_nd (hd_ [0,1,105,106] R) R R) (rn_ks (hd_ [0,1,105,106] R) R R R)) S2 w h) g0 (fun _=>R) R R R<|xd 1 [] R<|M.n<|xa 2 [] R<|by cases H0;exact ZR [(30,106)])
theorem Tree_allM_o2_con {k n:Nat} (m0 m1 m2 m30:Nat) (hd:ndB [m0,m1,m2,m30]=true):Tree_allM_o2_st k n m0 m1 m2 m30:=fun H0=>cnB [(0,m0),(1,m1),(2,m2),(30,m30)] hd (Tree_allM_o2_con0 H0)
abbrev Tree_allM_n2_st (k n m0 m1 m30:Nat):Prop:=∀ {p1:Pool (TNode TMark TSwell)} {a1:TRef} {ri0 rg0:Int} {r:List TMark} (H0:Tree_all.r opsM k n p1 a1 ([]:List TMark)=some r),SCon Tryz.prog 92 [SV.p m0 0,.a (.agg ((eTRef a1).map .v)),SV.raw (.slice none 0 0)] [(m0,blk m0 [.p m1 0,.i ri0,.i rg0] 144),(m1,plM m1 p1)] (.a (.c (.nv m30))) [(m0,blk m0 [.p m1 0,.i ri0,.i rg0] 144),(m1,plM m1 p1),(m30,lrow m30 101 eTMark 8 r)] [m30]
theorem Tree_allM_n2_con0 {k:Nat} : ∀ {n:Nat},Tree_allM_n2_st k n 0 1 30:=by
 intro n
 cases n with
 | zero => intro p1 a1 ri0 rg0 r H0; exact absurd H0 (by simp [Tree_all.r])
 | succ n =>
  intro p1 a1 ri0 rg0 r H0
  rw [Tree_all.r] at H0
  exact M.s Tryz.func92 Tryz.ntmps92 R fun β W F=>xg 3 [100] R<|K.nilRow 101 101 eTMark 8 (.inl R) g0 R R R<|xk 10 [] R<|M.c R H0 (fun h1 H0=>xg 2 [] R<|K.nilRowS 102 101 eTMark 8 (.inr R) g0 R R R R<|xk 5 [] R<|by cases H0;exact ZR [(30,102)]) (fun h1 H0=>xg 3 [] R<|M.b H0 fun x1 hx1 H0=>xg 3 [] R<|kR (Tree_getM_con 0 1 hx1) R<|xk 5 [103] R<|M.b H0 fun x2 hx2 H0=>M.e H0 fun h2 H0=>M.b H0 fun x3 hx3 H0=>xg 7 [] R<|K.nilRowS 104 101 eTMark 8 (.inr R) g0 R R R R<|K.cC (cf 92 R) [] (fun β w S2 h=>SCon.rd0 (Tree_allM_o2_con 0 1 104 105 R hx2) S2 w h) g0 (fun _=>R) R R R<|xd 2 [] R<|K.buildL Y 106 ([x1.e]:List TMark) [(0,_)] [((.tmp 24),_)] eTMark_len g0 (AllE.spec ⟨R,trivial⟩) R R Tryz.underlying111 t101 R R R R R R R R<|K.appendL 107 (lrowV 106 101 eTMark 8 ([x1.e]:List TMark)) _ el111 (lrowV_is eTMark_len (by decide)) eTMark_one g0 R R R R R (ap_m h2) (ap_b h2 (by decide)) R R R R R R<|K.cC (cf 92 R) [] (fun β w S2 h=>SCon.rd0 (Tree_allM_o2_con 0 1 107 108 R hx3) S2 w h) g0 (fun _=>R) R R R<|xd 1 [] R<|M.n<|xa 2 [] R<|by cases H0;exact ZR [(30,108)])
theorem Tree_allM_n2_con {k n:Nat} (m0 m1 m30:Nat) (hd:ndB [m0,m1,m30]=true):Tree_allM_n2_st k n m0 m1 m30:=fun H0=>cnB [(0,m0),(1,m1),(30,m30)] hd (Tree_allM_n2_con0 H0)
abbrev Tree_AllM_st (m0 m1 m30:Nat):Prop:=∀ {k:Nat} {p1:Pool (TNode TMark TSwell)} {rt0:TRef} {r:List TMark} (H0:Tree_All.f opsM k p1 rt0=some r),SCon Tryz.prog 64 [SV.p m0 0] [(m0,blk m0 [.p m1 0,.i rt0.index,.i rt0.gen] 144),(m1,plM m1 p1)] (.a (.c (.nv m30))) [(m0,blk m0 [.p m1 0,.i rt0.index,.i rt0.gen] 144),(m1,plM m1 p1),(m30,lrow m30 101 eTMark 8 r)] [m30]
theorem Tree_AllM_con0:Tree_AllM_st 0 1 30:=by
 intro k p1 rt0 r H0
 rw [Tree_All.f] at H0
 exact M.s Tryz.func64 Tryz.ntmps64 R fun β W F=>xg 2 [] R<|K.nilRow 100 101 eTMark 8 (.inl R) g0 R R R<|xk 3 [] R<|M.b H0 fun x1 hx1 H0=>xg 6 [] R<|k0 (Tree_allM_n2_con 0 1 101 R hx1) R<|xk 4 [] R<|by cases H0;exact ZR [(30,101)]
theorem Tree_AllM_con (m0 m1 m30:Nat) (hd:ndB [m0,m1,m30]=true):Tree_AllM_st m0 m1 m30:=fun H0=>cnB [(0,m0),(1,m1),(30,m30)] hd (Tree_AllM_con0 H0)
end Go.Proofs.YtgjbibabegabnaaGreat
namespace Go.Proofs.YtgjbibabegabnaaGreat
open Go Go.Proofs.YtgjbibabegabnaaGreat.Sx
abbrev fCS:Cell (TNode TSlot TSize)→List Value:=cellE eTNode_TSlot_TSize
theorem fCS_len : ∀ c,(fCS c).length=12:=cellE_len eTNode_TSlot_TSize_len
theorem fCS_one : ∀ c,(fCS c).all Value.oneCell'=true:=cellE_one eTNode_TSlot_TSize_one
abbrev avS (x:(TNode TSlot TSize)):Av:=.agg ((eTNode_TSlot_TSize x).map .v)
abbrev poolS (k:Nat) (p:Pool (TNode TSlot TSize)):Tok:=pool k 208 183 3 12 fCS p
theorem nextS (p:Pool (TNode TSlot TSize)) (hc:p.cells.length<4294967296) (hf:p.free.length<4294967296):SCon Tryz.prog 174 [SV.p 0 0] [(0,poolS 0 p)] (SV.i (p.next zNodeS).1) [(0,poolS 0 (p.next zNodeS).2)] []:=by
  obtain ⟨cells,free,cap,held,vis⟩:=p
  simp only at hc hf
  rcases List.eq_nil_or_concat free with h0 | ⟨l,x,h0⟩
  · subst h0
    refine spec_of [(0,_)] [(0,_)] 46 Tryz.func174 R Tryz.ntmps174 R R R R (fun β W F=>?_)
    refine G.ent [(0,_)] [(0,_),(21,_),(22,_)] [21,22] (pool_open (by decide) (by decide) (by decide)) ⟨R,trivial⟩ R R R R<|G.seq<|G.rg<|K.as R R<|K.nil<|At.ns<|G.seq<|G.rg<|K.mv R R<|K.nilCheck g0 R R<|K.fieldAddr Y g0 R t208 R R<|K.load1 Y g0 R R t161 R R<|K.lenL (lrowV 22 3 intE 1 _) (lrowV_is intE_len (by decide)) g0 R R Tryz.underlying161 R<|K.bin g0 R R (fun _=>R) R<|K.as R R<|K.nil<|At.nr<|K.mv R R<|K.bin g0 R R (fun _=>R) R<|K.nil<|At.next<|G.cond R (fun h1=>?_) (fun h1=>?_)
    · exact absurd h1 (by simp [IntKind.wrap_i64] at * <;> omega)
    ·
      refine G.skip<|At.nr<|K.mv R R<|K.mv R R<|K.nilCheck g0 R R<|K.fieldAddr Y g0 R t208 R R<|K.load1 Y g0 R R t206 R R<|K.build Y [] [_,_,_,_,_,_,_,_,_,_,_,_] [] g0 (AllE.spec trivial) R R t183 R R<|K.buildL Y 136 [(⟨zNodeS,0,false⟩:Cell (TNode TSlot TSize))] [(0,_)] [((.tmp 35),_)] fCS_len g0 (AllE.spec ⟨R,trivial⟩) R R Tryz.underlying206 t183 R R R R R R R R<|K.appendL 137 (lrowV 136 183 fCS 12 _) _ el206 (lrowV_is fCS_len (by decide)) fCS_one g0 R R R R R (by simp only [List.length_cons,List.length_nil,maxLen];omega) (by simp only [List.length_cons,List.length_nil,maxLen];omega) R R R R R R<|K.nilCheck g0 R R<|K.fieldAddr Y g0 R t208 R R<|K.store Y _ g0 R R R t206 R R R R R<|K.nil<|At.nr<|K.mv R R<|K.nilCheck g0 R R<|K.fieldAddr Y g0 R t208 R R<|K.load1 Y g0 R R t206 R R<|K.lenL (lrowV 137 183 fCS 12 _) (lrowV_is fCS_len (by decide)) g0 R R Tryz.underlying206 R<|K.bin g0 R R (fun _=>R) R<|K.as R R<|K.nil<|At.next<|G.ret<|At.ent [(0,_),(137,_),(22,_)] [(0,poolS 0 ⟨_,_,_,_,_⟩)] [] (pool_close _ _ _ _ _) ⟨R,R,R,trivial⟩ R R R R<|At.done Y [(.tmp 2,.c _)] R ⟨.tmp R,trivial⟩ (to':=[(0,_)]) ⟨R,trivial⟩ ?_ ?_ R R R (.inl R)
      · simp [Pool.next, *]
      · exact ret_i (by simp [Pool.next,IntKind.wrap_i64];omega)
  · rw [List.concat_eq_append] at h0;subst h0
    have hget:(l++[x])[l.length]? = some x:=by simp
    refine spec_of [(0,_)] [(0,_)] 46 Tryz.func174 R Tryz.ntmps174 R R R R (fun β W F=>?_)
    refine G.ent [(0,_)] [(0,_),(21,_),(22,_)] [21,22] (pool_open (by decide) (by decide) (by decide)) ⟨R,trivial⟩ R R R R<|G.seq<|G.rg<|K.as R R<|K.nil<|At.ns<|G.seq<|G.rg<|K.mv R R<|K.nilCheck g0 R R<|K.fieldAddr Y g0 R t208 R R<|K.load1 Y g0 R R t161 R R<|K.lenL (lrowV 22 3 intE 1 _) (lrowV_is intE_len (by decide)) g0 R R Tryz.underlying161 R<|K.bin g0 R R (fun _=>R) R<|K.as R R<|K.nil<|At.nr<|K.mv R R<|K.bin g0 R R (fun _=>R) R<|K.nil<|At.next<|G.cond R (fun h1=>?_) (fun h1=>?_)
    ·
      refine G.seq<|G.rg<|K.mv R R<|K.nilCheck g0 R R<|K.fieldAddr Y g0 R t208 R R<|K.load1 Y g0 R R t161 R R<|K.mv R R<|K.idxL (lrowV 22 3 intE 1 _) l.length (lrowV_is intE_len (by decide)) hget (by simp [IntKind.wrap_i64] at * <;> omega) g0 R R R Tryz.underlying161 el161.size_run R<|K.load1L Y (lrowV 22 3 intE 1 _) l.length 0 (lrowV_is intE_len (by decide)) hget g0 R R t3 R R<|K.as R R<|K.nil<|At.nr<|K.mv R R<|K.mv R R<|K.nilCheck g0 R R<|K.fieldAddr Y g0 R t208 R R<|K.load1 Y g0 R R t161 R R<|K.mv R R<|K.cutL 126 l.length intE_len g0 R (.at_ R (by simp [IntKind.wrap_i64] at * <;> omega) (by simp [IntKind.wrap_i64] at * <;> omega)) R Tryz.underlying161 el161.size_run (by simp) R R R R<|K.nilCheck g0 R R<|K.fieldAddr Y g0 R t208 R R<|K.store Y _ g0 R R R t161 R R R R R<|K.nil<|At.nr<|K.mv R R<|K.as R R<|K.nil<|At.next<|G.ret<|At.over_ret<|At.ent [(0,_),(21,_),(126,_)] [(0,poolS 0 ⟨_,_,_,_,_⟩)] [] (pool_close _ _ _ _ _) ⟨R,R,R,trivial⟩ R R R R<|At.done Y [(.tmp 2,.c _)] R ⟨.tmp R,trivial⟩ (to':=[(0,_)]) ⟨R,trivial⟩ ?_ ?_ R R R (.inl R)
      · simp [Pool.next, *]
      · exact ret_i (by simp [Pool.next])
    · exact absurd h1 (by simp [IntKind.wrap_i64] at * <;> omega)
theorem findSS {cells:List (Cell (TNode TSlot TSize))} {n:Nat} {c:Cell (TNode TSlot TSize)} (hg:cells[n]? = some c) (hl:c.live=true) (hlen:cells.length<4294967296) (cap held vis:Int):SCon Tryz.prog 128 [SV.p 0 0,SV.agg [.i (n:Int),.i c.gen]] [(0,blk 0 [.nv 1,.nv 2,.i cap,.i held,.i vis] 208),(1,lrow 1 183 fCS 12 cells)] (.a (.c (.rp 1 (n*12)))) [(0,blk 0 [.nv 1,.nv 2,.i cap,.i held,.i (IntKind.i64.wrap (vis+1))] 208),(1,lrow 1 183 fCS 12 cells)] []:=by
  have hlt:=(List.getElem?_eq_some_iff.1 hg).1
  refine spec_of [(0,_),(1,_)] [(0,_),(1,_)] 48 Tryz.func128 R Tryz.ntmps128 R R R R (fun β W F=>?_)
  refine G.seq<|G.rg<|K.box Y 103 _ g0 R R R R R R<|K.as R R<|K.nil<|At.ns<|G.seq ?_
  have h1:(decide ((n:Int)<0))=false:=by simp [IntKind.wrap_i64] at * <;> omega
  refine G.rd mixed<|K.fieldAddr Y g0 R t119 R R<|K.load1 Y g0 R R t3 R R<|K.bin g0 R R (fun _=>R) R<|K.mv R R<|K.fieldAddr Y (g1 R R h1) R t119 R R<|K.load1 Y (g1 R R h1) R R t3 R R<|K.move (.inl R) (g1 R R h1) R R<|K.nilCheck (g1 R R h1) R R<|K.fieldAddr Y (g1 R R h1) R t208 R R<|K.load1 Y (g1 R R h1) R R t206 R R<|K.lenL (lrowV 1 183 fCS 12 _) (lrowV_is fCS_len (by decide)) (g1 R R h1) R R Tryz.underlying206 R<|K.bin (g1 R R h1) R R (fun _=>R) R<|K.pickF g0 R (h1) R R<|K.nil<|And.intro (by kernel_rfl)<|At.next<|G.cond R (fun h2=>?_) (fun h2=>?_)
  · exact absurd h2 (by simp [IntKind.wrap_i64] at * <;> omega)
  ·
    refine G.skip<|At.ns<|G.rd mixed<|K.mv R R<|K.nilCheck g0 R R<|K.fieldAddr Y g0 R t208 R R<|K.load1 Y g0 R R t206 R R<|K.fieldAddr Y g0 R t119 R R<|K.load1 Y g0 R R t3 R R<|K.idxL (lrowV 1 183 fCS 12 _) n (lrowV_is fCS_len (by decide)) hg R g0 R R R Tryz.underlying206 el206.size_run R<|K.as R R<|K.nil<|And.intro (by kernel_rfl)<|At.ns<|G.seq ?_
    have h3:(!c.live)=false:=by simp [hl]
    refine G.rd mixed<|K.mv R R<|K.nilL (lrowV 1 183 fCS 12 _) n 0 (lrowV_is fCS_len (by decide)) hg g0 R R R R<|K.fieldL Y (lrowV 1 183 fCS 12 _) n 0 11 (lrowV_is fCS_len (by decide)) hg g0 R R t183 R R R R<|K.load1L Y (lrowV 1 183 fCS 12 _) n 11 (lrowV_is fCS_len (by decide)) hg g0 R R t4 R R<|K.un g0 R (fun _=>R) R<|K.mv R R<|K.move (.inl R) (g1 R R h3) R R<|K.nilL (lrowV 1 183 fCS 12 _) n 0 (lrowV_is fCS_len (by decide)) hg (g1 R R h3) R R R R<|K.fieldL Y (lrowV 1 183 fCS 12 _) n 0 10 (lrowV_is fCS_len (by decide)) hg (g1 R R h3) R R t183 R R R R<|K.load1L Y (lrowV 1 183 fCS 12 _) n 10 (lrowV_is fCS_len (by decide)) hg (g1 R R h3) R R t3 R R<|K.fieldAddr Y (g1 R R h3) R t119 R R<|K.load1 Y (g1 R R h3) R R t3 R R<|K.bin (g1 R R h3) R R (fun _=>R) R<|K.pickF g0 R (h3) R R<|K.nil<|And.intro (by kernel_rfl)<|At.next<|G.cond R (fun h4=>?_) (fun h4=>?_)
    · exact absurd h4 (by simp)
    ·
      refine G.skip<|At.nr<|K.mv R R<|K.nilCheck g0 R R<|K.fieldAddr Y g0 R t208 R R<|K.load1 Y g0 R R t3 R R<|K.bin g0 R R (fun _=>R) R<|K.nilCheck g0 R R<|K.fieldAddr Y g0 R t208 R R<|K.store Y _ g0 R R R t3 R R R R R<|K.nil<|At.nr<|K.mv R R<|K.as R R<|K.nil<|At.next<|G.ret<|At.done Y [(.tmp 4,.c _)] R ⟨.tmp R,trivial⟩ (to':=[(0,_),(1,_)]) ⟨R,R,trivial⟩ ?_ ?_ R R R (.inl R)
      · rfl
      · rfl
theorem findNS {cells:List (Cell (TNode TSlot TSize))} {i g:Int} (hn:lookC cells i g=none) (hlen:cells.length<4294967296) (cap held vis:Int):SCon Tryz.prog 128 [SV.p 0 0,SV.agg [.i i,.i g]] [(0,blk 0 [.nv 1,.nv 2,.i cap,.i held,.i vis] 208),(1,lrow 1 183 fCS 12 cells)] (SV.raw (.pointer none)) [(0,blk 0 [.nv 1,.nv 2,.i cap,.i held,.i vis] 208),(1,lrow 1 183 fCS 12 cells)] []:=by
  refine spec_of [(0,_),(1,_)] [(0,_),(1,_)] 48 Tryz.func128 R Tryz.ntmps128 R R R R (fun β W F=>?_)
  refine G.seq<|G.rg<|K.box Y 103 _ g0 R R R R R R<|K.as R R<|K.nil<|At.ns<|G.seq ?_
  rcases Bool.eq_false_or_eq_true (decide (i<0)) with h1 | h1
  ·
    refine G.rd mixed<|K.fieldAddr Y g0 R t119 R R<|K.load1 Y g0 R R t3 R R<|K.bin g0 R R (fun _=>R) R<|K.mv R R<|K.sk R R h1 R<|K.sk R R h1 R<|K.sk R R h1 R<|K.sk R R h1 R<|K.sk R R h1 R<|K.sk R R h1 R<|K.sk R R h1 R<|K.sk R R h1 R<|K.pickT g0 R (h1) R R<|K.nil<|And.intro (by kernel_rfl)<|At.next<|G.cond R (fun h2=>?_) (fun h2=>?_)
    ·
      refine G.seq<|G.rg<|K.as R R<|K.nil<|At.next<|G.ret<|At.over_ret<|At.done Y [(.tmp 4,.c _)] R ⟨.tmp R,trivial⟩ (to':=[(0,_),(1,_)]) ⟨R,R,trivial⟩ ?_ ?_ R R R (.inl R)
      · rfl
      · rfl
    · cases h2
  ·
    refine G.rd mixed<|K.fieldAddr Y g0 R t119 R R<|K.load1 Y g0 R R t3 R R<|K.bin g0 R R (fun _=>R) R<|K.mv R R<|K.fieldAddr Y (g1 R R h1) R t119 R R<|K.load1 Y (g1 R R h1) R R t3 R R<|K.move (.inl R) (g1 R R h1) R R<|K.nilCheck (g1 R R h1) R R<|K.fieldAddr Y (g1 R R h1) R t208 R R<|K.load1 Y (g1 R R h1) R R t206 R R<|K.lenL (lrowV 1 183 fCS 12 _) (lrowV_is fCS_len (by decide)) (g1 R R h1) R R Tryz.underlying206 R<|K.bin (g1 R R h1) R R (fun _=>R) R<|K.pickF g0 R (h1) R R<|K.nil<|And.intro (by kernel_rfl)<|At.next<|G.cond R (fun h3=>?_) (fun h3=>?_)
    ·
      refine G.seq<|G.rg<|K.as R R<|K.nil<|At.next<|G.ret<|At.over_ret<|At.done Y [(.tmp 4,.c _)] R ⟨.tmp R,trivial⟩ (to':=[(0,_),(1,_)]) ⟨R,R,trivial⟩ ?_ ?_ R R R (.inl R)
      · rfl
      · rfl
    ·
      refine G.skip<|At.ns ?_
      obtain ⟨c,hg⟩ : ∃ c,cells[i.toNat]? = some c:=⟨_,List.getElem?_eq_getElem (by simp [IntKind.wrap_i64] at * <;> omega)⟩
      refine G.rd mixed<|K.mv R R<|K.nilCheck g0 R R<|K.fieldAddr Y g0 R t208 R R<|K.load1 Y g0 R R t206 R R<|K.fieldAddr Y g0 R t119 R R<|K.load1 Y g0 R R t3 R R<|K.idxL (lrowV 1 183 fCS 12 _) i.toNat (lrowV_is fCS_len (by decide)) hg (by simp [IntKind.wrap_i64] at * <;> omega) g0 R R R Tryz.underlying206 el206.size_run R<|K.as R R<|K.nil<|And.intro (by kernel_rfl)<|At.ns<|G.seq ?_
      rcases Bool.eq_false_or_eq_true (!c.live) with h4 | h4
      ·
        refine G.rd mixed<|K.mv R R<|K.nilL (lrowV 1 183 fCS 12 _) i.toNat 0 (lrowV_is fCS_len (by decide)) hg g0 R R R R<|K.fieldL Y (lrowV 1 183 fCS 12 _) i.toNat 0 11 (lrowV_is fCS_len (by decide)) hg g0 R R t183 R R R R<|K.load1L Y (lrowV 1 183 fCS 12 _) i.toNat 11 (lrowV_is fCS_len (by decide)) hg g0 R R t4 R R<|K.un g0 R (fun _=>R) R<|K.mv R R<|K.sk R R h4 R<|K.sk R R h4 R<|K.sk R R h4 R<|K.sk R R h4 R<|K.sk R R h4 R<|K.sk R R h4 R<|K.sk R R h4 R<|K.pickT g0 R (h4) R R<|K.nil<|And.intro (by kernel_rfl)<|At.next<|G.cond R (fun h5=>?_) (fun h5=>?_)
        ·
          refine G.seq<|G.rg<|K.as R R<|K.nil<|At.next<|G.ret<|At.over_ret<|At.done Y [(.tmp 4,.c _)] R ⟨.tmp R,trivial⟩ (to':=[(0,_),(1,_)]) ⟨R,R,trivial⟩ ?_ ?_ R R R (.inl R)
          · rfl
          · rfl
        · cases h5
      ·
        refine G.rd mixed<|K.mv R R<|K.nilL (lrowV 1 183 fCS 12 _) i.toNat 0 (lrowV_is fCS_len (by decide)) hg g0 R R R R<|K.fieldL Y (lrowV 1 183 fCS 12 _) i.toNat 0 11 (lrowV_is fCS_len (by decide)) hg g0 R R t183 R R R R<|K.load1L Y (lrowV 1 183 fCS 12 _) i.toNat 11 (lrowV_is fCS_len (by decide)) hg g0 R R t4 R R<|K.un g0 R (fun _=>R) R<|K.mv R R<|K.move (.inl R) (g1 R R h4) R R<|K.nilL (lrowV 1 183 fCS 12 _) i.toNat 0 (lrowV_is fCS_len (by decide)) hg (g1 R R h4) R R R R<|K.fieldL Y (lrowV 1 183 fCS 12 _) i.toNat 0 10 (lrowV_is fCS_len (by decide)) hg (g1 R R h4) R R t183 R R R R<|K.load1L Y (lrowV 1 183 fCS 12 _) i.toNat 10 (lrowV_is fCS_len (by decide)) hg (g1 R R h4) R R t3 R R<|K.fieldAddr Y (g1 R R h4) R t119 R R<|K.load1 Y (g1 R R h4) R R t3 R R<|K.bin (g1 R R h4) R R (fun _=>R) R<|K.pickF g0 R (h4) R R<|K.nil<|And.intro (by kernel_rfl)<|At.next<|G.cond R (fun h6=>?_) (fun h6=>?_)
        ·
          refine G.seq<|G.rg<|K.as R R<|K.nil<|At.next<|G.ret<|At.over_ret<|At.done Y [(.tmp 4,.c _)] R ⟨.tmp R,trivial⟩ (to':=[(0,_),(1,_)]) ⟨R,R,trivial⟩ ?_ ?_ R R R (.inl R)
          · rfl
          · rfl
        · exact absurd h6 (by simp_all [lookC])
theorem findSS' {cells : List (Cell (TNode TSlot TSize))} {n : Nat} {c : Cell (TNode TSlot TSize)} (hg : cells[n]? = some c) (hl : c.live = true) (hlen : cells.length < 4294967296) (cap held vis : Int) (k0 k1 k2 : Nat) : SCon Tryz.prog 128 [SV.p k0 0, SV.agg [.i (n : Int), .i c.gen]]
    [(k0,blk k0 [.nv k1,.nv k2,.i cap,.i held,.i vis] 208),(k1,lrow k1 183 fCS 12 cells)] (.a (.c (.rp k1 (n*12)))) [(k0,blk k0 [.nv k1,.nv k2,.i cap,.i held,.i (IntKind.i64.wrap (vis+1))] 208),(k1,lrow k1 183 fCS 12 cells)] [] :=
  SCon.ren (rn [(0,k0),(1,k1),(2,k2)]) (findSS hg hl hlen cap held vis) ⟨blk_ren R R,lrow_ren R,trivial⟩ ⟨blk_ren R R,lrow_ren R,trivial⟩ (by simp) (by simp)
theorem findNS' {cells : List (Cell (TNode TSlot TSize))} {i g : Int} (hn : lookC cells i g = none) (hlen : cells.length < 4294967296) (cap held vis : Int) (k0 k1 k2 : Nat) : SCon Tryz.prog 128 [SV.p k0 0, SV.agg [.i i, .i g]]
    [(k0,blk k0 [.nv k1,.nv k2,.i cap,.i held,.i vis] 208),(k1,lrow k1 183 fCS 12 cells)] (SV.raw (.pointer none)) [(k0,blk k0 [.nv k1,.nv k2,.i cap,.i held,.i vis] 208),(k1,lrow k1 183 fCS 12 cells)] [] :=
  SCon.ren (rn [(0,k0),(1,k1),(2,k2)]) (findNS hn hlen cap held vis) ⟨blk_ren R R,lrow_ren R,trivial⟩ ⟨blk_ren R R,lrow_ren R,trivial⟩ (by simp) (by simp)
theorem getS (p:Pool (TNode TSlot TSize)) (i g:Int) (hlen:p.cells.length<4294967296) (hfree:p.free.length<4294967296):SCon Tryz.prog 100 [SV.p 0 0,SV.agg [.i i,.i g]] [(0,poolS 0 p)] (.tup [avS (p.get zNodeS i g).1.1,.c (.b (p.get zNodeS i g).1.2)]) [(0,poolS 0 (p.get zNodeS i g).2)] []:=by
  obtain ⟨cells,free,cap,held,vis⟩:=p
  simp only at hlen hfree
  cases hlk:lookC cells i g with
  | none =>
    refine spec_of [(0,_),(1,_)] [(0,_)] 18 Tryz.func100 R Tryz.ntmps100 R R R R (fun β W F=>?_)
    refine G.ent [(0,_)] [(0,_),(21,_),(22,_)] [21,22] (pool_open (by decide) (by decide) (by decide)) ⟨R,trivial⟩ R R R R<|G.seq<|G.rg<|K.box Y 103 _ g0 R R R R R R<|K.alloc Y 104 _ g0 t123 R R R R R<|K.as R R<|K.nil<|At.nr<|K.mv R R<|K.loadS Y _ g0 R R t119 R R R<|K.call0 [(.func 128,_),((.tmp 8),_),((.tmp 9),_)] (findNS' hlk hlen _ _ _ 0 21 22) (toFn_func (cf 128 R) R) g0 ⟨R,R,R,trivial⟩ ⟨R,R,trivial⟩ R R R R R R<|K.as R R<|K.nil<|At.ns<|G.seq<|G.rg<|K.mv R R<|K.bin g0 R R (pn_eql_none Tryz.underlying180) R<|K.nil<|At.next<|G.cond R (fun h1=>?_) (fun h1=>?_)
    ·
      refine G.seq<|G.rg<|K.alloc Y 107 _ g0 t123 R R R R R<|K.nil<|At.nr<|K.loadS Y _ g0 R R t123 R R R<|K.store Y _ g0 R R R t123 R R R R R<|K.as R R<|K.nil<|At.next<|G.ret<|At.over_ret<|At.ent [(0,_),(21,_),(22,_)] [(0,poolS 0 ⟨_,_,_,_,_⟩)] [] (pool_close _ _ _ _ _) ⟨R,R,R,trivial⟩ R R R R<|At.done Y [(.cell 4 123,.agg [_,_,_,_,_,_,_,_,_,_]),(.tmp 5,.c _)] R ⟨.st R R t123 R R,.tmp R,trivial⟩ (to':=[(0,_)]) ⟨R,trivial⟩ ?_ ?_ R R R (.inl R)
      · simp only [Pool.get,hlk]
      · simp only [Pool.get,hlk];rfl
    · cases h1
  | some c =>
    obtain ⟨n,rfl,hg,hl,rfl⟩:=lookC_some hlk
    refine spec_of [(0,_),(1,_)] [(0,_)] 18 Tryz.func100 R Tryz.ntmps100 R R R R (fun β W F=>?_)
    refine G.ent [(0,_)] [(0,_),(21,_),(22,_)] [21,22] (pool_open (by decide) (by decide) (by decide)) ⟨R,trivial⟩ R R R R<|G.seq<|G.rg<|K.box Y 103 _ g0 R R R R R R<|K.alloc Y 104 _ g0 t123 R R R R R<|K.as R R<|K.nil<|At.nr<|K.mv R R<|K.loadS Y _ g0 R R t119 R R R<|K.call0 [(.func 128,_),((.tmp 8),_),((.tmp 9),_)] (findSS' hg hl hlen _ _ _ 0 21 22) (toFn_func (cf 128 R) R) g0 ⟨R,R,R,trivial⟩ ⟨R,R,trivial⟩ R R R R R R<|K.as R R<|K.nil<|At.ns<|G.seq<|G.rg<|K.mv R R<|K.eqnilL (lrowV 21 183 fCS 12 _) n 0 (B:=false) (lrowV_is fCS_len (by decide)) hg g0 R R R R (pn_eql_some Tryz.underlying180) R<|K.nil<|At.next<|G.cond R (fun h1=>?_) (fun h1=>?_)
    · cases h1
    ·
      refine G.skip<|At.nr<|K.mv R R<|K.nilL (lrowV 21 183 fCS 12 _) n 0 (lrowV_is fCS_len (by decide)) hg g0 R R R R<|K.fieldL Y (lrowV 21 183 fCS 12 _) n 0 0 (lrowV_is fCS_len (by decide)) hg g0 R R t183 R R R R<|K.loadSL Y (lrowV 21 183 fCS 12 _) n 0 [_,_,_,_,_,_,_,_,_,_] [_,_,_,_,_,_,_,_,_,_] (lrowV_is fCS_len (by decide)) hg g0 R R t123 R R R R R<|K.store Y _ g0 R R R t123 R R R R R<|K.as R R<|K.nil<|At.next<|G.ret<|At.ent [(0,_),(21,_),(22,_)] [(0,poolS 0 ⟨_,_,_,_,_⟩)] [] (pool_close _ _ _ _ _) ⟨R,R,R,trivial⟩ R R R R<|At.done Y [(.cell 4 123,.agg [_,_,_,_,_,_,_,_,_,_]),(.tmp 5,.c _)] R ⟨.st R R t123 R R,.tmp R,trivial⟩ (to':=[(0,_)]) ⟨R,trivial⟩ ?_ ?_ R R R (.inl R)
      · simp [Pool.get,hlk,Pool.hit]
      · simp only [Pool.get,hlk];rfl
theorem setS (p:Pool (TNode TSlot TSize)) (i g:Int) (v:(TNode TSlot TSize)) (hlen:p.cells.length<4294967296) (hfree:p.free.length<4294967296):SCon Tryz.prog 162 [SV.p 0 0,SV.agg [.i i,.i g],.a (avS v)] [(0,poolS 0 p)] (SV.b (p.set i g v).1) [(0,poolS 0 (p.set i g v).2)] []:=by
  obtain ⟨cells,free,cap,held,vis⟩:=p
  simp only at hlen hfree
  cases hlk:lookC cells i g with
  | none =>
    refine spec_of [(0,_),(1,_),(2,_)] [(0,_)] 19 Tryz.func162 R Tryz.ntmps162 R R R R (fun β W F=>?_)
    refine G.ent [(0,_)] [(0,_),(21,_),(22,_)] [21,22] (pool_open (by decide) (by decide) (by decide)) ⟨R,trivial⟩ R R R R<|G.seq<|G.rg<|K.box Y 104 _ g0 R R R R R R<|K.box Y 105 _ g0 R R R R R R<|K.as R R<|K.nil<|At.nr<|K.mv R R<|K.loadS Y _ g0 R R t119 R R R<|K.call0 [(.func 128,_),((.tmp 8),_),((.tmp 9),_)] (findNS' hlk hlen _ _ _ 0 21 22) (toFn_func (cf 128 R) R) g0 ⟨R,R,R,trivial⟩ ⟨R,R,trivial⟩ R R R R R R<|K.as R R<|K.nil<|At.ns<|G.seq<|G.rg<|K.mv R R<|K.bin g0 R R (pn_neq_none Tryz.underlying180) R<|K.nil<|At.next<|G.cond R (fun h1=>?_) (fun h1=>?_)
    · cases h1
    ·
      refine G.skip<|At.nr<|K.mv R R<|K.bin g0 R R (pn_neq_none Tryz.underlying180) R<|K.as R R<|K.nil<|At.next<|G.ret<|At.ent [(0,_),(21,_),(22,_)] [(0,poolS 0 ⟨_,_,_,_,_⟩)] [] (pool_close _ _ _ _ _) ⟨R,R,R,trivial⟩ R R R R<|At.done Y [(.tmp 6,.c _)] R ⟨.tmp R,trivial⟩ (to':=[(0,_)]) ⟨R,trivial⟩ ?_ ?_ R R R (.inl R)
      · simp only [Pool.set,hlk]
      · simp only [Pool.set,hlk];rfl
  | some c =>
    obtain ⟨n,rfl,hg,hl,rfl⟩:=lookC_some hlk
    refine spec_of [(0,_),(1,_),(2,_)] [(0,_)] 19 Tryz.func162 R Tryz.ntmps162 R R R R (fun β W F=>?_)
    refine G.ent [(0,_)] [(0,_),(21,_),(22,_)] [21,22] (pool_open (by decide) (by decide) (by decide)) ⟨R,trivial⟩ R R R R<|G.seq<|G.rg<|K.box Y 104 _ g0 R R R R R R<|K.box Y 105 _ g0 R R R R R R<|K.as R R<|K.nil<|At.nr<|K.mv R R<|K.loadS Y _ g0 R R t119 R R R<|K.call0 [(.func 128,_),((.tmp 8),_),((.tmp 9),_)] (findSS' hg hl hlen _ _ _ 0 21 22) (toFn_func (cf 128 R) R) g0 ⟨R,R,R,trivial⟩ ⟨R,R,trivial⟩ R R R R R R<|K.as R R<|K.nil<|At.ns<|G.seq<|G.rg<|K.mv R R<|K.eqnilL (lrowV 21 183 fCS 12 _) n 0 (B:=true) (lrowV_is fCS_len (by decide)) hg g0 R R R R (pn_neq_some Tryz.underlying180) R<|K.nil<|At.next<|G.cond R (fun h1=>?_) (fun h1=>?_)
    ·
      refine G.rg<|K.mv R R<|K.loadS Y _ g0 R R t123 R R R<|K.nilL (lrowV 21 183 fCS 12 _) n 0 (lrowV_is fCS_len (by decide)) hg g0 R R R R<|K.fieldL Y (lrowV 21 183 fCS 12 _) n 0 0 (lrowV_is fCS_len (by decide)) hg g0 R R t183 R R R R<|K.storeL Y n 0 [_,_,_,_,_,_,_,_,_,_] { c with v:=v } fCS_len (by decide) hg g0 R R R t123 R R R R R R<|K.nil<|At.nr<|K.mv R R<|K.eqnilL (lrowV 21 183 fCS 12 _) n 0 (B:=true) (lrowV_is fCS_len (by decide)) (set_get hg) g0 R R R R (pn_neq_some Tryz.underlying180) R<|K.as R R<|K.nil<|At.next<|G.ret<|At.ent [(0,_),(21,_),(22,_)] [(0,poolS 0 ⟨_,_,_,_,_⟩)] [] (pool_close _ _ _ _ _) ⟨R,R,R,trivial⟩ R R R R<|At.done Y [(.tmp 6,.c _)] R ⟨.tmp R,trivial⟩ (to':=[(0,_)]) ⟨R,trivial⟩ ?_ ?_ R R R (.inl R)
      · simp [Pool.set,hlk,Pool.hit]
      · simp only [Pool.set,hlk];rfl
    · cases h1
theorem dropS (p:Pool (TNode TSlot TSize)) (i g:Int) (hlen:p.cells.length<4294967296) (hfree:p.free.length<4294967296):SCon Tryz.prog 124 [SV.p 0 0,SV.agg [.i i,.i g]] [(0,poolS 0 p)] (.tup [avS (p.drop zNodeS i g).1.1,.c (.b (p.drop zNodeS i g).1.2)]) [(0,poolS 0 (p.drop zNodeS i g).2)] []:=by
  obtain ⟨cells,free,cap,held,vis⟩:=p
  simp only at hlen hfree
  cases hlk:lookC cells i g with
  | none =>
    refine spec_of [(0,_),(1,_)] [(0,_)] 50 Tryz.func124 R Tryz.ntmps124 R R R R (fun β W F=>?_)
    refine G.ent [(0,_)] [(0,_),(21,_),(22,_)] [21,22] (pool_open (by decide) (by decide) (by decide)) ⟨R,trivial⟩ R R R R<|G.seq<|G.rg<|K.box Y 103 _ g0 R R R R R R<|K.alloc Y 104 _ g0 t123 R R R R R<|K.as R R<|K.nil<|At.nr<|K.mv R R<|K.loadS Y _ g0 R R t119 R R R<|K.call0 [(.func 128,_),((.tmp 9),_),((.tmp 10),_)] (findNS' hlk hlen _ _ _ 0 21 22) (toFn_func (cf 128 R) R) g0 ⟨R,R,R,trivial⟩ ⟨R,R,trivial⟩ R R R R R R<|K.as R R<|K.nil<|At.ns<|G.seq<|G.rg<|K.mv R R<|K.bin g0 R R (pn_eql_none Tryz.underlying180) R<|K.nil<|At.next<|G.cond R (fun h1=>?_) (fun h1=>?_)
    ·
      refine G.seq<|G.rg<|K.alloc Y 107 _ g0 t123 R R R R R<|K.nil<|At.nr<|K.loadS Y _ g0 R R t123 R R R<|K.store Y _ g0 R R R t123 R R R R R<|K.as R R<|K.nil<|At.next<|G.ret<|At.over_ret<|At.ent [(0,_),(21,_),(22,_)] [(0,poolS 0 ⟨_,_,_,_,_⟩)] [] (pool_close _ _ _ _ _) ⟨R,R,R,trivial⟩ R R R R<|At.done Y [(.cell 4 123,.agg [_,_,_,_,_,_,_,_,_,_]),(.tmp 5,.c _)] R ⟨.st R R t123 R R,.tmp R,trivial⟩ (to':=[(0,_)]) ⟨R,trivial⟩ ?_ ?_ R R R (.inl R)
      · simp only [Pool.drop,hlk]
      · simp only [Pool.drop,hlk];rfl
    · cases h1
  | some c =>
    obtain ⟨n,rfl,hg,hl,rfl⟩:=lookC_some hlk
    refine spec_of [(0,_),(1,_)] [(0,_)] 50 Tryz.func124 R Tryz.ntmps124 R R R R (fun β W F=>?_)
    refine G.ent [(0,_)] [(0,_),(21,_),(22,_)] [21,22] (pool_open (by decide) (by decide) (by decide)) ⟨R,trivial⟩ R R R R<|G.seq<|G.rg<|K.box Y 103 _ g0 R R R R R R<|K.alloc Y 104 _ g0 t123 R R R R R<|K.as R R<|K.nil<|At.nr<|K.mv R R<|K.loadS Y _ g0 R R t119 R R R<|K.call0 [(.func 128,_),((.tmp 9),_),((.tmp 10),_)] (findSS' hg hl hlen _ _ _ 0 21 22) (toFn_func (cf 128 R) R) g0 ⟨R,R,R,trivial⟩ ⟨R,R,trivial⟩ R R R R R R<|K.as R R<|K.nil<|At.ns<|G.seq<|G.rg<|K.mv R R<|K.eqnilL (lrowV 21 183 fCS 12 _) n 0 (B:=false) (lrowV_is fCS_len (by decide)) hg g0 R R R R (pn_eql_some Tryz.underlying180) R<|K.nil<|At.next<|G.cond R (fun h1=>?_) (fun h1=>?_)
    · cases h1
    ·
      refine G.skip<|At.nr<|K.mv R R<|K.nilL (lrowV 21 183 fCS 12 _) n 0 (lrowV_is fCS_len (by decide)) hg g0 R R R R<|K.fieldL Y (lrowV 21 183 fCS 12 _) n 0 0 (lrowV_is fCS_len (by decide)) hg g0 R R t183 R R R R<|K.loadSL Y (lrowV 21 183 fCS 12 _) n 0 [_,_,_,_,_,_,_,_,_,_] [_,_,_,_,_,_,_,_,_,_] (lrowV_is fCS_len (by decide)) hg g0 R R t123 R R R R R<|K.alloc Y 108 _ g0 t123 R R R R R<|K.store Y _ g0 R R R t123 R R R R R<|K.nil<|At.nr<|K.mv R R<|K.mv R R<|K.nilL (lrowV 21 183 fCS 12 _) n 0 (lrowV_is fCS_len (by decide)) hg g0 R R R R<|K.fieldL Y (lrowV 21 183 fCS 12 _) n 0 10 (lrowV_is fCS_len (by decide)) hg g0 R R t183 R R R R<|K.load1L Y (lrowV 21 183 fCS 12 _) n 10 (lrowV_is fCS_len (by decide)) hg g0 R R t3 R R<|K.build Y [(1,_)] [_,_,_,_,_,_,_,_,_,_,_,_] [((.tmp 23),_)] g0 (AllE.spec ⟨R,trivial⟩) R R t183 R R<|K.nilL (lrowV 21 183 fCS 12 _) n 0 (lrowV_is fCS_len (by decide)) hg g0 R R R R<|K.storeL Y n 0 [_,_,_,_,_,_,_,_,_,_,_,_] ⟨zNodeS,c.gen,false⟩ fCS_len (by decide) hg g0 R R R t183 R R R R R R<|K.nil<|At.nr<|K.mv R R<|K.nilCheck g0 R R<|K.fieldAddr Y g0 R t208 R R<|K.load1 Y g0 R R t3 R R<|K.bin g0 R R (fun _=>R) R<|K.nilCheck g0 R R<|K.fieldAddr Y g0 R t208 R R<|K.store Y _ g0 R R R t3 R R R R R<|K.nil<|At.ns<|G.seq<|G.rg<|K.mv R R<|K.nilL (lrowV 21 183 fCS 12 _) n 0 (lrowV_is fCS_len (by decide)) (set_get hg) g0 R R R R<|K.fieldL Y (lrowV 21 183 fCS 12 _) n 0 10 (lrowV_is fCS_len (by decide)) (set_get hg) g0 R R t183 R R R R<|K.load1L Y (lrowV 21 183 fCS 12 _) n 10 (lrowV_is fCS_len (by decide)) (set_get hg) g0 R R t3 R R<|K.bin g0 R R (fun _=>R) R<|K.nil<|At.next<|G.cond R (fun h2=>?_) (fun h2=>?_)
      ·
        refine G.rd mixed<|K.mv R R<|K.mv R R<|K.nilCheck g0 R R<|K.fieldAddr Y g0 R t208 R R<|K.load1 Y g0 R R t161 R R<|K.fieldAddr Y g0 R t119 R R<|K.load1 Y g0 R R t3 R R<|K.buildL Y 145 [(n:Int)] [(0,_)] [((.tmp 44),_)] intE_len g0 (AllE.spec ⟨R,trivial⟩) R R Tryz.underlying161 t3 R R R R R R R R<|K.appendL 146 (lrowV 145 3 intE 1 _) _ el161 (lrowV_is intE_len (by decide)) intE_one g0 R R R R R (by simp only [List.length_cons,List.length_nil,maxLen];omega) (by simp only [List.length_cons,List.length_nil,maxLen];omega) R R R R R R<|K.nilCheck g0 R R<|K.fieldAddr Y g0 R t208 R R<|K.store Y _ g0 R R R t161 R R R R R<|K.nil<|And.intro (by kernel_rfl)<|At.nr<|K.loadS Y _ g0 R R t123 R R R<|K.store Y _ g0 R R R t123 R R R R R<|K.as R R<|K.nil<|At.next<|G.ret<|At.ent [(0,_),(21,_),(146,_)] [(0,poolS 0 ⟨_,_,_,_,_⟩)] [] (pool_close _ _ _ _ _) ⟨R,R,R,trivial⟩ R R R R<|At.done Y [(.cell 4 123,.agg [_,_,_,_,_,_,_,_,_,_]),(.tmp 5,.c _)] R ⟨.st R R t123 R R,.tmp R,trivial⟩ (to':=[(0,_)]) ⟨R,trivial⟩ ?_ ?_ R R R (.inl R)
        · simp [Pool.drop,hlk,Pool.hit,h2]
        · simp only [Pool.drop,hlk];rfl
      ·
        refine G.skip<|At.nr<|K.loadS Y _ g0 R R t123 R R R<|K.store Y _ g0 R R R t123 R R R R R<|K.as R R<|K.nil<|At.next<|G.ret<|At.ent [(0,_),(21,_),(22,_)] [(0,poolS 0 ⟨_,_,_,_,_⟩)] [] (pool_close _ _ _ _ _) ⟨R,R,R,trivial⟩ R R R R<|At.done Y [(.cell 4 123,.agg [_,_,_,_,_,_,_,_,_,_]),(.tmp 5,.c _)] R ⟨.st R R t123 R R,.tmp R,trivial⟩ (to':=[(0,_)]) ⟨R,trivial⟩ ?_ ?_ R R R (.inl R)
        · simp [Pool.drop,hlk,Pool.hit,h2]
        · simp only [Pool.drop,hlk];rfl
theorem putFS (p:Pool (TNode TSlot TSize)) (v:(TNode TSlot TSize)) (hh:p.held=p.cap):SCon Tryz.prog 161 [SV.p 0 0,.a (avS v)] [(0,poolS 0 p)] (.tup [.agg [.i 0,.i 0],.c (.b false)]) [(0,poolS 0 p)] []:=by
  obtain ⟨cells,free,cap,held,vis⟩:=p
  simp only at hh
  refine spec_of [(0,_),(1,_)] [(0,_)] 53 Tryz.func161 R Tryz.ntmps161 R R R R (fun β W F=>?_)
  refine G.ent [(0,_)] [(0,_),(21,_),(22,_)] [21,22] (pool_open (by decide) (by decide) (by decide)) ⟨R,trivial⟩ R R R R<|G.seq<|G.rg<|K.box Y 103 _ g0 R R R R R R<|K.alloc Y 104 _ g0 t119 R R R R R<|K.as R R<|K.nil<|At.ns<|G.seq<|G.rd mixed<|K.mv R R<|K.nilCheck g0 R R<|K.fieldAddr Y g0 R t208 R R<|K.load1 Y g0 R R t3 R R<|K.mv R R<|K.nilCheck g0 R R<|K.fieldAddr Y g0 R t208 R R<|K.load1 Y g0 R R t3 R R<|K.bin g0 R R (fun _=>R) R<|K.nil<|And.intro (by kernel_rfl)<|At.next<|G.cond R (fun h1=>?_) (fun h1=>?_)
  ·
    refine G.seq<|G.rg<|K.build Y [] [_,_] [] g0 (AllE.spec trivial) R R t119 R R<|K.store Y _ g0 R R R t119 R R R R R<|K.as R R<|K.nil<|At.next<|G.ret<|At.over_ret<|At.ent [(0,_),(21,_),(22,_)] [(0,poolS 0 ⟨_,_,_,_,_⟩)] [] (pool_close _ _ _ _ _) ⟨R,R,R,trivial⟩ R R R R<|At.done Y [(.cell 4 119,.agg [_,_]),(.tmp 5,.c _)] R ⟨.st R R t119 R R,.tmp R,trivial⟩ (to':=[(0,_)]) ⟨R,trivial⟩ ?_ ?_ R R R (.inl R)
    · rfl
    · rfl
  · exact absurd h1 (by simp [hh])
theorem putTS (p : Pool (TNode TSlot TSize)) (v : (TNode TSlot TSize)) (hh : p.held ≠ p.cap) (hlen : p.cells.length < 4294967296) (hfree : p.free.length < 4294967296) {n : Nat} {c : Cell (TNode TSlot TSize)} (hn : (p.next zNodeS).1 = n) (hg : (p.next zNodeS).2.cells[n]? = some c) : SCon Tryz.prog 161 [SV.p 0 0, .a (avS v)] [(0, poolS 0 p)]
    (.tup [.agg [.i n,.i (IntKind.i64.wrap (c.gen+1))],.c (.b true)]) [(0,poolS 0 ((p.next zNodeS).2.lay n c v))] []:=by
  obtain ⟨cells,free,cap,held,vis⟩:=p
  simp only at hh hlen hfree
  refine spec_of [(0,_),(1,_)] [(0,_)] 53 Tryz.func161 R Tryz.ntmps161 R R R R (fun β W F=>?_)
  refine G.ent [(0,_)] [(0,_),(21,_),(22,_)] [21,22] (pool_open (by decide) (by decide) (by decide)) ⟨R,trivial⟩ R R R R<|G.seq<|G.rg<|K.box Y 103 _ g0 R R R R R R<|K.alloc Y 104 _ g0 t119 R R R R R<|K.as R R<|K.nil<|At.ns<|G.seq<|G.rd mixed<|K.mv R R<|K.nilCheck g0 R R<|K.fieldAddr Y g0 R t208 R R<|K.load1 Y g0 R R t3 R R<|K.mv R R<|K.nilCheck g0 R R<|K.fieldAddr Y g0 R t208 R R<|K.load1 Y g0 R R t3 R R<|K.bin g0 R R (fun _=>R) R<|K.nil<|And.intro (by kernel_rfl)<|At.next<|G.cond R (fun h1=>?_) (fun h1=>?_)
  · exact absurd h1 (by simp [hh])
  ·
    refine G.skip<|At.ns<|G.ent [(0,_),(21,_),(22,_)] [(0,poolS 0 ⟨_,_,_,_,_⟩)] [] (pool_close _ _ _ _ _) ⟨R,R,R,trivial⟩ R R R R<|G.rg<|K.mv R R<|K.call0 [(.func 174,_),((.tmp 18),_)] (nextS _ hlen hfree) (toFn_func (cf 174 R) R) g0 ⟨R,R,trivial⟩ ⟨R,trivial⟩ R R R R R R<|K.as R R<|K.nil<|At.ns<|G.ent [(0,_)] [(0,_),(23,_),(24,_)] [23,24] (pool_open (by decide) (by decide) (by decide)) ⟨R,trivial⟩ R R R R<|G.rg<|K.mv R R<|K.nilCheck g0 R R<|K.fieldAddr Y g0 R t208 R R<|K.load1 Y g0 R R t206 R R<|K.mv R R<|K.idxL (lrowV 23 183 fCS 12 _) n (lrowV_is fCS_len (by decide)) hg hn g0 R R R Tryz.underlying206 el206.size_run R<|K.as R R<|K.nil<|At.nr<|K.mv R R<|K.mv R R<|K.loadS Y _ g0 R R t123 R R R<|K.nilL (lrowV 23 183 fCS 12 _) n 0 (lrowV_is fCS_len (by decide)) hg g0 R R R R<|K.fieldL Y (lrowV 23 183 fCS 12 _) n 0 0 (lrowV_is fCS_len (by decide)) hg g0 R R t183 R R R R<|K.storeL Y n 0 [_,_,_,_,_,_,_,_,_,_] { c with v:=v } fCS_len (by decide) hg g0 R R R t123 R R R R R R<|K.nilL (lrowV 23 183 fCS 12 _) n 0 (lrowV_is fCS_len (by decide)) (set_get hg) g0 R R R R<|K.fieldL Y (lrowV 23 183 fCS 12 _) n 0 11 (lrowV_is fCS_len (by decide)) (set_get hg) g0 R R t183 R R R R<|K.storeL Y n 11 [_] ⟨v,c.gen,true⟩ fCS_len (by decide) (set_get hg) g0 R R R t4 R R R R R R<|K.nil<|At.nr<|K.mv R R<|K.nilL (lrowV 23 183 fCS 12 _) n 0 (lrowV_is fCS_len (by decide)) (set_get (set_get hg)) g0 R R R R<|K.fieldL Y (lrowV 23 183 fCS 12 _) n 0 10 (lrowV_is fCS_len (by decide)) (set_get (set_get hg)) g0 R R t183 R R R R<|K.load1L Y (lrowV 23 183 fCS 12 _) n 10 (lrowV_is fCS_len (by decide)) (set_get (set_get hg)) g0 R R t3 R R<|K.bin g0 R R (fun _=>R) R<|K.nilL (lrowV 23 183 fCS 12 _) n 0 (lrowV_is fCS_len (by decide)) (set_get (set_get hg)) g0 R R R R<|K.fieldL Y (lrowV 23 183 fCS 12 _) n 0 10 (lrowV_is fCS_len (by decide)) (set_get (set_get hg)) g0 R R t183 R R R R<|K.storeL Y n 10 [_] ⟨v,IntKind.i64.wrap (c.gen+1),true⟩ fCS_len (by decide) (set_get (set_get hg)) g0 R R R t3 R R R R R R<|K.nil<|At.nr<|K.mv R R<|K.nilCheck g0 R R<|K.fieldAddr Y g0 R t208 R R<|K.load1 Y g0 R R t3 R R<|K.bin g0 R R (fun _=>R) R<|K.nilCheck g0 R R<|K.fieldAddr Y g0 R t208 R R<|K.store Y _ g0 R R R t3 R R R R R<|K.nil<|At.nr<|K.mv R R<|K.mv R R<|K.nilL (lrowV 23 183 fCS 12 _) n 0 (lrowV_is fCS_len (by decide)) (set_get (set_get (set_get hg))) g0 R R R R<|K.fieldL Y (lrowV 23 183 fCS 12 _) n 0 10 (lrowV_is fCS_len (by decide)) (set_get (set_get (set_get hg))) g0 R R t183 R R R R<|K.load1L Y (lrowV 23 183 fCS 12 _) n 10 (lrowV_is fCS_len (by decide)) (set_get (set_get (set_get hg))) g0 R R t3 R R<|K.build Y [(0,_),(1,_)] [_,_] [((.tmp 47),_),((.tmp 51),_)] g0 (AllE.spec ⟨R,R,trivial⟩) R R t119 R R<|K.store Y _ g0 R R R t119 R R R R R<|K.as R R<|K.nil<|At.next<|G.ret<|At.ent [(0,_),(23,_),(24,_)] [(0,poolS 0 ⟨_,_,_,_,_⟩)] [] (pool_close _ _ _ _ _) ⟨R,R,R,trivial⟩ R R R R<|At.done Y [(.cell 4 119,.agg [_,_]),(.tmp 5,.c _)] R ⟨.st R R t119 R R,.tmp R,trivial⟩ (to':=[(0,_)]) ⟨R,trivial⟩ ?_ ?_ R R R (.inl R)
    · simp [Pool.lay]
    · rw [hn];rfl
theorem newS_ (c:Int):SCon Tryz.prog 160 [SV.i c] [] (SV.p 107 0) [(107,poolS 107 ⟨[],[],capOf c,0,0⟩)] [107]:=by
  refine spec_of [(0,_)] [] 8 Tryz.func160 R Tryz.ntmps160 R R R R (fun β W F=>?_)
  refine G.seq<|G.rg<|K.as R R<|K.nil<|At.nr<|K.mv R R<|K.bi2 g0 R R (fun _ _=>R) R<|K.bi2 g0 R R (fun _ _=>R) R<|K.build Y [(2,_)] [_,_,_,_,_] [((.tmp 5),_)] g0 (AllE.spec ⟨R,trivial⟩) R R t208 R R<|K.box Y 107 _ g0 R R R R R R<|K.as R R<|K.nil<|At.next<|G.ret<|At.ent [(107,_)] [(107,poolS 107 ⟨_,_,_,_,_⟩)] [] (pool_nil _ _ _) ⟨R,trivial⟩ R R R R<|At.done Y [(.tmp 2,.c _)] R ⟨.tmp R,trivial⟩ (to':=[(107,_)]) ⟨R,trivial⟩ ?_ ?_ R R R (.inl R)
  · rfl
  · rfl
theorem newS (c:Int) (k:Nat):SCon Tryz.prog 160 [SV.i c] [] (SV.p k 0) [(k,poolS k ⟨[],[],capOf c,0,0⟩)] [k] :=
  SCon.ren (rn [(107,k)]) (newS_ c) trivial ⟨pool_ren R,trivial⟩ (by simp) (by intro j hj hn;simp [SV.ks,Av.ks,Cl.ks,pool] at hj hn;exact absurd hj hn)
theorem putS_ {N:Nat} (p:Pool (TNode TSlot TSize)) (v:(TNode TSlot TSize)) (h:PoolOk N p) (hN:N<4294967296):SCon Tryz.prog 161 [SV.p 0 0,.a (avS v)] [(0,poolS 0 p)] (.tup [.agg [.i (p.put zNodeS v).1.1.1,.i (p.put zNodeS v).1.1.2],.c (.b (p.put zNodeS v).1.2)]) [(0,poolS 0 (p.put zNodeS v).2)] []:=by
  by_cases hh:p.held=p.cap
  · have e:p.put zNodeS v=(((0,0),false),p):=by unfold Pool.put;rw [if_pos hh]
    rw [e];exact putFS p v hh
  · obtain ⟨h1,h2,c,hc⟩:=h.next (z:=zNodeS)
    have e:p.put zNodeS v=((((p.next zNodeS).1,IntKind.i64.wrap (c.gen+1)),true),(p.next zNodeS).2.lay (p.next zNodeS).1.toNat c v):=by unfold Pool.put;rw [if_neg hh,hc]
    have h3:(p.next zNodeS).1=((p.next zNodeS).1.toNat:Int):=by omega
    have:=putTS p v hh (Nat.lt_of_le_of_lt h.cells hN) (Nat.lt_of_le_of_lt h.free hN) h3 hc
    rw [← h3] at this
    rw [e];exact this
theorem putS {N:Nat} (p:Pool (TNode TSlot TSize)) (v:(TNode TSlot TSize)) (h:PoolOk N p) (hN:N<4294967296) (k:Nat):SCon Tryz.prog 161 [SV.p k 0,.a (avS v)] [(k,poolS k p)] (.tup [.agg [.i (p.put zNodeS v).1.1.1,.i (p.put zNodeS v).1.1.2],.c (.b (p.put zNodeS v).1.2)]) [(k,poolS k (p.put zNodeS v).2)] [] :=
  SCon.ren (rn [(0,k)]) (putS_ p v h hN) ⟨pool_ren R,trivial⟩ ⟨pool_ren R,trivial⟩ (by simp) (by simp)
theorem getS' {N:Nat} (p:Pool (TNode TSlot TSize)) (i g:Int) (h:PoolOk N p) (hN:N<4294967296) (k:Nat):SCon Tryz.prog 100 [SV.p k 0,SV.agg [.i i,.i g]] [(k,poolS k p)] (.tup [avS (p.get zNodeS i g).1.1,.c (.b (p.get zNodeS i g).1.2)]) [(k,poolS k (p.get zNodeS i g).2)] [] :=
  SCon.ren (rn [(0,k)]) (getS p i g (Nat.lt_of_le_of_lt h.cells hN) (Nat.lt_of_le_of_lt h.free hN)) ⟨pool_ren R,trivial⟩ ⟨pool_ren R,trivial⟩ (by simp) (by simp)
theorem setS' {N:Nat} (p:Pool (TNode TSlot TSize)) (i g:Int) (v:(TNode TSlot TSize)) (h:PoolOk N p) (hN:N<4294967296) (k:Nat):SCon Tryz.prog 162 [SV.p k 0,SV.agg [.i i,.i g],.a (avS v)] [(k,poolS k p)] (SV.b (p.set i g v).1) [(k,poolS k (p.set i g v).2)] [] :=
  SCon.ren (rn [(0,k)]) (setS p i g v (Nat.lt_of_le_of_lt h.cells hN) (Nat.lt_of_le_of_lt h.free hN)) ⟨pool_ren R,trivial⟩ ⟨pool_ren R,trivial⟩ (by simp) (by simp)
theorem dropS' {N:Nat} (p:Pool (TNode TSlot TSize)) (i g:Int) (h:PoolOk N p) (hN:N<4294967296) (k:Nat):SCon Tryz.prog 124 [SV.p k 0,SV.agg [.i i,.i g]] [(k,poolS k p)] (.tup [avS (p.drop zNodeS i g).1.1,.c (.b (p.drop zNodeS i g).1.2)]) [(k,poolS k (p.drop zNodeS i g).2)] [] :=
  SCon.ren (rn [(0,k)]) (dropS p i g (Nat.lt_of_le_of_lt h.cells hN) (Nat.lt_of_le_of_lt h.free hN)) ⟨pool_ren R,trivial⟩ ⟨pool_ren R,trivial⟩ (by simp) (by simp)
end Go.Proofs.YtgjbibabegabnaaGreat
namespace Go.Proofs.YtgjbibabegabnaaGreat
open Go Go.Proofs.YtgjbibabegabnaaGreat.Sx
abbrev plS (k:Nat) (p:Pool (TNode TSlot TSize)):Tok:=pl k 208 183 3 12 fCS p
theorem plgetS {p:Pool (TNode TSlot TSize)} {i g:Int} {x:(TNode TSlot TSize)×Bool} (h:pGet zNodeS p i g=some x) (k:Nat):SCon Tryz.prog 100 [SV.p k 0,SV.agg [.i i,.i g]] [(k,plS k p)] (.tup [avS x.1,.c (.b x.2)]) [(k,plS k p)] []:=by
 obtain ⟨hp,hx⟩:=grd h
 cases hx
 refine SCon.hide fun v=>?_
 obtain ⟨h1,v',h2⟩:=get_vis (p:=p) (z:=zNodeS) v i g
 refine ⟨v',?_⟩
 have:=getS' { p with vis:=v } i g (hp.ok v) (by decide) k
 rw [h1,h2] at this
 exact this
theorem plsetS {p:Pool (TNode TSlot TSize)} {i g:Int} {y:(TNode TSlot TSize)} {x:Bool×Pool (TNode TSlot TSize)} (h:pSet p i g y=some x) (k:Nat):SCon Tryz.prog 162 [SV.p k 0,SV.agg [.i i,.i g],.a (avS y)] [(k,plS k p)] (SV.b x.1) [(k,plS k x.2)] []:=by
 obtain ⟨hp,hx⟩:=grd h
 cases hx
 refine SCon.hide fun v=>?_
 obtain ⟨h1,v',h2⟩:=set_vis (p:=p) v i g y
 refine ⟨v',?_⟩
 have:=setS' { p with vis:=v } i g y (hp.ok v) (by decide) k
 rw [h1,h2] at this
 exact this
theorem plputS {p:Pool (TNode TSlot TSize)} {y:(TNode TSlot TSize)} {x:((Int×Int)×Bool)×Pool (TNode TSlot TSize)} (h:pPut zNodeS p y=some x) (k:Nat):SCon Tryz.prog 161 [SV.p k 0,.a (avS y)] [(k,plS k p)] (.tup [.agg [.i x.1.1.1,.i x.1.1.2],.c (.b x.1.2)]) [(k,plS k x.2)] []:=by
 obtain ⟨hp,hx⟩:=grd h
 cases hx
 refine SCon.hide fun v=>?_
 obtain ⟨h1,v',h2⟩:=put_vis (p:=p) (z:=zNodeS) v y
 refine ⟨v',?_⟩
 have:=putS { p with vis:=v } y (hp.ok v) (by decide) k
 rw [h1,h2] at this
 exact this
theorem pldropS {p:Pool (TNode TSlot TSize)} {i g:Int} {x:((TNode TSlot TSize)×Bool)×Pool (TNode TSlot TSize)} (h:pDrop zNodeS p i g=some x) (k:Nat):SCon Tryz.prog 124 [SV.p k 0,SV.agg [.i i,.i g]] [(k,plS k p)] (.tup [avS x.1.1,.c (.b x.1.2)]) [(k,plS k x.2)] []:=by
 obtain ⟨hp,hx⟩:=grd h
 cases hx
 refine SCon.hide fun v=>?_
 obtain ⟨h1,v',h2⟩:=drop_vis (p:=p) (z:=zNodeS) v i g
 refine ⟨v',?_⟩
 have:=dropS' { p with vis:=v } i g (hp.ok v) (by decide) k
 rw [h1,h2] at this
 exact this
theorem plnewS (c:Int) (k:Nat):SCon Tryz.prog 160 [SV.i c] [] (SV.p k 0) [(k,plS k ⟨[],[],capOf c,0,0⟩)] [k]:=SCon.hideNew (newS c k)
abbrev Tree_NewS_st (m40 m41:Nat):Prop:=∀ {k:Nat} {a0:Int} {r:TRef×Pool (TNode TSlot TSize)} (H0:Tree_New.f opsS k a0=some r),SCon Tryz.prog 135 [.a (.c (.v (.int .i64 a0)))] [] (.a (.c (.p m40 0))) [(m40,blk m40 [.p m41 0,.i r.1.index,.i r.1.gen] 121),(m41,plS m41 r.2)] [m40,m41]
theorem Tree_NewS_con0:Tree_NewS_st 40 41:=by
 intro k a0 r H0
 rw [Tree_New.f] at H0
 exact M.s Tryz.func135 Tryz.ntmps135 R fun β W F=>xg 8 [] R<|K.call0 [(.func 160,_),((.tmp 3),_)] (plnewS a0 100) (toFn_func (cf 160 R) R) g0 ⟨R,R,trivial⟩ trivial R R R R R R<|xk 6 [101] R<|by cases H0;exact ZR [(40,101),(41,100)]
theorem Tree_NewS_con (m40 m41:Nat) (hd:ndB [m40,m41]=true):Tree_NewS_st m40 m41:=fun H0=>cnB [(40,m40),(41,m41)] hd (Tree_NewS_con0 H0)
abbrev Tree_getS_st (m0 m1:Nat):Prop:=∀ {k:Nat} {p1:Pool (TNode TSlot TSize)} {a1:TRef} {ri0 rg0:Int} {r:TNode TSlot TSize} (H0:Tree_get.f opsS k p1 a1=some r),SCon Tryz.prog 70 [SV.p m0 0,.a (.agg ((eTRef a1).map .v))] [(m0,blk m0 [.p m1 0,.i ri0,.i rg0] 121),(m1,plS m1 p1)] (.a (.agg ((eTNode_TSlot_TSize r).map .v))) [(m0,blk m0 [.p m1 0,.i ri0,.i rg0] 121),(m1,plS m1 p1)] []
theorem Tree_getS_con0:Tree_getS_st 0 1:=by
 intro k p1 a1 ri0 rg0 r H0
 rw [Tree_get.f] at H0
 exact M.s Tryz.func70 Tryz.ntmps70 R fun β W F=>xg 14 [100,101] R<|M.c R H0 (fun h1 H0=>xg 8 [] R<|by cases H0;exact ZR []) (fun h1 H0=>xg 3 [] R<|M.b H0 fun x1 hx1 H0=>xg 6 [] R<|K.callR [(.func 100,_),((.tmp 15),_),((.tmp 16),_)] (plgetS hx1 1) (toFn_func (cf 100 R) R) g0 ⟨R,R,R,trivial⟩ ⟨R,trivial⟩ R R R<|xd 6 [102] R<|M.n<|xa 8 [] R<|by cases H0;exact ZR [])
theorem Tree_getS_con (m0 m1:Nat):Tree_getS_st m0 m1:=fun H0=>cnA [(0,m0),(1,m1)] (Tree_getS_con0 H0)
abbrev Tree_FindS_st (m0 m1:Nat):Prop:=∀ {k:Nat} {p1:Pool (TNode TSlot TSize)} {rt0:TRef} {a1:TSlot} {r:TSlot×Bool} (H0:Tree_Find.f opsS k p1 rt0 a1=some r),SCon Tryz.prog 44 [SV.p m0 0,.a (.agg ((eTSlot a1).map .v))] [(m0,blk m0 [.p m1 0,.i rt0.index,.i rt0.gen] 121),(m1,plS m1 p1)] (.tup [.agg ((eTSlot r.1).map .v),.c (.v (.bool r.2))]) [(m0,blk m0 [.p m1 0,.i rt0.index,.i rt0.gen] 121),(m1,plS m1 p1)] []
theorem Tree_FindS_con0:Tree_FindS_st 0 1:=by
 intro k p1 rt0 a1 r H0
 rw [Tree_Find.f] at H0
 exact M.s Tryz.func44 Tryz.ntmps44 R fun β W F=>xg 7 [100,101] R<|M.b H0 fun x1 H1 H0=>M.j (σ:={ v:Unit // x1=Sum.inr v }) (fun q=>[(4,.a (.c (.p 102 0)))]) (fun q=>[(102,blk 102 [.v (.int .i64 0),.v (.int .i64 0),.v (.bool false),.v (.int .i64 0)] 82),(1,plS 1 p1),(0,blk 0 [.p 1 0,.v (.int .i64 rt0.index),.v (.int .i64 rt0.gen)] 121)]) (xg 11 [103] R<|M.l (Tree_Find.l0 opsS k p1 a1) H1 (fun v1=>[(0,.a (.c (.p 0 0))),(3,.a (.c (.p 110 0))),(4,.a (.c (.p 111 0))),(6,.a (.c (.p 112 0)))]) (fun v1=>[(1,plS 1 p1),(0,blk 0 [.p 1 0,.v (.int .i64 rt0.index),.v (.int .i64 rt0.gen)] 121),(110,blk 110 [.v (.int .i64 a1.item.key),.v (.int .i64 a1.item.id),.v (.bool a1.eaten),.v (.int .i64 a1.time)] 82),(111,blk 111 [.v (.int .i64 0),.v (.int .i64 0),.v (.bool false),.v (.int .i64 0)] 82),(112,blk 112 [.v (.int .i64 v1.index),.v (.int .i64 v1.gen)] 119)]) [(110,100),(111,101),(112,103)] fun n0 v1 H1=>xg 8 [] R<|M.c R H1 (fun h1 H1=>xg 5 [] R<|M.b H1 fun x2 hx2 H1=>xg 3 [] R<|kR (Tree_getS_con 0 1 hx2) R<|xk 5 [113] R<|M.b H1 fun x3 hx3 H1=>xg 2 [] R<|K.mkIface Y g0 R (mkI Tryz.underlying82 R) R<|xk 2 [] R<|K.callR [((.tmp 21),_),((.tmp 23),_)] (shelf_Slot_Compare_con (k:=k) hx3) (toFn_invoke (cf 201 R) (me82_201) R) g0 ⟨R,R,trivial⟩ trivial R R R<|xk 10 [] R<|M.c R H1 (fun h2 H1=>xg 15 [] R<|by cases H1;exact have H0:=sum_l H0;by cases H0;exact ZR []) (fun h2 H1=>xg 15 [] R<|M.c R H1 (fun h3 H1=>xg 16 [114] R<|M.ag H1 [(112,114)]) (fun h3 H1=>xg 12 [115] R<|M.ag H1 [(112,115)]))) (fun h1 H1=>xg 4 [] R<|M.jd ⟨(),oi H1⟩ [(102,111)]))<|by rintro ⟨w1,rfl⟩;exact have H0:=sum_r H0;xg 13 [116] R<|by cases H0;exact ZR []
theorem Tree_FindS_con (m0 m1:Nat):Tree_FindS_st m0 m1:=fun H0=>cnA [(0,m0),(1,m1)] (Tree_FindS_con0 H0)
abbrev Tree_weightS_st (m0 m1:Nat):Prop:=∀ {k:Nat} {p1:Pool (TNode TSlot TSize)} {a1:TRef} {ri0 rg0:Int} {r:Int} (H0:Tree_weight.f opsS k p1 a1=some r),SCon Tryz.prog 130 [SV.p m0 0,.a (.agg ((eTRef a1).map .v))] [(m0,blk m0 [.p m1 0,.i ri0,.i rg0] 121),(m1,plS m1 p1)] (.a (.c (.v (.int .i64 r)))) [(m0,blk m0 [.p m1 0,.i ri0,.i rg0] 121),(m1,plS m1 p1)] []
theorem Tree_weightS_con0:Tree_weightS_st 0 1:=by
 intro k p1 a1 ri0 rg0 r H0
 rw [Tree_weight.f] at H0
 exact M.s Tryz.func130 Tryz.ntmps130 R fun β W F=>xg 7 [100] R<|M.b H0 fun x1 hx1 H0=>xg 3 [] R<|kR (Tree_getS_con 0 1 hx1) R<|xk 6 [] R<|by cases H0;exact ZR []
theorem Tree_weightS_con (m0 m1:Nat):Tree_weightS_st m0 m1:=fun H0=>cnA [(0,m0),(1,m1)] (Tree_weightS_con0 H0)
abbrev Tree_layS_st (m0 m1:Nat):Prop:=∀ {k:Nat} {p1:Pool (TNode TSlot TSize)} {a1:TRef} {a2:TRef} {a3:TRef} {ri0 rg0:Int} {r:TRef×Pool (TNode TSlot TSize)} (H0:Tree_lay.f opsS k p1 a1 a2 a3=some r),SCon Tryz.prog 147 [SV.p m0 0,.a (.agg ((eTRef a1).map .v)),.a (.agg ((eTRef a2).map .v)),.a (.agg ((eTRef a3).map .v))] [(m0,blk m0 [.p m1 0,.i ri0,.i rg0] 121),(m1,plS m1 p1)] (.a (.agg ((eTRef r.1).map .v))) [(m0,blk m0 [.p m1 0,.i ri0,.i rg0] 121),(m1,plS m1 r.2)] []
theorem Tree_layS_con0:Tree_layS_st 0 1:=by
 intro k p1 a1 a2 a3 ri0 rg0 r H0
 rw [Tree_lay.f] at H0
 exact M.s Tryz.func147 Tryz.ntmps147 R fun β W F=>xg 9 [100,101,102,103] R<|M.b H0 fun x1 hx1 H0=>xg 3 [] R<|kR (Tree_getS_con 0 1 hx1) R<|xk 5 [104] R<|M.b H0 fun x2 hx2 H0=>M.b H0 fun x3 hx3 H0=>xg 3 [] R<|kR (Tree_getS_con 0 1 hx2) R<|xd 2 [] R<|kR (Tree_getS_con 0 1 hx3) R<|xd 4 [105,106] R<|M.n<|xa 9 [] R<|M.n<|xa 14 [] R<|M.b H0 fun x4 hx4 H0=>M.b H0 fun x5 hx5 H0=>M.b H0 fun x6 hx6 H0=>xg 3 [] R<|K.mkIface Y g0 R (mkI Tryz.underlying85 R) R<|xd 2 [] R<|K.mkIface Y g0 R (mkI Tryz.underlying82 R) R<|K.callR [((.tmp 37),_)] (shelf_Slot_Sum_con (k:=k) hx4) (toFn_invoke (cf 202 R) (me82_202) R) g0 ⟨R,trivial⟩ trivial R R R<|K.callR [((.tmp 34),_),((.tmp 38),_)] (shelf_Size_Plus_con (k:=k) hx5) (toFn_invoke (cf 203 R) (me85_203) R) g0 ⟨R,R,trivial⟩ trivial R R R<|K.mkIface Y g0 R (mkI Tryz.underlying85 R) R<|xd 2 [] R<|K.callR [((.tmp 40),_),((.tmp 42),_)] (shelf_Size_Plus_con (k:=k) hx6) (toFn_invoke (cf 203 R) (me85_203) R) g0 ⟨R,R,trivial⟩ trivial R R R<|xd 2 [] R<|M.n<|xa 2 [] R<|M.b H0 fun x7 hx7 H0=>xg 7 [] R<|K.call0 [(.func 162,_),((.tmp 48),_),((.tmp 49),_),((.tmp 50),_)] (plsetS hx7 1) (toFn_func (cf 162 R) R) g0 ⟨R,R,R,R,trivial⟩ ⟨R,trivial⟩ R R R R R R<|M.n<|xa 8 [] R<|by cases H0;exact ZR []
theorem Tree_layS_con (m0 m1:Nat):Tree_layS_st m0 m1:=fun H0=>cnA [(0,m0),(1,m1)] (Tree_layS_con0 H0)
abbrev Tree_turnRightS_st (m0 m1:Nat):Prop:=∀ {k:Nat} {p1:Pool (TNode TSlot TSize)} {a1:TRef} {ri0 rg0:Int} {r:TRef×Pool (TNode TSlot TSize)} (H0:Tree_turnRight.f opsS k p1 a1=some r),SCon Tryz.prog 167 [SV.p m0 0,.a (.agg ((eTRef a1).map .v))] [(m0,blk m0 [.p m1 0,.i ri0,.i rg0] 121),(m1,plS m1 p1)] (.a (.agg ((eTRef r.1).map .v))) [(m0,blk m0 [.p m1 0,.i ri0,.i rg0] 121),(m1,plS m1 r.2)] []
theorem Tree_turnRightS_con0:Tree_turnRightS_st 0 1:=by
 intro k p1 a1 ri0 rg0 r H0
 rw [Tree_turnRight.f] at H0
 exact M.s Tryz.func167 Tryz.ntmps167 R fun β W F=>xg 7 [100,101] R<|M.b H0 fun x1 hx1 H0=>xg 3 [] R<|kR (Tree_getS_con 0 1 hx1) R<|xk 5 [102] R<|M.b H0 fun x2 hx2 H0=>xg 4 [] R<|kR (Tree_getS_con 0 1 hx2) R<|xk 5 [103] R<|M.b H0 fun x3 hx3 H0=>xg 7 [] R<|k0 (Tree_layS_con 0 1 hx3) R<|xk 3 [] R<|M.b H0 fun x4 hx4 H0=>xg 7 [] R<|k0 (Tree_layS_con 0 1 hx4) R<|xk 4 [] R<|by cases H0;exact ZR []
theorem Tree_turnRightS_con (m0 m1:Nat):Tree_turnRightS_st m0 m1:=fun H0=>cnA [(0,m0),(1,m1)] (Tree_turnRightS_con0 H0)
abbrev Tree_turnLeftS_st (m0 m1:Nat):Prop:=∀ {k:Nat} {p1:Pool (TNode TSlot TSize)} {a1:TRef} {ri0 rg0:Int} {r:TRef×Pool (TNode TSlot TSize)} (H0:Tree_turnLeft.f opsS k p1 a1=some r),SCon Tryz.prog 168 [SV.p m0 0,.a (.agg ((eTRef a1).map .v))] [(m0,blk m0 [.p m1 0,.i ri0,.i rg0] 121),(m1,plS m1 p1)] (.a (.agg ((eTRef r.1).map .v))) [(m0,blk m0 [.p m1 0,.i ri0,.i rg0] 121),(m1,plS m1 r.2)] []
theorem Tree_turnLeftS_con0:Tree_turnLeftS_st 0 1:=by
 intro k p1 a1 ri0 rg0 r H0
 rw [Tree_turnLeft.f] at H0
 exact M.s Tryz.func168 Tryz.ntmps168 R fun β W F=>xg 7 [100,101] R<|M.b H0 fun x1 hx1 H0=>xg 3 [] R<|kR (Tree_getS_con 0 1 hx1) R<|xk 5 [102] R<|M.b H0 fun x2 hx2 H0=>xg 4 [] R<|kR (Tree_getS_con 0 1 hx2) R<|xk 5 [103] R<|M.b H0 fun x3 hx3 H0=>xg 7 [] R<|k0 (Tree_layS_con 0 1 hx3) R<|xk 3 [] R<|M.b H0 fun x4 hx4 H0=>xg 7 [] R<|k0 (Tree_layS_con 0 1 hx4) R<|xk 4 [] R<|by cases H0;exact ZR []
theorem Tree_turnLeftS_con (m0 m1:Nat):Tree_turnLeftS_st m0 m1:=fun H0=>cnA [(0,m0),(1,m1)] (Tree_turnLeftS_con0 H0)
abbrev Tree_balanceS_st (m0 m1:Nat):Prop:=∀ {k:Nat} {p1:Pool (TNode TSlot TSize)} {a1:TRef} {ri0 rg0:Int} {r:TRef×Pool (TNode TSlot TSize)} (H0:Tree_balance.f opsS k p1 a1=some r),SCon Tryz.prog 146 [SV.p m0 0,.a (.agg ((eTRef a1).map .v))] [(m0,blk m0 [.p m1 0,.i ri0,.i rg0] 121),(m1,plS m1 p1)] (.a (.agg ((eTRef r.1).map .v))) [(m0,blk m0 [.p m1 0,.i ri0,.i rg0] 121),(m1,plS m1 r.2)] []
theorem Tree_balanceS_con0:Tree_balanceS_st 0 1:=by
 intro k p1 a1 ri0 rg0 r H0
 rw [Tree_balance.f] at H0
 exact M.s Tryz.func146 Tryz.ntmps146 R fun β W F=>xg 7 [100,101] R<|M.b H0 fun x1 hx1 H0=>xg 3 [] R<|kR (Tree_getS_con 0 1 hx1) R<|xk 5 [102] R<|M.b H0 fun x2 hx2 H0=>M.b H0 fun x3 hx3 H0=>xg 4 [] R<|kR (Tree_weightS_con 0 1 hx2) R<|xd 3 [] R<|kR (Tree_weightS_con 0 1 hx3) R<|xd 2 [] R<|M.n<|xa 12 [] R<|M.c R H0 (fun h1 H0=>xg 1 [] R<|M.b H0 fun x4 hx4 H0=>xg 4 [] R<|kR (Tree_getS_con 0 1 hx4) R<|xk 6 [103] R<|M.b H0 fun x5 hx5 H0=>M.b H0 fun x6 hx6 H0=>xg 4 [] R<|kR (Tree_weightS_con 0 1 hx5) R<|xd 3 [] R<|kR (Tree_weightS_con 0 1 hx6) R<|xd 2 [] R<|M.n<|xa 1 [] R<|M.c R H0 (fun h2 H0=>M.b H0 fun x7 hx7 H0=>M.b H0 fun x8 hx8 H0=>xg 8 [] R<|k0 (Tree_turnRightS_con 0 1 hx7) R<|k0 (Tree_layS_con 0 1 hx8) R<|M.n<|xa 2 [] R<|M.b H0 fun x9 hx9 H0=>xg 3 [] R<|k0 (Tree_turnLeftS_con 0 1 hx9) R<|xk 6 [] R<|by cases H0;exact ZR []) (fun h2 H0=>xg 3 [] R<|M.b H0 fun x10 hx10 H0=>xg 3 [] R<|k0 (Tree_turnLeftS_con 0 1 hx10) R<|xk 6 [] R<|by cases H0;exact ZR [])) (fun h1 H0=>xg 9 [] R<|M.c R H0 (fun h3 H0=>xg 1 [] R<|M.b H0 fun x11 hx11 H0=>xg 4 [] R<|kR (Tree_getS_con 0 1 hx11) R<|xk 6 [104] R<|M.b H0 fun x12 hx12 H0=>M.b H0 fun x13 hx13 H0=>xg 4 [] R<|kR (Tree_weightS_con 0 1 hx12) R<|xd 3 [] R<|kR (Tree_weightS_con 0 1 hx13) R<|xd 2 [] R<|M.n<|xa 1 [] R<|M.c R H0 (fun h4 H0=>M.b H0 fun x14 hx14 H0=>M.b H0 fun x15 hx15 H0=>xg 6 [] R<|k0 (Tree_turnLeftS_con 0 1 hx14) R<|xd 2 [] R<|k0 (Tree_layS_con 0 1 hx15) R<|M.n<|xa 2 [] R<|M.b H0 fun x16 hx16 H0=>xg 3 [] R<|k0 (Tree_turnRightS_con 0 1 hx16) R<|xk 6 [] R<|by cases H0;exact ZR []) (fun h4 H0=>xg 3 [] R<|M.b H0 fun x17 hx17 H0=>xg 3 [] R<|k0 (Tree_turnRightS_con 0 1 hx17) R<|xk 6 [] R<|by cases H0;exact ZR [])) (fun h3 H0=>xg 10 [] R<|by cases H0;exact ZR []))
theorem Tree_balanceS_con (m0 m1:Nat):Tree_balanceS_st m0 m1:=fun H0=>cnA [(0,m0),(1,m1)] (Tree_balanceS_con0 H0)
abbrev Tree_linkS_st (k n m0 m1:Nat):Prop:=∀ {p1:Pool (TNode TSlot TSize)} {a1:TRef} {a2:TRef} {a3:TRef} {ri0 rg0:Int} {r:TRef×Pool (TNode TSlot TSize)} (H0:Tree_link.r opsS k n p1 a1 a2 a3=some r),SCon Tryz.prog 123 [SV.p m0 0,.a (.agg ((eTRef a1).map .v)),.a (.agg ((eTRef a2).map .v)),.a (.agg ((eTRef a3).map .v))] [(m0,blk m0 [.p m1 0,.i ri0,.i rg0] 121),(m1,plS m1 p1)] (.a (.agg ((eTRef r.1).map .v))) [(m0,blk m0 [.p m1 0,.i ri0,.i rg0] 121),(m1,plS m1 r.2)] []
theorem Tree_linkS_con0 {k:Nat} : ∀ {n:Nat},Tree_linkS_st k n 0 1:=by
 intro n
 induction n with
 | zero => intro p1 a1 a2 a3 ri0 rg0 r H0; exact absurd H0 (by simp [Tree_link.r])
 | succ n ih =>
  intro p1 a1 a2 a3 ri0 rg0 r H0
  rw [Tree_link.r] at H0
  exact M.s Tryz.func123 Tryz.ntmps123 R fun β W F=>xg 9 [100,101,102,103] R<|M.b H0 fun x1 hx1 H0=>M.b H0 fun x2 hx2 H0=>xg 3 [] R<|kR (Tree_weightS_con 0 1 hx1) R<|xd 2 [] R<|kR (Tree_weightS_con 0 1 hx2) R<|xd 2 [] R<|M.n<|xa 12 [] R<|M.c R H0 (fun h1 H0=>xg 1 [] R<|M.b H0 fun x3 hx3 H0=>xg 3 [] R<|kR (Tree_getS_con 0 1 hx3) R<|xk 5 [104] R<|M.b H0 fun x4 hx4 H0=>M.b H0 fun x5 hx5 H0=>M.b H0 fun x6 hx6 H0=>xg 9 [] R<|k0 (ih hx4) R<|xd 2 [] R<|k0 (Tree_layS_con 0 1 hx5) R<|k0 (Tree_balanceS_con 0 1 hx6) R<|xd 1 [] R<|M.n<|xa 4 [] R<|by cases H0;exact ZR []) (fun h1 H0=>xg 9 [] R<|M.c R H0 (fun h2 H0=>xg 1 [] R<|M.b H0 fun x7 hx7 H0=>xg 3 [] R<|kR (Tree_getS_con 0 1 hx7) R<|xk 5 [105] R<|M.b H0 fun x8 hx8 H0=>M.b H0 fun x9 hx9 H0=>M.b H0 fun x10 hx10 H0=>xg 11 [] R<|k0 (ih hx8) R<|k0 (Tree_layS_con 0 1 hx9) R<|k0 (Tree_balanceS_con 0 1 hx10) R<|xd 1 [] R<|M.n<|xa 4 [] R<|by cases H0;exact ZR []) (fun h2 H0=>xg 4 [] R<|M.b H0 fun x11 hx11 H0=>xg 5 [] R<|k0 (Tree_layS_con 0 1 hx11) R<|xk 4 [] R<|by cases H0;exact ZR []))
theorem Tree_linkS_con {k n:Nat} (m0 m1:Nat):Tree_linkS_st k n m0 m1:=fun H0=>cnA [(0,m0),(1,m1)] (Tree_linkS_con0 H0)
abbrev Tree_putS_st (k n m0 m1:Nat):Prop:=∀ {p1:Pool (TNode TSlot TSize)} {a1:TRef} {a2:TSlot} {ri0 rg0:Int} {r:TRef×Bool×Pool (TNode TSlot TSize)} (H0:Tree_put.r opsS k n p1 a1 a2=some r),SCon Tryz.prog 136 [SV.p m0 0,.a (.agg ((eTRef a1).map .v)),.a (.agg ((eTSlot a2).map .v))] [(m0,blk m0 [.p m1 0,.i ri0,.i rg0] 121),(m1,plS m1 p1)] (.tup [.agg ((eTRef r.1).map .v),.c (.v (.bool r.2.1))]) [(m0,blk m0 [.p m1 0,.i ri0,.i rg0] 121),(m1,plS m1 r.2.2)] []
set_option maxHeartbeats 4000000 in
theorem Tree_putS_con0 {k:Nat} : ∀ {n:Nat},Tree_putS_st k n 0 1:=by
 intro n
 induction n with
 | zero => intro p1 a1 a2 ri0 rg0 r H0; exact absurd H0 (by simp [Tree_put.r])
 | succ n ih =>
  intro p1 a1 a2 ri0 rg0 r H0
  rw [Tree_put.r] at H0
  exact M.s Tryz.func136 Tryz.ntmps136 R fun β W F=>xg 16 [100,101,102] R<|M.c R H0 (fun h1 H0=>xg 1 [] R<|M.b H0 fun x1 hx1 H0=>M.b H0 fun x2 hx2 H0=>xg 7 [] R<|K.mkIface Y g0 R (mkI Tryz.underlying82 R) R<|K.callR [((.tmp 26),_)] (shelf_Slot_Sum_con (k:=k) hx1) (toFn_invoke (cf 202 R) (me82_202) R) g0 ⟨R,trivial⟩ trivial R R R<|xd 1 [] R<|K.call0 [(.func 161,_),((.tmp 23),_),((.tmp 28),_)] (plputS hx2 1) (toFn_func (cf 161 R) R) g0 ⟨R,R,R,trivial⟩ ⟨R,trivial⟩ R R R R R R<|xd 6 [103] R<|M.n<|xa 11 [] R<|by cases H0;exact ZR []) (fun h1 H0=>xg 3 [] R<|M.b H0 fun x3 hx3 H0=>xg 3 [] R<|kR (Tree_getS_con 0 1 hx3) R<|xk 5 [104] R<|M.b H0 fun x4 hx4 H0=>xg 2 [] R<|K.mkIface Y g0 R (mkI Tryz.underlying82 R) R<|xk 2 [] R<|K.callR [((.tmp 38),_),((.tmp 40),_)] (shelf_Slot_Compare_con (k:=k) hx4) (toFn_invoke (cf 201 R) (me82_201) R) g0 ⟨R,R,trivial⟩ trivial R R R<|xk 12 [] R<|M.c R H0 (fun h2 H0=>xg 1 [] R<|M.b H0 fun x5 hx5 H0=>xg 5 [] R<|k0 (ih hx5) R<|xk 15 [105] R<|M.c R H0 (fun h3 H0=>xg 11 [] R<|by cases H0;exact ZR []) (fun h3 H0=>xg 3 [] R<|M.b H0 fun x6 hx6 H0=>xg 6 [] R<|k0 (Tree_linkS_con 0 1 hx6) R<|xk 7 [] R<|by cases H0;exact ZR [])) (fun h2 H0=>xg 7 [] R<|M.c R H0 (fun h4 H0=>xg 1 [] R<|M.b H0 fun x7 hx7 H0=>xg 5 [] R<|k0 (ih hx7) R<|xk 15 [106] R<|M.c R H0 (fun h5 H0=>xg 11 [] R<|by cases H0;exact ZR []) (fun h5 H0=>xg 3 [] R<|M.b H0 fun x8 hx8 H0=>xg 6 [] R<|k0 (Tree_linkS_con 0 1 hx8) R<|xk 7 [] R<|by cases H0;exact ZR [])) (fun h4 H0=>xg 11 [] R<|M.b H0 fun x9 hx9 H0=>xg 7 [] R<|K.call0 [(.func 162,_),((.tmp 87),_),((.tmp 88),_),((.tmp 89),_)] (plsetS hx9 1) (toFn_func (cf 162 R) R) g0 ⟨R,R,R,R,trivial⟩ ⟨R,trivial⟩ R R R R R R<|M.n<|xa 2 [] R<|M.b H0 fun x10 hx10 H0=>xg 7 [] R<|k0 (Tree_layS_con 0 1 hx10) R<|xk 5 [] R<|by cases H0;exact ZR [])))
theorem Tree_putS_con {k n:Nat} (m0 m1:Nat):Tree_putS_st k n m0 m1:=fun H0=>cnA [(0,m0),(1,m1)] (Tree_putS_con0 H0)
abbrev Tree_PutS_st (m0 m1:Nat):Prop:=∀ {k:Nat} {p1:Pool (TNode TSlot TSize)} {rt0:TRef} {a1:TSlot} {r:Bool×TRef×Pool (TNode TSlot TSize)} (H0:Tree_Put.f opsS k p1 rt0 a1=some r),SCon Tryz.prog 111 [SV.p m0 0,.a (.agg ((eTSlot a1).map .v))] [(m0,blk m0 [.p m1 0,.i rt0.index,.i rt0.gen] 121),(m1,plS m1 p1)] (.a (.c (.v (.bool r.1)))) [(m0,blk m0 [.p m1 0,.i r.2.1.index,.i r.2.1.gen] 121),(m1,plS m1 r.2.2)] []
theorem Tree_PutS_con0:Tree_PutS_st 0 1:=by
 intro k p1 rt0 a1 r H0
 rw [Tree_Put.f] at H0
 exact M.s Tryz.func111 Tryz.ntmps111 R fun β W F=>xg 7 [100] R<|M.b H0 fun x1 hx1 H0=>xg 7 [] R<|k0 (Tree_putS_con 0 1 hx1) R<|xd 6 [101] R<|M.n<|xa 7 [] R<|M.c R H0 (fun h1 H0=>xg 15 [] R<|by cases H0;exact ZR []) (fun h1 H0=>xg 9 [] R<|by cases H0;exact ZR [])
theorem Tree_PutS_con (m0 m1:Nat):Tree_PutS_st m0 m1:=fun H0=>cnA [(0,m0),(1,m1)] (Tree_PutS_con0 H0)
abbrev Tree_lastS_st (k n m0 m1:Nat):Prop:=∀ {p1:Pool (TNode TSlot TSize)} {a1:TRef} {ri0 rg0:Int} {r:TRef×TRef×Pool (TNode TSlot TSize)} (H0:Tree_last.r opsS k n p1 a1=some r),SCon Tryz.prog 148 [SV.p m0 0,.a (.agg ((eTRef a1).map .v))] [(m0,blk m0 [.p m1 0,.i ri0,.i rg0] 121),(m1,plS m1 p1)] (.tup [.agg ((eTRef r.1).map .v),.agg ((eTRef r.2.1).map .v)]) [(m0,blk m0 [.p m1 0,.i ri0,.i rg0] 121),(m1,plS m1 r.2.2)] []
theorem Tree_lastS_con0 {k:Nat} : ∀ {n:Nat},Tree_lastS_st k n 0 1:=by
 intro n
 induction n with
 | zero => intro p1 a1 ri0 rg0 r H0; exact absurd H0 (by simp [Tree_last.r])
 | succ n ih =>
  intro p1 a1 ri0 rg0 r H0
  rw [Tree_last.r] at H0
  exact M.s Tryz.func148 Tryz.ntmps148 R fun β W F=>xg 8 [100,101,102] R<|M.b H0 fun x1 hx1 H0=>xg 3 [] R<|kR (Tree_getS_con 0 1 hx1) R<|xk 13 [103] R<|M.c R H0 (fun h1 H0=>xg 7 [] R<|M.n<|xa 3 [] R<|by cases H0;exact ZR []) (fun h1 H0=>xg 3 [] R<|M.b H0 fun x2 hx2 H0=>xg 4 [] R<|k0 (ih hx2) R<|xk 10 [104,105] R<|M.b H0 fun x3 hx3 H0=>xg 6 [] R<|k0 (Tree_linkS_con 0 1 hx3) R<|xd 3 [] R<|M.n<|xa 2 [] R<|by cases H0;exact ZR [])
theorem Tree_lastS_con {k n:Nat} (m0 m1:Nat):Tree_lastS_st k n m0 m1:=fun H0=>cnA [(0,m0),(1,m1)] (Tree_lastS_con0 H0)
abbrev Tree_mergeS_st (m0 m1:Nat):Prop:=∀ {k:Nat} {p1:Pool (TNode TSlot TSize)} {a1:TRef} {a2:TRef} {ri0 rg0:Int} {r:TRef×Pool (TNode TSlot TSize)} (H0:Tree_merge.f opsS k p1 a1 a2=some r),SCon Tryz.prog 125 [SV.p m0 0,.a (.agg ((eTRef a1).map .v)),.a (.agg ((eTRef a2).map .v))] [(m0,blk m0 [.p m1 0,.i ri0,.i rg0] 121),(m1,plS m1 p1)] (.a (.agg ((eTRef r.1).map .v))) [(m0,blk m0 [.p m1 0,.i ri0,.i rg0] 121),(m1,plS m1 r.2)] []
theorem Tree_mergeS_con0:Tree_mergeS_st 0 1:=by
 intro k p1 a1 a2 ri0 rg0 r H0
 rw [Tree_merge.f] at H0
 exact M.s Tryz.func125 Tryz.ntmps125 R fun β W F=>xg 17 [100,101,102] R<|M.c R H0 (fun h1 H0=>xg 9 [] R<|by cases H0;exact ZR []) (fun h1 H0=>xg 8 [] R<|M.c R H0 (fun h2 H0=>xg 9 [] R<|by cases H0;exact ZR []) (fun h2 H0=>xg 4 [] R<|M.b H0 fun x1 hx1 H0=>xg 3 [] R<|k0 (Tree_lastS_con 0 1 hx1) R<|xk 10 [103,104] R<|M.b H0 fun x2 hx2 H0=>xg 5 [] R<|k0 (Tree_linkS_con 0 1 hx2) R<|xk 4 [] R<|by cases H0;exact ZR []))
theorem Tree_mergeS_con (m0 m1:Nat):Tree_mergeS_st m0 m1:=fun H0=>cnA [(0,m0),(1,m1)] (Tree_mergeS_con0 H0)
abbrev Tree_dropS_st (k n m0 m1:Nat):Prop:=∀ {p1:Pool (TNode TSlot TSize)} {a1:TRef} {a2:TSlot} {ri0 rg0:Int} {r:TRef×TSlot×Bool×Pool (TNode TSlot TSize)} (H0:Tree_drop.r opsS k n p1 a1 a2=some r),SCon Tryz.prog 91 [SV.p m0 0,.a (.agg ((eTRef a1).map .v)),.a (.agg ((eTSlot a2).map .v))] [(m0,blk m0 [.p m1 0,.i ri0,.i rg0] 121),(m1,plS m1 p1)] (.tup [.agg ((eTRef r.1).map .v),.agg ((eTSlot r.2.1).map .v),.c (.v (.bool r.2.2.1))]) [(m0,blk m0 [.p m1 0,.i ri0,.i rg0] 121),(m1,plS m1 r.2.2.2)] []
set_option maxHeartbeats 4000000 in
theorem Tree_dropS_con0 {k:Nat} : ∀ {n:Nat},Tree_dropS_st k n 0 1:=by
 intro n
 induction n with
 | zero => intro p1 a1 a2 ri0 rg0 r H0; exact absurd H0 (by simp [Tree_drop.r])
 | succ n ih =>
  intro p1 a1 a2 ri0 rg0 r H0
  rw [Tree_drop.r] at H0
  exact M.s Tryz.func91 Tryz.ntmps91 R fun β W F=>xg 17 [100,101,102,103] R<|M.c R H0 (fun h1 H0=>xg 12 [104] R<|M.n<|xa 3 [] R<|by cases H0;exact ZR []) (fun h1 H0=>xg 3 [] R<|M.b H0 fun x1 hx1 H0=>xg 3 [] R<|kR (Tree_getS_con 0 1 hx1) R<|xk 5 [105] R<|M.b H0 fun x2 hx2 H0=>xg 2 [] R<|K.mkIface Y g0 R (mkI Tryz.underlying82 R) R<|xk 2 [] R<|K.callR [((.tmp 27),_),((.tmp 29),_)] (shelf_Slot_Compare_con (k:=k) hx2) (toFn_invoke (cf 201 R) (me82_201) R) g0 ⟨R,R,trivial⟩ trivial R R R<|xk 12 [] R<|M.c R H0 (fun h2 H0=>xg 1 [] R<|M.b H0 fun x3 hx3 H0=>xg 5 [] R<|k0 (ih hx3) R<|xk 18 [106,107] R<|M.c R H0 (fun h3 H0=>xg 7 [] R<|M.n<|xa 5 [] R<|by cases H0;exact ZR []) (fun h3 H0=>xg 3 [] R<|M.b H0 fun x4 hx4 H0=>xg 6 [] R<|k0 (Tree_linkS_con 0 1 hx4) R<|xd 4 [] R<|M.n<|xa 4 [] R<|by cases H0;exact ZR [])) (fun h2 H0=>xg 7 [] R<|M.c R H0 (fun h4 H0=>xg 1 [] R<|M.b H0 fun x5 hx5 H0=>xg 5 [] R<|k0 (ih hx5) R<|xk 18 [108,109] R<|M.c R H0 (fun h5 H0=>xg 7 [] R<|M.n<|xa 5 [] R<|by cases H0;exact ZR []) (fun h5 H0=>xg 3 [] R<|M.b H0 fun x6 hx6 H0=>xg 6 [] R<|k0 (Tree_linkS_con 0 1 hx6) R<|xd 4 [] R<|M.n<|xa 4 [] R<|by cases H0;exact ZR [])) (fun h4 H0=>xg 4 [] R<|M.b H0 fun x7 hx7 H0=>xg 6 [] R<|K.call0 [(.func 124,_),((.tmp 80),_),((.tmp 81),_)] (pldropS hx7 1) (toFn_func (cf 124 R) R) g0 ⟨R,R,R,trivial⟩ ⟨R,trivial⟩ R R R R R R<|M.n<|xa 2 [] R<|M.b H0 fun x8 hx8 H0=>xg 6 [] R<|k0 (Tree_mergeS_con 0 1 hx8) R<|xd 5 [] R<|M.n<|xa 2 [] R<|by cases H0;exact ZR [])))
theorem Tree_dropS_con {k n:Nat} (m0 m1:Nat):Tree_dropS_st k n m0 m1:=fun H0=>cnA [(0,m0),(1,m1)] (Tree_dropS_con0 H0)
abbrev Tree_DropS_st (m0 m1:Nat):Prop:=∀ {k:Nat} {p1:Pool (TNode TSlot TSize)} {rt0:TRef} {a1:TSlot} {r:TSlot×Bool×TRef×Pool (TNode TSlot TSize)} (H0:Tree_Drop.f opsS k p1 rt0 a1=some r),SCon Tryz.prog 63 [SV.p m0 0,.a (.agg ((eTSlot a1).map .v))] [(m0,blk m0 [.p m1 0,.i rt0.index,.i rt0.gen] 121),(m1,plS m1 p1)] (.tup [.agg ((eTSlot r.1).map .v),.c (.v (.bool r.2.1))]) [(m0,blk m0 [.p m1 0,.i r.2.2.1.index,.i r.2.2.1.gen] 121),(m1,plS m1 r.2.2.2)] []
theorem Tree_DropS_con0:Tree_DropS_st 0 1:=by
 intro k p1 rt0 a1 r H0
 rw [Tree_Drop.f] at H0
 exact M.s Tryz.func63 Tryz.ntmps63 R fun β W F=>xg 8 [100,101] R<|M.b H0 fun x1 hx1 H0=>xg 7 [] R<|k0 (Tree_dropS_con 0 1 hx1) R<|xd 9 [102,103] R<|M.n<|xa 19 [] R<|by cases H0;exact ZR []
theorem Tree_DropS_con (m0 m1:Nat):Tree_DropS_st m0 m1:=fun H0=>cnA [(0,m0),(1,m1)] (Tree_DropS_con0 H0)
end Go.Proofs.YtgjbibabegabnaaGreat
namespace Go.Proofs.YtgjbibabegabnaaGreat
open Go Go.Proofs.YtgjbibabegabnaaGreat.Sx
abbrev tkQueue (n0 n1 n2 n3 n4 n5 n6 n7 n8:Nat) (q:TQueue) (l:List (Nat×Tok)):List (Nat×Tok):=(n0,blk n0 [.v (.int .i64 q.capacity),.p n1 0,.p n3 0,.p n5 0,.p n7 0,.v (.int .i64 q.excess)] 99)::(n1,blk n1 [.p n2 0,.v (.int .i64 q.marks.r.index),.v (.int .i64 q.marks.r.gen)] 144)::(n2,plM n2 (q.marks.p))::(n3,blk n3 [.p n4 0,.v (.int .i64 q.present.r.index),.v (.int .i64 q.present.r.gen)] 121)::(n4,plS n4 (q.present.p))::(n5,blk n5 [.p n6 0,.v (.int .i64 q.gone.r.index),.v (.int .i64 q.gone.r.gen)] 121)::(n6,plS n6 (q.gone.p))::(n7,blk n7 [.p n8 0,.v (.int .i64 q.times.r.index),.v (.int .i64 q.times.r.gen)] 121)::(n8,plS n8 (q.times.p))::l
abbrev wave_New_st (m40 m41:Nat):Prop:=∀ {k:Nat} {a0:Int} {r:TRef×Pool (TNode TMark TSwell)} (H0:wave_New.f k a0=some r),SCon Tryz.prog 108 [.a (.c (.v (.int .i64 a0)))] [] (.a (.c (.p m40 0))) [(m40,blk m40 [.p m41 0,.i r.1.index,.i r.1.gen] 144),(m41,plM m41 r.2)] [m40,m41]
theorem wave_New_con0:wave_New_st 40 41:=by
 intro k a0 r H0
 rw [wave_New.f] at H0
 exact M.s Tryz.func108 Tryz.ntmps108 R fun β W F=>xg 6 [] R<|M.b H0 fun x1 hx1 H0=>xg 2 [] R<|k0 (Tree_NewM_con 100 101 R hx1) R<|xk 4 [] R<|by cases H0;exact ZR [(40,100),(41,101)]
theorem wave_New_con (m40 m41:Nat) (hd:ndB [m40,m41]=true):wave_New_st m40 m41:=fun H0=>cnB [(40,m40),(41,m41)] hd (wave_New_con0 H0)
abbrev shelf_New_st (m40 m41:Nat):Prop:=∀ {k:Nat} {a0:Int} {r:TRef×Pool (TNode TSlot TSize)} (H0:shelf_New.f k a0=some r),SCon Tryz.prog 109 [.a (.c (.v (.int .i64 a0)))] [] (.a (.c (.p m40 0))) [(m40,blk m40 [.p m41 0,.i r.1.index,.i r.1.gen] 121),(m41,plS m41 r.2)] [m40,m41]
theorem shelf_New_con0:shelf_New_st 40 41:=by
 intro k a0 r H0
 rw [shelf_New.f] at H0
 exact M.s Tryz.func109 Tryz.ntmps109 R fun β W F=>xg 6 [] R<|M.b H0 fun x1 hx1 H0=>xg 2 [] R<|k0 (Tree_NewS_con 100 101 R hx1) R<|xk 4 [] R<|by cases H0;exact ZR [(40,100),(41,101)]
theorem shelf_New_con (m40 m41:Nat) (hd:ndB [m40,m41]=true):shelf_New_st m40 m41:=fun H0=>cnB [(40,m40),(41,m41)] hd (shelf_New_con0 H0)
abbrev partial_New_st (m80 m81 m82 m83 m84 m85 m86 m87 m88:Nat):Prop:=∀ {k:Nat} {a0:Int} {r:TQueue} (H0:partial_New.f k a0=some r),SCon Tryz.prog 78 [.a (.c (.v (.int .i64 a0)))] [] (.a (.c (.p m80 0))) (tkQueue m80 m81 m82 m83 m84 m85 m86 m87 m88 r []) [m80,m81,m82,m83,m84,m85,m86,m87,m88]
theorem partial_New_con0:partial_New_st 80 81 82 83 84 85 86 87 88:=by
 intro k a0 r H0
 rw [partial_New.f] at H0
 exact M.s Tryz.func78 Tryz.ntmps78 R fun β W F=>xg 8 [] R<|K.bi2 (V:=.int .i64 (gmax a0 0)) g0 R R (fun _ _=>R) R<|K.bi2 (V:=.int .i64 (gmin (gmax a0 0) 65536)) g0 R R (fun _ _=>R) R<|xk 4 [] R<|M.b H0 fun x1 hx1 H0=>M.b H0 fun x2 hx2 H0=>M.b H0 fun x3 hx3 H0=>M.b H0 fun x4 hx4 H0=>xg 3 [] R<|k0 (wave_New_con 100 101 R hx1) R<|xk 1 [] R<|k0 (shelf_New_con 102 103 R hx2) R<|xk 1 [] R<|k0 (shelf_New_con 104 105 R hx3) R<|xk 1 [] R<|k0 (shelf_New_con 106 107 R hx4) R<|xk 6 [108] R<|by cases H0;exact ZR [(80,108),(81,100),(82,101),(83,102),(84,103),(85,104),(86,105),(87,106),(88,107)]
theorem partial_New_con (m80 m81 m82 m83 m84 m85 m86 m87 m88:Nat) (hd:ndB [m80,m81,m82,m83,m84,m85,m86,m87,m88]=true):partial_New_st m80 m81 m82 m83 m84 m85 m86 m87 m88:=fun H0=>cnB [(80,m80),(81,m81),(82,m82),(83,m83),(84,m84),(85,m85),(86,m86),(87,m87),(88,m88)] hd (partial_New_con0 H0)
theorem wave_Key_con {k:Nat} {a0:Int} {r:TMark} (H0:wave_Key.f k a0=some r):SCon Tryz.prog 58 [.a (.c (.v (.int .i64 a0)))] [] (.a (.agg ((eTMark r).map .v))) [] []:=by
 rw [wave_Key.f] at H0
 exact M.s Tryz.func58 Tryz.ntmps58 R fun β W F=>xg 14 [100] R<|by cases H0;exact ZR []
abbrev partial_Queue_may_st (m0 m1 m2 m3 m4 m5 m6 m7 m8:Nat):Prop:=∀ {k:Nat} {q0:TQueue} {a1:Int} {r:Int} (H0:partial_Queue_may.f k q0 a1=some r),SCon Tryz.prog 110 [SV.p m0 0,.a (.c (.v (.int .i64 a1)))] (tkQueue m0 m1 m2 m3 m4 m5 m6 m7 m8 q0 []) (.a (.c (.v (.int .i64 r)))) (tkQueue m0 m1 m2 m3 m4 m5 m6 m7 m8 q0 []) []
theorem partial_Queue_may_con0:partial_Queue_may_st 0 1 2 3 4 5 6 7 8:=by
 intro k q0 a1 r H0
 rw [partial_Queue_may.f] at H0
 exact M.s Tryz.func110 Tryz.ntmps110 R fun β W F=>xg 7 [] R<|M.b H0 fun x1 hx1 H0=>xg 5 [] R<|kR (Tree_LenM_con 1 2 hx1) R<|xd 5 [] R<|M.n<|xa 1 [] R<|M.c R H0 (fun h1 H0=>xg 7 [] R<|by cases H0;exact ZR []) (fun h1 H0=>xg 4 [] R<|M.b H0 fun x2 hx2 H0=>M.b H0 fun x3 hx3 H0=>xg 6 [] R<|kR (wave_Key_con hx2) R<|kR (Tree_FindM_con 1 2 hx3) R<|xd 6 [100] R<|M.n<|xa 6 [] R<|M.c R H0 (fun h2 H0=>xg 7 [] R<|by cases H0;exact ZR []) (fun h2 H0=>xg 8 [] R<|by cases H0;exact ZR []))
theorem partial_Queue_may_con (m0 m1 m2 m3 m4 m5 m6 m7 m8:Nat):partial_Queue_may_st m0 m1 m2 m3 m4 m5 m6 m7 m8:=fun H0=>cnA [(0,m0),(1,m1),(2,m2),(3,m3),(4,m4),(5,m5),(6,m6),(7,m7),(8,m8)] (partial_Queue_may_con0 H0)
theorem shelf_Of_con {k:Nat} {a0:TItem} {r:TSlot} (H0:shelf_Of.f k a0=some r):SCon Tryz.prog 45 [.a (.agg ((eTItem a0).map .v))] [] (.a (.agg ((eTSlot r).map .v))) [] []:=by
 rw [shelf_Of.f] at H0
 exact M.s Tryz.func45 Tryz.ntmps45 R fun β W F=>xg 14 [100,101] R<|by cases H0;exact ZR []
abbrev bridge_clamp_st (m0 m1:Nat):Prop:=∀ {k:Nat} {p1:Pool (TNode TMark TSwell)} {rt0:TRef} {a1:Int} {r:Int} (H0:bridge_clamp.f k p1 rt0 a1=some r),SCon Tryz.prog 115 [SV.p m0 0,.a (.c (.v (.int .i64 a1)))] [(m0,blk m0 [.p m1 0,.i rt0.index,.i rt0.gen] 144),(m1,plM m1 p1)] (.a (.c (.v (.int .i64 r)))) [(m0,blk m0 [.p m1 0,.i rt0.index,.i rt0.gen] 144),(m1,plM m1 p1)] []
theorem bridge_clamp_con0:bridge_clamp_st 0 1:=by
 intro k p1 rt0 a1 r H0
 rw [bridge_clamp.f] at H0
 exact M.s Tryz.func115 Tryz.ntmps115 R fun β W F=>xg 6 [] R<|M.b H0 fun x1 hx1 H0=>xg 2 [] R<|K.bi2 (V:=.int .i64 (gmax a1 0)) g0 R R (fun _ _=>R) R<|xk 1 [] R<|kR (Tree_LenM_con 0 1 hx1) R<|K.bi2 (V:=.int .i64 (gmin (gmax a1 0) x1)) g0 R R (fun _ _=>R) R<|xk 4 [] R<|by cases H0;exact ZR []
theorem bridge_clamp_con (m0 m1:Nat):bridge_clamp_st m0 m1:=fun H0=>cnA [(0,m0),(1,m1)] (bridge_clamp_con0 H0)
abbrev bridge_low_st (m50:Nat):Prop:=∀ {k:Nat} {a0:Int} {r:Int} (H0:bridge_low.f k a0=some r),SCon Tryz.prog 116 [.a (.c (.v (.int .i64 a0)))] [] (.a (.c (.fn (.func 140) [m50]))) [(m50,blk m50 [.v (.int .i64 r)] 3)] [m50]
theorem bridge_low_con0:bridge_low_st 50:=by
 intro k a0 r H0
 rw [bridge_low.f] at H0
 exact M.s Tryz.func116 Tryz.ntmps116 R fun β W F=>xg 8 [100] R<|K.mkFn1 g0 R R<|xk 4 [] R<|by cases H0;exact ZR [(50,100)]
theorem bridge_low_con (m50:Nat) (hd:ndB [m50]=true):bridge_low_st m50:=fun H0=>cnB [(50,m50)] hd (bridge_low_con0 H0)
abbrev bridge_low_1_st (m0:Nat):Prop:=∀ {k:Nat} {a0:TSwell} {a1:TSwell} {c0:Int} {r:Bool} (H0:bridge_low_1.f k a0 a1 c0=some r),SCon Tryz.prog 140 [.a (.agg ((eTSwell a0).map .v)),.a (.agg ((eTSwell a1).map .v)),SV.p m0 0] [(m0,blk m0 [.v (.int .i64 c0)] 3)] (.a (.c (.v (.bool r)))) [(m0,blk m0 [.v (.int .i64 c0)] 3)] []
theorem bridge_low_1_con0:bridge_low_1_st 0:=by
 intro k a0 a1 c0 r H0
 rw [bridge_low_1.f] at H0
 exact M.s Tryz.func140 Tryz.ntmps140 R fun β W F=>xg 8 [100,101] R<|M.i (t:=(decide (a1.weight.n>0))) (fun h1=>have H0:=bif_t H0 h1;xg 6 [] R<|K.load1 Y (g1 R R h1) R R t3 R R<|K.fieldAddr Y (g1 R R h1) R t105 R R<|K.fieldAddr Y (g1 R R h1) R t103 R R<|K.load1 Y (g1 R R h1) R R t3 R R<|K.bin (V:=.int .i64 (w64 (c0+a0.weight.sum))) (g1 R R h1) R R (fun _=>R) R<|K.fieldAddr Y (g1 R R h1) R t105 R R<|K.fieldAddr Y (g1 R R h1) R t103 R R<|K.load1 Y (g1 R R h1) R R t3 R R<|K.bin (V:=.int .i64 (w64 ((w64 (c0+a0.weight.sum))+a1.weight.low))) (g1 R R h1) R R (fun _=>R) R<|K.bin (V:=.bool (decide ((w64 ((w64 (c0+a0.weight.sum))+a1.weight.low))≤0))) (g1 R R h1) R R (fun _=>R) R<|K.pickT g0 R (h1) R R<|xk 4 [] R<|by cases H0;exact ZR []) (fun h1=>have H0:=bif_f H0 h1;xg 6 [] R<|kk h1 R<|kk h1 R<|kk h1 R<|kk h1 R<|kk h1 R<|kk h1 R<|kk h1 R<|kk h1 R<|kk h1 R<|kk h1 R<|K.pickF g0 R (h1) R R<|xk 4 [] R<|by cases H0;exact ZR [])
theorem bridge_low_1_con (m0:Nat):bridge_low_1_st m0:=fun H0=>cnA [(0,m0)] (bridge_low_1_con0 H0)
abbrev bridge_Prior_st (m0 m1:Nat):Prop:=∀ {k:Nat} {p1:Pool (TNode TMark TSwell)} {rt0:TRef} {a1:Int} {a2:Int} {r:Int} (H0:bridge_Prior.f k p1 rt0 a1 a2=some r),SCon Tryz.prog 85 [SV.p m0 0,.a (.c (.v (.int .i64 a1))),.a (.c (.v (.int .i64 a2)))] [(m0,blk m0 [.p m1 0,.i rt0.index,.i rt0.gen] 144),(m1,plM m1 p1)] (.a (.c (.v (.int .i64 r)))) [(m0,blk m0 [.p m1 0,.i rt0.index,.i rt0.gen] 144),(m1,plM m1 p1)] []
theorem bridge_Prior_con0:bridge_Prior_st 0 1:=by
 intro k p1 rt0 a1 a2 r H0
 rw [bridge_Prior.f] at H0
 exact M.s Tryz.func85 Tryz.ntmps85 R fun β W F=>xg 7 [] R<|M.b H0 fun x1 hx1 H0=>M.b H0 fun x2 hx2 H0=>M.b H0 fun x3 hx3 H0=>xg 4 [] R<|kR (bridge_clamp_con 0 1 hx1) R<|xk 1 [] R<|k0 (bridge_low_con 100 R hx2) R<|kR (Tree_LastM_f12_con 0 1 100 (cv2:=[(.int .i64 x2)]) (Tc2:=3) (cf 140 R) (fun c _ _ _ h=>bridge_low_1_con c h) hx3) R<|xk 9 [] R<|M.c R H0 (fun h1 H0=>xg 9 [] R<|by cases H0;exact ZR []) (fun h1 H0=>xg 9 [] R<|M.c R H0 (fun h2 H0=>xg 7 [] R<|by cases H0;exact ZR []) (fun h2 H0=>xg 8 [] R<|by cases H0;exact ZR []))
theorem bridge_Prior_con (m0 m1:Nat):bridge_Prior_st m0 m1:=fun H0=>cnA [(0,m0),(1,m1)] (bridge_Prior_con0 H0)
abbrev bridge_Best_st (m0 m1:Nat):Prop:=∀ {k:Nat} {p1:Pool (TNode TMark TSwell)} {rt0:TRef} {a1:Int} {r:TTook} (H0:bridge_Best.f k p1 rt0 a1=some r),SCon Tryz.prog 86 [SV.p m0 0,.a (.c (.v (.int .i64 a1)))] [(m0,blk m0 [.p m1 0,.i rt0.index,.i rt0.gen] 144),(m1,plM m1 p1)] (.a (.agg ((eTTook r).map .v))) [(m0,blk m0 [.p m1 0,.i rt0.index,.i rt0.gen] 144),(m1,plM m1 p1)] []
theorem bridge_Best_con0:bridge_Best_st 0 1:=by
 intro k p1 rt0 a1 r H0
 rw [bridge_Best.f] at H0
 exact M.s Tryz.func86 Tryz.ntmps86 R fun β W F=>xg 6 [100] R<|M.b H0 fun x1 hx1 H0=>M.b H0 fun x2 hx2 H0=>M.b H0 fun x3 hx3 H0=>xg 4 [] R<|kR (bridge_clamp_con 0 1 hx1) R<|xk 1 [] R<|kR (Tree_LenM_con 0 1 hx2) R<|kR (Tree_BetweenM_con 0 1 hx3) R<|xk 5 [] R<|by cases H0;exact ZR []
theorem bridge_Best_con (m0 m1:Nat):bridge_Best_st m0 m1:=fun H0=>cnA [(0,m0),(1,m1)] (bridge_Best_con0 H0)
abbrev partial_Queue_turn_st (m0 m1 m2 m3 m4 m5 m6 m7 m8:Nat):Prop:=∀ {k:Nat} {q0:TQueue} {a1:TItem} {a2:Bool} {r:TQueue} (H0:partial_Queue_turn.f k q0 a1 a2=some r),SCon Tryz.prog 87 [SV.p m0 0,.a (.agg ((eTItem a1).map .v)),.a (.c (.v (.bool a2)))] (tkQueue m0 m1 m2 m3 m4 m5 m6 m7 m8 q0 []) (.tup []) (tkQueue m0 m1 m2 m3 m4 m5 m6 m7 m8 r []) []
theorem partial_Queue_turn_con0:partial_Queue_turn_st 0 1 2 3 4 5 6 7 8:=by
 intro k q0 a1 a2 r H0
 rw [partial_Queue_turn.f] at H0
 exact M.s Tryz.func87 Tryz.ntmps87 R fun β W F=>xg 6 [100] R<|M.b H0 fun x1 hx1 H0=>M.b H0 fun x2 hx2 H0=>xg 6 [] R<|kR (shelf_Of_con hx1) R<|kR (Tree_FindS_con 7 8 hx2) R<|xd 6 [101] R<|M.n<|xa 2 [] R<|M.b H0 fun x3 hx3 H0=>M.b H0 fun x4 hx4 H0=>xg 7 [] R<|kR (wave_Key_con hx3) R<|kR (Tree_FindM_con 1 2 hx4) R<|xd 6 [102] R<|M.n<|xa 9 [] R<|M.b H0 fun x5 hx5 H0=>xg 6 [] R<|k0 (Tree_PutM_con 1 2 hx5) R<|M.n<|xa 13 [] R<|M.n<|xa 7 [] R<|M.c R H0 (fun h1 H0=>xg 8 [] R<|M.b H0 fun x6 hx6 H0=>M.b H0 fun x7 hx7 H0=>xg 3 [] R<|kR (shelf_Of_con hx6) R<|k0 (Tree_DropS_con 5 6 hx7) R<|xk 2 [] R<|M.b H0 fun x8 hx8 H0=>M.b H0 fun x9 hx9 H0=>xg 3 [] R<|kR (shelf_Of_con hx8) R<|k0 (Tree_PutS_con 3 4 hx9) R<|xk 1 [] R<|by cases H0;exact ZN []) (fun h1 H0=>xg 3 [] R<|M.b H0 fun x10 hx10 H0=>M.b H0 fun x11 hx11 H0=>xg 3 [] R<|kR (shelf_Of_con hx10) R<|k0 (Tree_DropS_con 3 4 hx11) R<|xk 2 [] R<|M.b H0 fun x12 hx12 H0=>M.b H0 fun x13 hx13 H0=>xg 3 [] R<|kR (shelf_Of_con hx12) R<|k0 (Tree_PutS_con 5 6 hx13) R<|xk 1 [] R<|by cases H0;exact ZN [])
theorem partial_Queue_turn_con (m0 m1 m2 m3 m4 m5 m6 m7 m8:Nat):partial_Queue_turn_st m0 m1 m2 m3 m4 m5 m6 m7 m8:=fun H0=>cnA [(0,m0),(1,m1),(2,m2),(3,m3),(4,m4),(5,m5),(6,m6),(7,m7),(8,m8)] (partial_Queue_turn_con0 H0)
abbrev partial_Queue_Insert_st (m0 m1 m2 m3 m4 m5 m6 m7 m8 m60 m61:Nat):Prop:=∀ {k:Nat} {q0:TQueue} {a1:Int} {a2:TItem} {r:TChange×Int×TQueue} (H0:partial_Queue_Insert.f k q0 a1 a2=some r),SCon Tryz.prog 79 [SV.p m0 0,.a (.c (.v (.int .i64 a1))),.a (.agg ((eTItem a2).map .v))] (tkQueue m0 m1 m2 m3 m4 m5 m6 m7 m8 q0 []) (.tup [.agg [.nv m60,.nv m61],.c (.v (.int .i64 r.2.1))]) (tkQueue m0 m1 m2 m3 m4 m5 m6 m7 m8 r.2.2 [(m60,lrow m60 28 eTItem 2 (r.1.in_)),(m61,lrow m61 28 eTItem 2 (r.1.out))]) [m60,m61]
set_option maxHeartbeats 4000000 in
theorem partial_Queue_Insert_con0:partial_Queue_Insert_st 0 1 2 3 4 5 6 7 8 60 61:=by
 intro k q0 a1 a2 r H0
 rw [partial_Queue_Insert.f] at H0
 exact M.s Tryz.func79 Tryz.ntmps79 R fun β W F=>xg 6 [100,101] R<|At.nilBlk (n:=101) (l':=[_,_]) 0 102 28 eTItem 2 R R R R R<|At.nilBlk (n:=101) (l':=[_,_]) 1 103 28 eTItem 2 R R R R R<|xa 3 [] R<|M.b H0 fun x1 hx1 H0=>xg 3 [] R<|kR (partial_Queue_may_con 0 1 2 3 4 5 6 7 8 hx1) R<|xk 9 [] R<|M.c R H0 (fun h1 H0=>xg 7 [] R<|At.nilAgg (t:=19) (l':=[_,_]) 0 104 28 eTItem 2 R R R R R<|At.nilAgg (t:=19) (l':=[_,_]) 1 105 28 eTItem 2 R R R R R<|At.nilBlk (n:=101) (l':=[_,_]) 0 106 28 eTItem 2 R R R R R<|At.nilBlk (n:=101) (l':=[_,_]) 1 107 28 eTItem 2 R R R R R<|xa 3 [] R<|by cases H0;exact ZR [(60,106),(61,107)]) (fun h1 H0=>xg 4 [] R<|M.b H0 fun x2 hx2 H0=>M.b H0 fun x3 hx3 H0=>xg 6 [] R<|kR (shelf_Of_con hx2) R<|kR (Tree_FindS_con 7 8 hx3) R<|xd 6 [108] R<|M.n<|xa 6 [] R<|M.c R H0 (fun h2 H0=>xg 6 [] R<|At.nilAgg (t:=32) (l':=[_,_]) 0 109 28 eTItem 2 R R R R R<|At.nilAgg (t:=32) (l':=[_,_]) 1 110 28 eTItem 2 R R R R R<|At.nilBlk (n:=101) (l':=[_,_]) 0 111 28 eTItem 2 R R R R R<|At.nilBlk (n:=101) (l':=[_,_]) 1 112 28 eTItem 2 R R R R R<|xa 3 [] R<|by cases H0;exact ZR [(60,111),(61,112)]) (fun h2 H0=>xg 3 [] R<|M.b H0 fun x4 hx4 H0=>M.b H0 fun x5 hx5 H0=>xg 6 [] R<|kR (wave_Key_con hx4) R<|kR (Tree_RankM_con 1 2 hx5) R<|xd 1 [] R<|M.n<|xa 2 [] R<|M.b H0 fun x6 hx6 H0=>xg 10 [] R<|kR (bridge_Prior_con 1 2 hx6) R<|xd 1 [] R<|M.n<|xa 2 [] R<|M.b H0 fun x7 hx7 H0=>xg 8 [] R<|k0 (Tree_PutS_con 7 8 hx7) R<|M.n<|xa 2 [] R<|M.b H0 fun x8 hx8 H0=>xg 9 [] R<|k0 (Tree_PutM_con 1 2 hx8) R<|M.n<|xa 2 [] R<|M.b H0 fun x9 hx9 H0=>M.b H0 fun x10 hx10 H0=>xg 6 [] R<|kR (shelf_Of_con hx9) R<|k0 (Tree_PutS_con 5 6 hx10) R<|M.n<|xa 8 [] R<|M.c R H0 (fun h3 H0=>xg 18 [] R<|At.nilAgg (t:=83) (l':=[_,_]) 0 113 28 eTItem 2 R R R R R<|At.nilAgg (t:=83) (l':=[_,_]) 1 114 28 eTItem 2 R R R R R<|At.nilBlk (n:=101) (l':=[_,_]) 0 115 28 eTItem 2 R R R R R<|At.nilBlk (n:=101) (l':=[_,_]) 1 116 28 eTItem 2 R R R R R<|xa 3 [] R<|by cases H0;exact ZR [(60,115),(61,116)]) (fun h3 H0=>xg 3 [] R<|M.b H0 fun x11 hx11 H0=>xg 6 [] R<|kR (bridge_Best_con 1 2 hx11) R<|xk 5 [117] R<|M.b H0 fun x12 hx12 H0=>xg 4 [] R<|k0 (partial_Queue_turn_con 0 1 2 3 4 5 6 7 8 hx12) R<|xk 6 [] R<|K.buildL Y 118 ([x11.item]:List TItem) [(0,_)] [((.tmp 95),_)] eTItem_len g0 (AllE.spec ⟨R,trivial⟩) R R Tryz.underlying54 t28 R R R R R R R R<|xk 4 [] R<|At.nilAgg (t:=97) (l':=[_,_]) 1 119 28 eTItem 2 R R R R R<|At.nilBlk (n:=101) (l':=[_,_]) 1 120 28 eTItem 2 R R R R R<|xa 2 [] R<|by cases H0;exact ZR [(60,118),(61,120)])))
theorem partial_Queue_Insert_con (m0 m1 m2 m3 m4 m5 m6 m7 m8 m60 m61:Nat) (hd:ndB [m0,m1,m2,m3,m4,m5,m6,m7,m8,m60,m61]=true):partial_Queue_Insert_st m0 m1 m2 m3 m4 m5 m6 m7 m8 m60 m61:=fun H0=>cnB [(0,m0),(1,m1),(2,m2),(3,m3),(4,m4),(5,m5),(6,m6),(7,m7),(8,m8),(60,m60),(61,m61)] hd (partial_Queue_Insert_con0 H0)
abbrev bridge_Height_st (m0 m1:Nat):Prop:=∀ {k:Nat} {p1:Pool (TNode TMark TSwell)} {rt0:TRef} {a1:Int} {a2:Int} {r:Int} (H0:bridge_Height.f k p1 rt0 a1 a2=some r),SCon Tryz.prog 121 [SV.p m0 0,.a (.c (.v (.int .i64 a1))),.a (.c (.v (.int .i64 a2)))] [(m0,blk m0 [.p m1 0,.i rt0.index,.i rt0.gen] 144),(m1,plM m1 p1)] (.a (.c (.v (.int .i64 r)))) [(m0,blk m0 [.p m1 0,.i rt0.index,.i rt0.gen] 144),(m1,plM m1 p1)] []
theorem bridge_Height_con0:bridge_Height_st 0 1:=by
 intro k p1 rt0 a1 a2 r H0
 rw [bridge_Height.f] at H0
 exact M.s Tryz.func121 Tryz.ntmps121 R fun β W F=>xg 6 [] R<|M.b H0 fun x1 hx1 H0=>xg 4 [] R<|kR (Tree_BetweenM_con 0 1 hx1) R<|xk 7 [] R<|by cases H0;exact ZR []
theorem bridge_Height_con (m0 m1:Nat):bridge_Height_st m0 m1:=fun H0=>cnA [(0,m0),(1,m1)] (bridge_Height_con0 H0)
abbrev bridge_Next_st (m0 m1:Nat):Prop:=∀ {k:Nat} {p1:Pool (TNode TMark TSwell)} {rt0:TRef} {a1:Int} {a2:Int} {r:Int} (H0:bridge_Next.f k p1 rt0 a1 a2=some r),SCon Tryz.prog 90 [SV.p m0 0,.a (.c (.v (.int .i64 a1))),.a (.c (.v (.int .i64 a2)))] [(m0,blk m0 [.p m1 0,.i rt0.index,.i rt0.gen] 144),(m1,plM m1 p1)] (.a (.c (.v (.int .i64 r)))) [(m0,blk m0 [.p m1 0,.i rt0.index,.i rt0.gen] 144),(m1,plM m1 p1)] []
theorem bridge_Next_con0:bridge_Next_st 0 1:=by
 intro k p1 rt0 a1 a2 r H0
 rw [bridge_Next.f] at H0
 exact M.s Tryz.func90 Tryz.ntmps90 R fun β W F=>xg 6 [] R<|M.b H0 fun x1 hx1 H0=>xg 3 [] R<|kR (bridge_clamp_con 0 1 hx1) R<|xk 5 [] R<|M.b H0 fun x2 hx2 H0=>xg 4 [] R<|kR (bridge_Height_con 0 1 hx2) R<|xk 3 [] R<|M.c R H0 (fun h1 H0=>xg 8 [] R<|by cases H0;exact ZR []) (fun h1 H0=>xg 4 [] R<|M.b H0 fun x3 hx3 H0=>M.b H0 fun x4 hx4 H0=>xg 4 [] R<|k0 (bridge_low_con 100 R hx3) R<|kR (Tree_FirstM_f12_con 0 1 100 (cv2:=[(.int .i64 x3)]) (Tc2:=3) (cf 140 R) (fun c _ _ _ h=>bridge_low_1_con c h) hx4) R<|xk 9 [] R<|M.c R H0 (fun h2 H0=>xg 9 [] R<|by cases H0;exact ZR []) (fun h2 H0=>xg 8 [] R<|by cases H0;exact ZR []))
theorem bridge_Next_con (m0 m1:Nat):bridge_Next_st m0 m1:=fun H0=>cnA [(0,m0),(1,m1)] (bridge_Next_con0 H0)
abbrev bridge_Least_st (m0 m1:Nat):Prop:=∀ {k:Nat} {p1:Pool (TNode TMark TSwell)} {rt0:TRef} {a1:Int} {r:TTook} (H0:bridge_Least.f k p1 rt0 a1=some r),SCon Tryz.prog 89 [SV.p m0 0,.a (.c (.v (.int .i64 a1)))] [(m0,blk m0 [.p m1 0,.i rt0.index,.i rt0.gen] 144),(m1,plM m1 p1)] (.a (.agg ((eTTook r).map .v))) [(m0,blk m0 [.p m1 0,.i rt0.index,.i rt0.gen] 144),(m1,plM m1 p1)] []
theorem bridge_Least_con0:bridge_Least_st 0 1:=by
 intro k p1 rt0 a1 r H0
 rw [bridge_Least.f] at H0
 exact M.s Tryz.func89 Tryz.ntmps89 R fun β W F=>xg 6 [100] R<|M.b H0 fun x1 hx1 H0=>M.b H0 fun x2 hx2 H0=>xg 4 [] R<|kR (bridge_clamp_con 0 1 hx1) R<|kR (Tree_BetweenM_con 0 1 hx2) R<|xk 5 [] R<|by cases H0;exact ZR []
theorem bridge_Least_con (m0 m1:Nat):bridge_Least_st m0 m1:=fun H0=>cnA [(0,m0),(1,m1)] (bridge_Least_con0 H0)
abbrev partial_Queue_leave_st (m0 m1 m2 m3 m4 m5 m6 m7 m8 m60 m61:Nat):Prop:=∀ {k:Nat} {q0:TQueue} {a1:Int} {r:TChange×TQueue} (H0:partial_Queue_leave.f k q0 a1=some r),SCon Tryz.prog 62 [SV.p m0 0,.a (.c (.v (.int .i64 a1)))] (tkQueue m0 m1 m2 m3 m4 m5 m6 m7 m8 q0 []) (.a (.agg [.nv m60,.nv m61])) (tkQueue m0 m1 m2 m3 m4 m5 m6 m7 m8 r.2 [(m60,lrow m60 28 eTItem 2 (r.1.in_)),(m61,lrow m61 28 eTItem 2 (r.1.out))]) [m60,m61]
theorem partial_Queue_leave_con0:partial_Queue_leave_st 0 1 2 3 4 5 6 7 8 60 61:=by
 intro k q0 a1 r H0
 rw [partial_Queue_leave.f] at H0
 exact M.s Tryz.func62 Tryz.ntmps62 R fun β W F=>xg 4 [100] R<|At.nilBlk (n:=100) (l':=[_,_]) 0 101 28 eTItem 2 R R R R R<|At.nilBlk (n:=100) (l':=[_,_]) 1 102 28 eTItem 2 R R R R R<|xa 2 [] R<|M.b H0 fun x1 hx1 H0=>M.b H0 fun x2 hx2 H0=>xg 14 [] R<|kR (bridge_Next_con 1 2 hx1) R<|kR (bridge_Least_con 1 2 hx2) R<|xd 2 [103] R<|M.n<|xa 9 [] R<|M.c R H0 (fun h1 H0=>xg 17 [] R<|At.nilAgg (t:=31) (l':=[_,_]) 0 104 28 eTItem 2 R R R R R<|At.nilAgg (t:=31) (l':=[_,_]) 1 105 28 eTItem 2 R R R R R<|At.nilBlk (n:=100) (l':=[_,_]) 0 106 28 eTItem 2 R R R R R<|At.nilBlk (n:=100) (l':=[_,_]) 1 107 28 eTItem 2 R R R R R<|xa 3 [] R<|by cases H0;exact ZR [(60,106),(61,107)]) (fun h1 H0=>xg 3 [] R<|M.b H0 fun x3 hx3 H0=>xg 4 [] R<|k0 (partial_Queue_turn_con 0 1 2 3 4 5 6 7 8 hx3) R<|xk 6 [] R<|K.buildL Y 108 ([x2.item]:List TItem) [(0,_)] [((.tmp 37),_)] eTItem_len g0 (AllE.spec ⟨R,trivial⟩) R R Tryz.underlying54 t28 R R R R R R R R<|xk 3 [] R<|At.nilAgg (t:=39) (l':=[_,_]) 0 109 28 eTItem 2 R R R R R<|At.nilBlk (n:=100) (l':=[_,_]) 0 110 28 eTItem 2 R R R R R<|xa 2 [] R<|by cases H0;exact ZR [(60,110),(61,108)])
theorem partial_Queue_leave_con (m0 m1 m2 m3 m4 m5 m6 m7 m8 m60 m61:Nat) (hd:ndB [m0,m1,m2,m3,m4,m5,m6,m7,m8,m60,m61]=true):partial_Queue_leave_st m0 m1 m2 m3 m4 m5 m6 m7 m8 m60 m61:=fun H0=>cnB [(0,m0),(1,m1),(2,m2),(3,m3),(4,m4),(5,m5),(6,m6),(7,m7),(8,m8),(60,m60),(61,m61)] hd (partial_Queue_leave_con0 H0)
abbrev partial_Queue_Delete_st (m0 m1 m2 m3 m4 m5 m6 m7 m8 m60 m61:Nat):Prop:=∀ {k:Nat} {q0:TQueue} {a1:Int} {r:TChange×Int×TQueue} (H0:partial_Queue_Delete.f k q0 a1=some r),SCon Tryz.prog 80 [SV.p m0 0,.a (.c (.v (.int .i64 a1)))] (tkQueue m0 m1 m2 m3 m4 m5 m6 m7 m8 q0 []) (.tup [.agg [.nv m60,.nv m61],.c (.v (.int .i64 r.2.1))]) (tkQueue m0 m1 m2 m3 m4 m5 m6 m7 m8 r.2.2 [(m60,lrow m60 28 eTItem 2 (r.1.in_)),(m61,lrow m61 28 eTItem 2 (r.1.out))]) [m60,m61]
theorem partial_Queue_Delete_con0:partial_Queue_Delete_st 0 1 2 3 4 5 6 7 8 60 61:=by
 intro k q0 a1 r H0
 rw [partial_Queue_Delete.f] at H0
 exact M.s Tryz.func80 Tryz.ntmps80 R fun β W F=>xg 5 [100] R<|At.nilBlk (n:=100) (l':=[_,_]) 0 101 28 eTItem 2 R R R R R<|At.nilBlk (n:=100) (l':=[_,_]) 1 102 28 eTItem 2 R R R R R<|xa 3 [] R<|M.b H0 fun x1 hx1 H0=>xg 3 [] R<|kR (partial_Queue_may_con 0 1 2 3 4 5 6 7 8 hx1) R<|xk 9 [] R<|M.c R H0 (fun h1 H0=>xg 7 [] R<|At.nilAgg (t:=13) (l':=[_,_]) 0 103 28 eTItem 2 R R R R R<|At.nilAgg (t:=13) (l':=[_,_]) 1 104 28 eTItem 2 R R R R R<|At.nilBlk (n:=100) (l':=[_,_]) 0 105 28 eTItem 2 R R R R R<|At.nilBlk (n:=100) (l':=[_,_]) 1 106 28 eTItem 2 R R R R R<|xa 3 [] R<|by cases H0;exact ZR [(60,105),(61,106)]) (fun h1 H0=>xg 3 [] R<|M.b H0 fun x2 hx2 H0=>M.b H0 fun x3 hx3 H0=>M.b H0 fun x4 hx4 H0=>xg 7 [] R<|kR (wave_Key_con hx2) R<|kR (Tree_RankM_con 1 2 hx3) R<|k0 (partial_Queue_leave_con 0 1 2 3 4 5 6 7 8 107 108 R hx4) R<|xd 2 [109] R<|M.n<|xa 2 [] R<|M.b H0 fun x5 hx5 H0=>M.b H0 fun x6 hx6 H0=>xg 6 [] R<|kR (wave_Key_con hx5) R<|k0 (Tree_PutM_con 1 2 hx6) R<|M.n<|xa 9 [] R<|by cases H0;exact ZR [(60,107),(61,108)])
theorem partial_Queue_Delete_con (m0 m1 m2 m3 m4 m5 m6 m7 m8 m60 m61:Nat) (hd:ndB [m0,m1,m2,m3,m4,m5,m6,m7,m8,m60,m61]=true):partial_Queue_Delete_st m0 m1 m2 m3 m4 m5 m6 m7 m8 m60 m61:=fun H0=>cnB [(0,m0),(1,m1),(2,m2),(3,m3),(4,m4),(5,m5),(6,m6),(7,m7),(8,m8),(60,m60),(61,m61)] hd (partial_Queue_Delete_con0 H0)
abbrev partial_Queue_enter_st (m0 m1 m2 m3 m4 m5 m6 m7 m8 m60 m61:Nat):Prop:=∀ {k:Nat} {q0:TQueue} {a1:Int} {r:TChange×TQueue} (H0:partial_Queue_enter.f k q0 a1=some r),SCon Tryz.prog 60 [SV.p m0 0,.a (.c (.v (.int .i64 a1)))] (tkQueue m0 m1 m2 m3 m4 m5 m6 m7 m8 q0 []) (.a (.agg [.nv m60,.nv m61])) (tkQueue m0 m1 m2 m3 m4 m5 m6 m7 m8 r.2 [(m60,lrow m60 28 eTItem 2 (r.1.in_)),(m61,lrow m61 28 eTItem 2 (r.1.out))]) [m60,m61]
theorem partial_Queue_enter_con0:partial_Queue_enter_st 0 1 2 3 4 5 6 7 8 60 61:=by
 intro k q0 a1 r H0
 rw [partial_Queue_enter.f] at H0
 exact M.s Tryz.func60 Tryz.ntmps60 R fun β W F=>xg 4 [100] R<|At.nilBlk (n:=100) (l':=[_,_]) 0 101 28 eTItem 2 R R R R R<|At.nilBlk (n:=100) (l':=[_,_]) 1 102 28 eTItem 2 R R R R R<|xa 2 [] R<|M.b H0 fun x1 hx1 H0=>xg 10 [] R<|kR (bridge_Prior_con 1 2 hx1) R<|xd 1 [] R<|M.n<|xa 8 [] R<|M.c R H0 (fun h1 H0=>xg 17 [] R<|At.nilAgg (t:=26) (l':=[_,_]) 0 103 28 eTItem 2 R R R R R<|At.nilAgg (t:=26) (l':=[_,_]) 1 104 28 eTItem 2 R R R R R<|At.nilBlk (n:=100) (l':=[_,_]) 0 105 28 eTItem 2 R R R R R<|At.nilBlk (n:=100) (l':=[_,_]) 1 106 28 eTItem 2 R R R R R<|xa 3 [] R<|by cases H0;exact ZR [(60,105),(61,106)]) (fun h1 H0=>xg 3 [] R<|M.b H0 fun x2 hx2 H0=>xg 6 [] R<|kR (bridge_Best_con 1 2 hx2) R<|xk 12 [107] R<|M.c R H0 (fun h2 H0=>xg 5 [] R<|At.nilAgg (t:=36) (l':=[_,_]) 0 108 28 eTItem 2 R R R R R<|At.nilAgg (t:=36) (l':=[_,_]) 1 109 28 eTItem 2 R R R R R<|At.nilBlk (n:=100) (l':=[_,_]) 0 110 28 eTItem 2 R R R R R<|At.nilBlk (n:=100) (l':=[_,_]) 1 111 28 eTItem 2 R R R R R<|xa 3 [] R<|by cases H0;exact ZR [(60,110),(61,111)]) (fun h2 H0=>xg 3 [] R<|M.b H0 fun x3 hx3 H0=>xg 4 [] R<|k0 (partial_Queue_turn_con 0 1 2 3 4 5 6 7 8 hx3) R<|xk 6 [] R<|K.buildL Y 112 ([x2.item]:List TItem) [(0,_)] [((.tmp 42),_)] eTItem_len g0 (AllE.spec ⟨R,trivial⟩) R R Tryz.underlying54 t28 R R R R R R R R<|xk 3 [] R<|At.nilAgg (t:=44) (l':=[_,_]) 1 113 28 eTItem 2 R R R R R<|At.nilBlk (n:=100) (l':=[_,_]) 1 114 28 eTItem 2 R R R R R<|xa 2 [] R<|by cases H0;exact ZR [(60,112),(61,114)]))
theorem partial_Queue_enter_con (m0 m1 m2 m3 m4 m5 m6 m7 m8 m60 m61:Nat) (hd:ndB [m0,m1,m2,m3,m4,m5,m6,m7,m8,m60,m61]=true):partial_Queue_enter_st m0 m1 m2 m3 m4 m5 m6 m7 m8 m60 m61:=fun H0=>cnB [(0,m0),(1,m1),(2,m2),(3,m3),(4,m4),(5,m5),(6,m6),(7,m7),(8,m8),(60,m60),(61,m61)] hd (partial_Queue_enter_con0 H0)
abbrev partial_Queue_Revoke_st (m0 m1 m2 m3 m4 m5 m6 m7 m8 m60 m61:Nat):Prop:=∀ {k:Nat} {q0:TQueue} {a1:Int} {r:TChange×Int×TQueue} (H0:partial_Queue_Revoke.f k q0 a1=some r),SCon Tryz.prog 31 [SV.p m0 0,.a (.c (.v (.int .i64 a1)))] (tkQueue m0 m1 m2 m3 m4 m5 m6 m7 m8 q0 []) (.tup [.agg [.nv m60,.nv m61],.c (.v (.int .i64 r.2.1))]) (tkQueue m0 m1 m2 m3 m4 m5 m6 m7 m8 r.2.2 [(m60,lrow m60 28 eTItem 2 (r.1.in_)),(m61,lrow m61 28 eTItem 2 (r.1.out))]) [m60,m61]
theorem partial_Queue_Revoke_con0:partial_Queue_Revoke_st 0 1 2 3 4 5 6 7 8 60 61:=by
 intro k q0 a1 r H0
 rw [partial_Queue_Revoke.f] at H0
 exact M.s Tryz.func31 Tryz.ntmps31 R fun β W F=>xg 5 [100] R<|At.nilBlk (n:=100) (l':=[_,_]) 0 101 28 eTItem 2 R R R R R<|At.nilBlk (n:=100) (l':=[_,_]) 1 102 28 eTItem 2 R R R R R<|xa 2 [] R<|M.b H0 fun x1 hx1 H0=>M.b H0 fun x2 hx2 H0=>xg 6 [] R<|kR (wave_Key_con hx1) R<|kR (Tree_FindM_con 1 2 hx2) R<|xd 6 [103] R<|M.n<|xa 8 [] R<|M.c R H0 (fun h1 H0=>xg 6 [] R<|At.nilAgg (t:=23) (l':=[_,_]) 0 104 28 eTItem 2 R R R R R<|At.nilAgg (t:=23) (l':=[_,_]) 1 105 28 eTItem 2 R R R R R<|At.nilBlk (n:=100) (l':=[_,_]) 0 106 28 eTItem 2 R R R R R<|At.nilBlk (n:=100) (l':=[_,_]) 1 107 28 eTItem 2 R R R R R<|xa 3 [] R<|by cases H0;exact ZR [(60,106),(61,107)]) (fun h1 H0=>xg 3 [] R<|M.b H0 fun x3 hx3 H0=>M.b H0 fun x4 hx4 H0=>xg 6 [] R<|kR (wave_Key_con hx3) R<|kR (Tree_RankM_con 1 2 hx4) R<|xd 1 [] R<|M.n<|xa 10 [] R<|M.c R H0 (fun h2 H0=>xg 1 [] R<|M.b H0 fun x5 hx5 H0=>xg 3 [] R<|k0 (partial_Queue_enter_con 0 1 2 3 4 5 6 7 8 108 109 R hx5) R<|xk 5 [110] R<|M.b H0 fun x6 hx6 H0=>M.b H0 fun x7 hx7 H0=>xg 6 [] R<|kR (wave_Key_con hx6) R<|k0 (Tree_DropM_con 1 2 hx7) R<|M.n<|xa 10 [] R<|by cases H0;exact ZR [(60,108),(61,109)]) (fun h2 H0=>xg 7 [] R<|K.buildL Y 111 ([x2.1.op.item]:List TItem) [(0,_)] [((.tmp 48),_)] eTItem_len g0 (AllE.spec ⟨R,trivial⟩) R R Tryz.underlying54 t28 R R R R R R R R<|xk 4 [112] R<|At.nilAgg (t:=50) (l':=[_,_]) 0 113 28 eTItem 2 R R R R R<|At.nilBlk (n:=112) (l':=[_,_]) 0 114 28 eTItem 2 R R R R R<|xa 1 [] R<|M.b H0 fun x8 H1 H0=>M.x ([(0,.a (.c (.p 0 0))),(1,.a (.c (.v (.int .i64 a1)))),(4,.a (.c (.p 115 0))),(6,.a (.c (.p 118 0))),(10,.a (.c (.p 119 0)))]) ((tkQueue 0 1 2 3 4 5 6 7 8 x8.1 [(116,lrow 116 28 eTItem 2 ([]:List TItem)),(117,lrow 117 28 eTItem 2 ([]:List TItem)),(115,blk 115 [.nv 116,.nv 117] 64),(118,blk 118 [.v (.int .i64 x2.1.op.time),.v (.bool x2.1.op.insert),.v (.int .i64 x2.1.op.item.key),.v (.int .i64 x2.1.op.item.id),.v (.bool x2.1.here),.v (.bool x2.1.took.found),.v (.int .i64 x2.1.took.item.key),.v (.int .i64 x2.1.took.item.id)] 101),(120,lrow 120 28 eTItem 2 x8.2.1),(121,lrow 121 28 eTItem 2 x8.2.2),(119,blk 119 [.nv 120,.nv 121] 64)])) (xg 7 [] R<|M.c R H1 (fun h3 H1=>M.b H1 fun x9 hx9 H1=>xg 4 [] R<|k0 (partial_Queue_leave_con 0 1 2 3 4 5 6 7 8 122 123 R hx9) R<|xk 2 [] R<|by cases H1;exact M.xd [(115,100),(116,101),(117,102),(118,103),(119,112),(120,122),(121,123)]) (fun h3 H1=>xg 1 [] R<|by cases H1;exact M.xd [(115,100),(116,101),(117,102),(118,103),(119,112),(120,114),(121,111)]))<|xg 1 [] R<|M.b H0 fun x10 hx10 H0=>M.b H0 fun x11 hx11 H0=>xg 6 [] R<|kR (wave_Key_con hx10) R<|k0 (Tree_DropM_con 1 2 hx11) R<|M.n<|xa 2 [] R<|M.b H0 fun x12 hx12 H0=>M.b H0 fun x13 hx13 H0=>xg 8 [] R<|kR (shelf_Of_con hx12) R<|k0 (Tree_DropS_con 3 4 hx13) R<|M.n<|xa 2 [] R<|M.b H0 fun x14 hx14 H0=>M.b H0 fun x15 hx15 H0=>xg 8 [] R<|kR (shelf_Of_con hx14) R<|k0 (Tree_DropS_con 5 6 hx15) R<|M.n<|xa 2 [] R<|M.b H0 fun x16 hx16 H0=>M.b H0 fun x17 hx17 H0=>xg 8 [] R<|kR (shelf_Of_con hx16) R<|k0 (Tree_DropS_con 7 8 hx17) R<|M.n<|xa 9 [] R<|by cases H0;exact ZR [(60,120),(61,121)]))
theorem partial_Queue_Revoke_con (m0 m1 m2 m3 m4 m5 m6 m7 m8 m60 m61:Nat) (hd:ndB [m0,m1,m2,m3,m4,m5,m6,m7,m8,m60,m61]=true):partial_Queue_Revoke_st m0 m1 m2 m3 m4 m5 m6 m7 m8 m60 m61:=fun H0=>cnB [(0,m0),(1,m1),(2,m2),(3,m3),(4,m4),(5,m5),(6,m6),(7,m7),(8,m8),(60,m60),(61,m61)] hd (partial_Queue_Revoke_con0 H0)
abbrev partial_Queue_Ops_st (m0 m1 m2 m3 m4 m5 m6 m7 m8 m30:Nat):Prop:=∀ {k:Nat} {q0:TQueue} {r:List TOp} (H0:partial_Queue_Ops.f k q0=some r),SCon Tryz.prog 38 [SV.p m0 0] (tkQueue m0 m1 m2 m3 m4 m5 m6 m7 m8 q0 []) (.a (.c (.nv m30))) (tkQueue m0 m1 m2 m3 m4 m5 m6 m7 m8 q0 [(m30,lrow m30 45 eTOp 4 r)]) [m30]
theorem partial_Queue_Ops_con0:partial_Queue_Ops_st 0 1 2 3 4 5 6 7 8 30:=by
 intro k q0 r H0
 rw [partial_Queue_Ops.f] at H0
 exact M.s Tryz.func38 Tryz.ntmps38 R fun β W F=>xg 2 [] R<|K.nilRow 100 45 eTOp 4 (.inl R) g0 R R R<|xk 4 [] R<|K.nilRow 101 45 eTOp 4 (.inl R) g0 R R R<|xk 2 [] R<|M.b H0 fun x1 H1 H0=>M.x ([(3,.a (.c (.nv 102)))]) (((102,lrow 102 45 eTOp 4 x1)::(tkQueue 0 1 2 3 4 5 6 7 8 q0 []))) (xg 1 [] R<|M.b H1 fun x2 hx2 H1=>xg 5 [] R<|k0 (Tree_AllM_con 1 2 103 R hx2) R<|K.lenL _ (lrowV_is eTMark_len (by decide)) g0 R R Tryz.underlying111 R<|xk 4 [] R<|M.l (partial_Queue_Ops.l0 k x2) H1 (fun (v1,v2)=>[(3,.a (.c (.nv 108))),(10,.a (.c (.nv 109))),(11,.a (.c (.v (.int .i64 (x2.length:Int))))),(12,.a (.c (.v (.int .i64 v2))))]) (fun (v1,v2)=>((108,lrow 108 45 eTOp 4 v1)::((109,lrow 109 101 eTMark 8 x2)::(tkQueue 0 1 2 3 4 5 6 7 8 q0 [])))) [(108,101),(109,103)] fun n0 (v1,v2) H1=>xg 6 [] R<|M.c R H1 (fun h1 H1=>xg 5 [] R<|M.b H1 fun x3 hx3 H1=>xg 1 [] R<|K.idxL _ _ (lrowV_is eTMark_len (by decide)) (atL_get hx3) (atL_nn hx3) g0 R R R Tryz.underlying111 el111.size_run R<|K.loadSL Y _ _ 0 [_,_,_,_,_,_,_,_] [_,_,_,_,_,_,_,_] (lrowV_is eTMark_len (by decide)) (atL_get hx3) g0 R R t101 R R R R R<|xk 4 [110] R<|M.e H1 fun h2 H1=>xg 4 [] R<|K.buildL Y 111 ([x3.op]:List TOp) [(0,_)] [((.tmp 18),_)] eTOp_len g0 (AllE.spec ⟨R,trivial⟩) R R Tryz.underlying34 t45 R R R R R R R R<|K.appendL 112 (lrowV 111 45 eTOp 4 ([x3.op]:List TOp)) _ el34 (lrowV_is eTOp_len (by decide)) eTOp_one g0 R R R R R (ap_m h2) (ap_b h2 (by decide)) R R R R R R<|xk 8 [] R<|M.ag H1 [(108,112)]) (fun h1 H1=>xg 4 [] R<|by cases H1;exact M.xd [(102,108)]))<|xg 7 [] R<|by cases H0;exact ZR [(30,102)]
theorem partial_Queue_Ops_con (m0 m1 m2 m3 m4 m5 m6 m7 m8 m30:Nat) (hd:ndB [m0,m1,m2,m3,m4,m5,m6,m7,m8,m30]=true):partial_Queue_Ops_st m0 m1 m2 m3 m4 m5 m6 m7 m8 m30:=fun H0=>cnB [(0,m0),(1,m1),(2,m2),(3,m3),(4,m4),(5,m5),(6,m6),(7,m7),(8,m8),(30,m30)] hd (partial_Queue_Ops_con0 H0)
abbrev partial_Queue_Len_st (m0 m1 m2 m3 m4 m5 m6 m7 m8:Nat):Prop:=∀ {k:Nat} {q0:TQueue} {r:Int} (H0:partial_Queue_Len.f k q0=some r),SCon Tryz.prog 30 [SV.p m0 0] (tkQueue m0 m1 m2 m3 m4 m5 m6 m7 m8 q0 []) (.a (.c (.v (.int .i64 r)))) (tkQueue m0 m1 m2 m3 m4 m5 m6 m7 m8 q0 []) []
theorem partial_Queue_Len_con0:partial_Queue_Len_st 0 1 2 3 4 5 6 7 8:=by
 intro k q0 r H0
 rw [partial_Queue_Len.f] at H0
 exact M.s Tryz.func30 Tryz.ntmps30 R fun β W F=>xg 6 [] R<|M.b H0 fun x1 hx1 H0=>xg 5 [] R<|kR (Tree_LenM_con 1 2 hx1) R<|xk 4 [] R<|by cases H0;exact ZR []
theorem partial_Queue_Len_con (m0 m1 m2 m3 m4 m5 m6 m7 m8:Nat):partial_Queue_Len_st m0 m1 m2 m3 m4 m5 m6 m7 m8:=fun H0=>cnA [(0,m0),(1,m1),(2,m2),(3,m3),(4,m4),(5,m5),(6,m6),(7,m7),(8,m8)] (partial_Queue_Len_con0 H0)
abbrev partial_Queue_all_st (m0 m1 m2 m3 m4 m5 m6 m7 m8:Nat):Prop:=∀ {k:Nat} {q0:TQueue} {r:TSwell} (H0:partial_Queue_all.f k q0=some r),SCon Tryz.prog 126 [SV.p m0 0] (tkQueue m0 m1 m2 m3 m4 m5 m6 m7 m8 q0 []) (.a (.agg ((eTSwell r).map .v))) (tkQueue m0 m1 m2 m3 m4 m5 m6 m7 m8 q0 []) []
theorem partial_Queue_all_con0:partial_Queue_all_st 0 1 2 3 4 5 6 7 8:=by
 intro k q0 r H0
 rw [partial_Queue_all.f] at H0
 exact M.s Tryz.func126 Tryz.ntmps126 R fun β W F=>xg 6 [100] R<|M.b H0 fun x1 hx1 H0=>M.b H0 fun x2 hx2 H0=>xg 9 [] R<|kR (Tree_LenM_con 1 2 hx1) R<|kR (Tree_BetweenM_con 1 2 hx2) R<|xd 1 [] R<|M.n<|xa 2 [] R<|by cases H0;exact ZR []
theorem partial_Queue_all_con (m0 m1 m2 m3 m4 m5 m6 m7 m8:Nat):partial_Queue_all_st m0 m1 m2 m3 m4 m5 m6 m7 m8:=fun H0=>cnA [(0,m0),(1,m1),(2,m2),(3,m3),(4,m4),(5,m5),(6,m6),(7,m7),(8,m8)] (partial_Queue_all_con0 H0)
abbrev partial_Queue_Deletes_st (m0 m1 m2 m3 m4 m5 m6 m7 m8:Nat):Prop:=∀ {k:Nat} {q0:TQueue} {r:Int} (H0:partial_Queue_Deletes.f k q0=some r),SCon Tryz.prog 96 [SV.p m0 0] (tkQueue m0 m1 m2 m3 m4 m5 m6 m7 m8 q0 []) (.a (.c (.v (.int .i64 r)))) (tkQueue m0 m1 m2 m3 m4 m5 m6 m7 m8 q0 []) []
theorem partial_Queue_Deletes_con0:partial_Queue_Deletes_st 0 1 2 3 4 5 6 7 8:=by
 intro k q0 r H0
 rw [partial_Queue_Deletes.f] at H0
 exact M.s Tryz.func96 Tryz.ntmps96 R fun β W F=>xg 6 [] R<|M.b H0 fun x1 hx1 H0=>xg 2 [] R<|kR (partial_Queue_all_con 0 1 2 3 4 5 6 7 8 hx1) R<|xk 5 [] R<|by cases H0;exact ZR []
theorem partial_Queue_Deletes_con (m0 m1 m2 m3 m4 m5 m6 m7 m8:Nat):partial_Queue_Deletes_st m0 m1 m2 m3 m4 m5 m6 m7 m8:=fun H0=>cnA [(0,m0),(1,m1),(2,m2),(3,m3),(4,m4),(5,m5),(6,m6),(7,m7),(8,m8)] (partial_Queue_Deletes_con0 H0)
abbrev partial_Queue_Present_st (m0 m1 m2 m3 m4 m5 m6 m7 m8:Nat):Prop:=∀ {k:Nat} {q0:TQueue} {r:Unit} (H0:partial_Queue_Present.f k q0=some r),SCon Tryz.prog 93 [SV.p m0 0] (tkQueue m0 m1 m2 m3 m4 m5 m6 m7 m8 q0 []) (.a (.c (.p m3 0))) (tkQueue m0 m1 m2 m3 m4 m5 m6 m7 m8 q0 []) []
theorem partial_Queue_Present_con0:partial_Queue_Present_st 0 1 2 3 4 5 6 7 8:=by
 intro k q0 r H0
 rw [partial_Queue_Present.f] at H0
 exact M.s Tryz.func93 Tryz.ntmps93 R fun β W F=>xg 15 [] R<|by cases H0;exact ZR []
theorem partial_Queue_Present_con (m0 m1 m2 m3 m4 m5 m6 m7 m8:Nat):partial_Queue_Present_st m0 m1 m2 m3 m4 m5 m6 m7 m8:=fun H0=>cnA [(0,m0),(1,m1),(2,m2),(3,m3),(4,m4),(5,m5),(6,m6),(7,m7),(8,m8)] (partial_Queue_Present_con0 H0)
abbrev partial_Queue_Gone_st (m0 m1 m2 m3 m4 m5 m6 m7 m8:Nat):Prop:=∀ {k:Nat} {q0:TQueue} {r:Unit} (H0:partial_Queue_Gone.f k q0=some r),SCon Tryz.prog 95 [SV.p m0 0] (tkQueue m0 m1 m2 m3 m4 m5 m6 m7 m8 q0 []) (.a (.c (.p m5 0))) (tkQueue m0 m1 m2 m3 m4 m5 m6 m7 m8 q0 []) []
theorem partial_Queue_Gone_con0:partial_Queue_Gone_st 0 1 2 3 4 5 6 7 8:=by
 intro k q0 r H0
 rw [partial_Queue_Gone.f] at H0
 exact M.s Tryz.func95 Tryz.ntmps95 R fun β W F=>xg 15 [] R<|by cases H0;exact ZR []
theorem partial_Queue_Gone_con (m0 m1 m2 m3 m4 m5 m6 m7 m8:Nat):partial_Queue_Gone_st m0 m1 m2 m3 m4 m5 m6 m7 m8:=fun H0=>cnA [(0,m0),(1,m1),(2,m2),(3,m3),(4,m4),(5,m5),(6,m6),(7,m7),(8,m8)] (partial_Queue_Gone_con0 H0)
end Go.Proofs.YtgjbibabegabnaaGreat
namespace Go.Proofs.YtgjbibabegabnaaGreat
open Go Go.Proofs.YtgjbibabegabnaaGreat.Sx
abbrev qks:List Nat:=[1,2,3,4,5,6,7,8,9]
abbrev tq (q:TQueue):List (Nat×Tok):=tkQueue 1 2 3 4 5 6 7 8 9 q []
theorem tq_byB (q:TQueue):ByB (tq q) qks:=by
  intro β a h
  have h1:=h 1 (by decide)
  have h2:=h 2 (by decide)
  have h3:=h 3 (by decide)
  have h4:=h 4 (by decide)
  have h5:=h 5 (by decide)
  have h6:=h 6 (by decide)
  have h7:=h 7 (by decide)
  have h8:=h 8 (by decide)
  have h9:=h 9 (by decide)
  simp only [tq,tkQueue,List.map_cons,List.map_nil,blk,pl,Cl.den,adEnv,h1,h2,h3,h4,h5,h6,h7,h8,h9]
def gN (l:List Nat) (j:Nat):Nat:=l.getD (j - 1) 0
theorem tq_at (n0 n1 n2 n3 n4 n5 n6 n7 n8:Nat) (q:TQueue) (β:Env):((tkQueue n0 n1 n2 n3 n4 n5 n6 n7 n8 q []).map fun p=>p.2.r β)=(tq q).map fun p=>p.2.r (adEnv (adr qks (gN [n0,n1,n2,n3,n4,n5,n6,n7,n8]) β)):=by
  have h : ∀ j∈qks,(adr qks (gN [n0,n1,n2,n3,n4,n5,n6,n7,n8]) β) j=(β (gN [n0,n1,n2,n3,n4,n5,n6,n7,n8] j)).b:=fun j hj=>by unfold adr;rw [if_pos hj]
  have h1:=h 1 (by decide)
  have h2:=h 2 (by decide)
  have h3:=h 3 (by decide)
  have h4:=h 4 (by decide)
  have h5:=h 5 (by decide)
  have h6:=h 6 (by decide)
  have h7:=h 7 (by decide)
  have h8:=h 8 (by decide)
  have h9:=h 9 (by decide)
  simp only [tq,tkQueue,List.map_cons,List.map_nil,blk,pl,Cl.den,adEnv,h1,h2,h3,h4,h5,h6,h7,h8,h9]
  rfl
end Go.Proofs.YtgjbibabegabnaaGreat
namespace Go.Proofs.YtgjbibabegabnaaGreat
open Go Go.Proofs.YtgjbibabegabnaaGreat.Sx
def payQ (q:TQueue) (v:Value):Res:=exR fun a:Nat→Nat=>starRes [pureRes (v=ptr (a 1) 0),eltRes (tq q) a]
theorem payQ_op (n0 n1 n2 n3 n4 n5 n6 n7 n8:Nat) (q:TQueue) (hnd:ndB [n0,n1,n2,n3,n4,n5,n6,n7,n8]=true):Pay payQ q (tkQueue n0 n1 n2 n3 n4 n5 n6 n7 n8 q []) (.p n0 0) [n0,n1,n2,n3,n4,n5,n6,n7,n8] where
  op:=by
    rintro β w F v ⟨a,h⟩
    obtain ⟨hv,h2⟩:=Star_pure.1 h
    have h2:Star ((tq q).map fun p=>p.2.r (adEnv a)) w F:=Star_one.1 h2
    have hn:=ndB_spec hnd
    simp only [List.nodup_cons,List.mem_cons,not_or,List.not_mem_nil,not_false_eq_true,and_true] at hn
    obtain ⟨⟨a1,a2,a3,a4,a5,a6,a7,a8⟩,⟨b2,b3,b4,b5,b6,b7,b8⟩,⟨c3,c4,c5,c6,c7,c8⟩,⟨d4,d5,d6,d7,d8⟩,⟨e5,e6,e7,e8⟩,⟨f6,f7,f8⟩,⟨g7,g8⟩,h8,_⟩:=hn
    let β':Env:=fun j=>if j=n0 then ⟨a 1,undef⟩ else if j=n1 then ⟨a 2,undef⟩ else if j=n2 then ⟨a 3,undef⟩ else if j=n3 then ⟨a 4,undef⟩ else if j=n4 then ⟨a 5,undef⟩ else if j=n5 then ⟨a 6,undef⟩ else if j=n6 then ⟨a 7,undef⟩ else if j=n7 then ⟨a 8,undef⟩ else if j=n8 then ⟨a 9,undef⟩ else β j
    have k1:β' n0=⟨a 1,undef⟩:=by simp [β']
    have k2:β' n1=⟨a 2,undef⟩:=by simp [β',Ne.symm a1]
    have k3:β' n2=⟨a 3,undef⟩:=by simp [β',Ne.symm a2,Ne.symm b2]
    have k4:β' n3=⟨a 4,undef⟩:=by simp [β',Ne.symm a3,Ne.symm b3,Ne.symm c3]
    have k5:β' n4=⟨a 5,undef⟩:=by simp [β',Ne.symm a4,Ne.symm b4,Ne.symm c4,Ne.symm d4]
    have k6:β' n5=⟨a 6,undef⟩:=by simp [β',Ne.symm a5,Ne.symm b5,Ne.symm c5,Ne.symm d5,Ne.symm e5]
    have k7:β' n6=⟨a 7,undef⟩:=by simp [β',Ne.symm a6,Ne.symm b6,Ne.symm c6,Ne.symm d6,Ne.symm e6,Ne.symm f6]
    have k8:β' n7=⟨a 8,undef⟩:=by simp [β',Ne.symm a7,Ne.symm b7,Ne.symm c7,Ne.symm d7,Ne.symm e7,Ne.symm f7,Ne.symm g7]
    have k9:β' n8=⟨a 9,undef⟩:=by simp [β',Ne.symm a8,Ne.symm b8,Ne.symm c8,Ne.symm d8,Ne.symm e8,Ne.symm f8,Ne.symm g8,Ne.symm h8]
    refine ⟨β',fun j hj=>?_,?_,?_⟩
    · simp only [List.mem_cons,not_or,List.not_mem_nil,not_false_eq_true,and_true] at hj
      obtain ⟨j0,j1,j2,j3,j4,j5,j6,j7,j8⟩:=hj
      simp [β',j0,j1,j2,j3,j4,j5,j6,j7,j8]
    · have e : ((tkQueue n0 n1 n2 n3 n4 n5 n6 n7 n8 q []).map fun p => p.2.r β') = (tq q).map fun p => p.2.r (adEnv a) := by
        simp only [tq,tkQueue,List.map_cons,List.map_nil,blk,pl,Cl.den,adEnv,k1,k2,k3,k4,k5,k6,k7,k8,k9]
      rw [e];exact h2
    · rw [hv];simp [Cl.den,k1,ptr]
theorem payQ_cl (n0 n1 n2 n3 n4 n5 n6 n7 n8:Nat) (q:TQueue):PayC payQ q (tkQueue n0 n1 n2 n3 n4 n5 n6 n7 n8 q []) (.p n0 0) where
  cl:=by
    intro β w F h
    rw [tq_at] at h
    refine ⟨adr qks (gN [n0,n1,n2,n3,n4,n5,n6,n7,n8]) β,Star_pure.2 ⟨?_,Star_one.2 h⟩⟩
    simp [Cl.den,ptr,adr,gN]
end Go.Proofs.YtgjbibabegabnaaGreat
namespace Go.Proofs.YtgjbibabegabnaaGreat
open Go Go.Proofs.YtgjbibabegabnaaGreat.Sx
theorem w64_id {x:Int} (h0 : -9223372036854775808≤x) (h1:x<9223372036854775808):w64 x=x:=by simp only [w64,IntKind.wrap_i64];omega
theorem w64_succ {i:Nat} (h:i<4611686018427387904):w64 ((i:Int)+1)=((i+1:Nat):Int):=by rw [w64_id (by omega) (by omega)];omega
theorem atL_nat {α:Type} {l:List α} {i:Nat} {x:α} (h:l[i]? = some x):atL l (i:Int)=some x:=by
  unfold atL
  have : ¬ ((i:Int)<0):=by omega
  simp [this,h]
theorem drop_cons {α:Type} {l:List α} {i:Nat} (h:i<l.length) : ∃ x,l[i]? = some x∧l.drop i=x::l.drop (i+1) :=
  ⟨l[i],List.getElem?_eq_getElem h,List.drop_eq_getElem_cons h⟩
theorem dec_lt {i n:Nat} (h:i<n):decide ((i:Int)<(n:Int))=true:=by simp;omega
theorem dec_nlt {i n:Nat} (h:n≤i):decide ((i:Int)<(n:Int))=false:=by simp;omega
end Go.Proofs.YtgjbibabegabnaaGreat
namespace Go.Proofs.YtgjbibabegabnaaGreat
open Go Go.Proofs.YtgjbibabegabnaaGreat.Sx
def ilt (a b:TItem):Prop:=a.key<b.key∨(a.key=b.key∧a.id<b.id)
def ile (a b:TItem):Prop:=a.key<b.key∨(a.key=b.key∧a.id≤b.id)
instance (a b:TItem):Decidable (ilt a b):=by unfold ilt;infer_instance
instance (a b:TItem):Decidable (ile a b):=by unfold ile;infer_instance
theorem item_ext {a b:TItem} (h1:a.key=b.key) (h2:a.id=b.id):a=b:=by cases a;cases b;simp_all
theorem ile_refl (a:TItem):ile a a:=by unfold ile;omega
theorem ile_trans {a b c:TItem} (h:ile a b) (h':ile b c):ile a c:=by unfold ile at *;omega
theorem ile_antisymm {a b:TItem} (h:ile a b) (h':ile b a):a=b:=by unfold ile at *;exact item_ext (by omega) (by omega)
theorem not_ilt {a b:TItem} : ¬ ilt a b↔ile b a:=by unfold ilt ile;omega
theorem ilt_ile {a b:TItem} (h:ilt a b):ile a b:=by unfold ilt at h;unfold ile;omega
theorem ilt_iff {a b:TItem}:ilt a b↔ile a b∧a≠b:=by
  constructor
  · intro h;exact ⟨ilt_ile h,fun e=>by subst e;unfold ilt at h;omega⟩
  · rintro ⟨h,hn⟩
    rcases Classical.em (ilt a b) with h1 | h1
    · exact h1
    · exact absurd (ile_antisymm h (not_ilt.1 h1)) hn
theorem ilt_trans_le {a b c:TItem} (h:ilt a b) (h':ile b c):ilt a c:=by unfold ilt ile at *;omega
theorem ile_trans_lt {a b c:TItem} (h:ile a b) (h':ilt b c):ilt a c:=by unfold ilt ile at *;omega
theorem ilt_irrefl (a:TItem) : ¬ ilt a a:=by unfold ilt;omega
def isgn (a b:TItem):Int:=if ilt a b then -1 else if ilt b a then 1 else 0
def csgn (a b:Int):Int:=if a<b then -1 else if b<a then 1 else 0
theorem cmpCompare_eq (k:Nat) (a b:Int):cmp_Compare.f k a b=some (csgn a b):=by
  unfold cmp_Compare.f cmp_isNaN.f csgn
  by_cases h1:a<b
  · simp [h1]
  · by_cases h2:b<a
    · simp [h1,h2]
    · simp [h1,h2]
theorem cmpOr_eq (k:Nat) (hk:3≤k) (a b:Int):cmp_Or.f k [a,b]=some (if a≠0 then a else b):=by
  obtain ⟨m,rfl⟩ : ∃ m,k=m+3:=⟨k - 3,by omega⟩
  unfold cmp_Or.f
  have e1:w64 (0+1)=1:=by decide
  have e2:w64 1=1:=by decide
  have e3:w64 2=2:=by decide
  by_cases h1:a=0
  · subst h1
    by_cases h2:b=0
    · subst h2;simp [cmp_Or.l0,atL,e1,e2,e3]
    · have h3:(b != 0)=true:=by simpa using h2
      simp [cmp_Or.l0,atL,e1,e2,e3,h2,h3]
  · have h3:(a != 0)=true:=by simpa using h1
    simp [cmp_Or.l0,atL,e1,e2,e3,h1,h3]
theorem itemCompare_eq (k:Nat) (hk:3≤k) (a b:TItem):item_Compare.f k a b=some (isgn a b):=by
  unfold item_Compare.f
  simp only [cmpCompare_eq,Option.bind_some,cmpOr_eq k hk]
  congr 1
  unfold csgn isgn ilt
  by_cases h1:a.key<b.key
  · simp [h1]
  · by_cases h2:b.key<a.key
    · have h3 : ¬ a.key=b.key:=by omega
      have h4 : ¬ b.key=a.key:=by omega
      simp [h1,h2,h3,h4]
    · have h3:a.key=b.key:=by omega
      simp [h3]
abbrev Sorted (l:List TItem):Prop:=l.Pairwise ile
theorem sorted_perm_eq : ∀ {l l':List TItem},Sorted l→Sorted l'→l.Perm l'→l=l':=by
  intro l l' h h' hp
  exact hp.eq_of_pairwise (le:=fun a b=>ile a b) (fun a b _ _ h1 h2=>ile_antisymm h1 h2) h h'
end Go.Proofs.YtgjbibabegabnaaGreat
namespace Go.Proofs.YtgjbibabegabnaaGreat.Sx
open Go Go.RowKit
def Wd (ro:Option Nat):Fence:={ Fence.wide with round:=ro }
theorem wd_calls {ro:Option Nat} {n:Nat} {P:Program} {f:FuncId} {args:Array Value} {w:World} {R:Ending→World→Prop} (h:Calls P f args w R):CallsIn (Wd ro) n P f args w R:=(callsIn_wide (n:=n)).2 h
theorem wd_rows {ro:Option Nat} {n:Nat} {P:Program} {row:String} {args:Array Value} {w:World} {R:Value→World→Prop} (h:Rows P row args w R):RowsIn (Wd ro) n P row args w R:=by
  intro c cs _
  obtain ⟨v,w',hr,hs⟩:=h c cs
  exact ⟨v,w',hr,stepsIn_wide.2 hs⟩
def plainB (o:Oper):Bool:=match o.op with
  | .defer _ => false
  | _ => true
theorem wp_in {ro:Option Nat} {n:Nat} {P:Program} {o:Oper} {a:Act} {w:World} {K:Act→World→Prop} {Q:Exit→Act→World→Prop} (hp:plainB o=true) (h:o.wp P a w K Q):o.wpIn (Wd ro) n P a w K Q:=by
  refine ⟨fun _ _=>trivial,?_⟩
  unfold Oper.wp at h
  have hd : ∀ c,o.op≠.defer c:=fun c e=>by unfold plainB at hp;rw [e] at hp;cases hp
  rw [Oper.semAt_eq _ _ _ hd]
  generalize (execOp a.eval o).run P w=r at h
  cases r with
  | halt x w' => cases x <;> first | exact h | exact h.elim
  | ok x w' =>
    cases x with
    | value v => exact h
    | skip => exact h
    | defer d => exact h
    | enter f args => exact ⟨fun h => (by cases h), wd_calls h⟩
    | row r args => exact ⟨fun h => (by cases h), wd_rows h⟩
    | _ => exact h.elim
theorem opW_in {ro:Option Nat} {n:Nat} {P:Program} {ops:Array Oper} {Q:Exit→Act→World→Prop} {o:Oper} {rest:List Oper} {a:Act} {w:World} (hp:plainB o=true) (h:opW P ops Q o (wpListIn (Wd ro) n P ops Q rest) a w):wpListIn (Wd ro) n P ops Q (o::rest) a w:=by
  unfold wpListIn;unfold opW at h
  split
  · rename_i hw;rw [if_pos hw] at h;exact wp_in hp h
  · rename_i hw;rw [if_neg hw] at h;exact ⟨fun _ _=>trivial,h⟩
theorem Run.soundI {C : Ctx} {P : Program} {ops : Array Oper} {Q : Exit → Act → World → Prop} {ro : Option Nat} {m : Nat} {rest : List Oper} {l : List Oper} {fs fs' : FL} {L L' : TL} {ss : List Step} (h : Run P C.n ops l fs L ss fs' L') :
    l.all plainB=true→∀ {a:Act} {w:World},Holds C (lk fs) (lkT L) a w→(∀ a' w',Holds C (lk fs') (lkT L') a' w'→wpListIn (Wd ro) m P ops Q rest a' w')→wpListIn (Wd ro) m P ops Q (l++rest) a w:=by
  induction h with
  | nil => intro _ a w hh hq; exact hq _ _ hh
  | cons hv hf h1 h2 _ ih =>
    intro hp a w hh hq
    rw [List.all_cons,Bool.and_eq_true] at hp
    refine opW_in hp.1 (step_state hv hf hh (fun a' w' hh'=>ih hp.2 ?_ hq))
    have e2:=funext h2
    rw [h1,e2];exact hh'
def obRes (b:Nat) (o:Obj):Res where
  holds w F:=(∀ x,F x↔x=b)∧w.heap[b]? = some o
  loc hw h:=⟨h.1,(hw b ((h.1 b).2 rfl)).trans h.2⟩
  lt h hb:=by
    rename_i w F x
    have:=(h.1 x).1 hb
    subst this
    exact (Array.getElem?_eq_some_iff.1 h.2).1
def ob (b:Nat) (o:Obj):Tok:={ ks:=[],r:=fun _=>obRes b o,sup:=fun _=>rfl }
def jt (J:Res):Tok:={ ks:=[],r:=fun _=>J,sup:=fun _=>rfl }
def Yld (P:Program) (l:Nat) (v:Value) (J J':Res):Prop :=
  ∀ (w:World) (F:Foot),J.holds w F→YieldAt Fence.wide 0 P l #[v] w fun e w'=>e=.returned (.bool true)∧∃ F',J'.holds w' F'∧(∀ b,F' b→F b∨w.heap.size≤b)∧Mod F w w'
theorem yield_step {C : Ctx} {P : Program} {ops : Array Oper} {Q : Exit → Act → World → Prop} {rest : List Oper} {fs : FL} {L : TL} {d : Nat} {co x : Operand} {ats : Array TypeId} {ty : TypeId} {pos : String} {after : Array Edge} {l kJ : Nat} {v : SV} {J J' : Res}
    (hc:ev fs co=some (SV.raw (.func (.yield l) #[] #[]))) (hx:ev fs x=some v) (hv:v.ks=[]) (hJ:lkT L kJ=some (jt J)) (hy:Yld P l (v.den C.β0) J J') (hn:Nat.blt d C.n=true)
    {a:Act} {w:World} (hh:Holds C (lk fs) (lkT L) a w)
    (hq : ∀ a' w',Holds C (lk ((d,SV.b true)::fs)) (lkT ((kJ,some (jt J'))::L)) a' w'→wpListIn Fence.wide 0 P ops Q rest a' w') :
    wpListIn Fence.wide 0 P ops Q (⟨some d,.call ⟨.value co,#[x],ats⟩,ty,pos,after,none⟩::rest) a w:=by
  obtain ⟨β,F,hβ,hfs,hlt,hsz,hd,hs,hF,hM⟩:=hh
  obtain ⟨F1,F2,e1,dj,h1,h2⟩:=hs.take hJ
  have ev_eval : ∀ {o:Operand} {y:SV},ev fs o=some y→a.eval o=y.den β:=fun {o y} h=>by
    cases o with
    | tmp t => exact hfs t y h
    | const v => simp only [ev, Option.some.injEq] at h; subst h; rfl
    | func f => simp only [ev, Option.some.injEq] at h; subst h; rfl
    | global g => simp only [ev, Option.some.injEq] at h; subst h; rfl
  have ec:a.eval co=.func (.yield l) #[] #[]:=ev_eval hc
  have ex:a.eval x=v.den C.β0:=by
    rw [ev_eval hx];exact SV.den_congr v (fun k hk=>by rw [hv] at hk;cases hk)
  obtain ⟨fn,tmps,assign,body,hy1,hy2⟩:=hy w F1 h1
  refine wpListIn_plain rfl (fun K hK=>?_)
  refine ⟨fun _ _=>trivial,?_⟩
  have e0:(Oper.semAt Fence.wide.round a.eval ⟨some d,.call ⟨.value co,#[x],ats⟩,ty,pos,after,none⟩).run P w=.ok (.round l fn tmps assign body) w:=by
    rw [show Fence.wide.round=none from rfl,Oper.semAt_none]
    simp only [execOp,resolve,ec,Deferred.ofValue,Sem.run_bind,Sem.run_pure,Result.andThen_ok,invoke,List.map_toArray,List.map_cons,List.map_nil,ex]
    rw [Array.empty_append];exact hy1
  rw [e0]
  refine ⟨fun h=>(by cases h),hy2.mono (fun e w' he=>?_)⟩
  obtain ⟨rfl,F',hj,hf',hm⟩:=he
  refine hK _ _ (hq _ _ ?_)
  have hlt2 : ∀ b,F2 b→b<w.heap.size:=fun b hb=>h2.lt hb
  have h3:=h2.loc (fun b hb=>hm.block b (hlt2 b hb) (fun h=>dj b h hb))
  have dj' : ∀ b,F' b→¬ F2 b:=fun b hb h2'=>(hf' b hb).elim (fun h=>dj b h h2') (fun h=>Nat.lt_irrefl _ (Nat.lt_of_lt_of_le (hlt2 b h2') h))
  have h4:=h3.put (k:=kJ) (t:=jt J') (F:=fun b=>F' b∨F2 b) (by simp [upd]) hj dj' (fun b=>Iff.rfl)
  refine ⟨β,fun b=>F' b∨F2 b,hβ,?_,?_,(put_size _ _ _).trans hsz,(put_defers _ _ _).trans hd,h4.congr (fun j=>?_),?_,?_⟩
  · intro t y hy'
    rw [lk_cons] at hy'
    simp only [upd] at hy'
    by_cases ed:t=d
    · subst ed
      simp at hy';subst hy'
      exact getD_put_same (by rw [hsz];rwa [Nat.blt_eq] at hn)
    · rw [if_neg ed] at hy'
      exact (getD_put (fun k h=>by cases h;exact Ne.symm ed)).trans (hfs t y hy')
  · intro t ht
    rw [put_size]
    rw [lk_cons] at ht
    simp only [upd] at ht
    by_cases ed:t=d
    · subst ed;rw [hsz];rwa [Nat.blt_eq] at hn
    · rw [if_neg ed] at ht;exact hlt t ht
  · rw [lkT_cons];unfold upd;split <;> rfl
  · rintro b (hb | hb)
    · rcases hf' b hb with h | h
      · exact hF b ((e1 b).2 (.inl h))
      · exact .inr (Nat.le_trans hM.size h)
    · exact hF b ((e1 b).2 (.inr hb))
  · exact hM.trans hm (fun k hk=>hF k ((e1 k).2 (.inl hk)))
def YK (C:Ctx) (P:Program) (d:Nat) (co x:Operand) (l2:List Oper) (Q:Exit→Act→World→Prop) (fs1:FL) (L1:TL):Prop :=
  ∃ (l kJ:Nat) (v:SV) (J J':Res),ev fs1 co=some (SV.raw (.func (.yield l) #[] #[]))∧ev fs1 x=some v∧v.ks=[]∧lkT L1 kJ=some (jt J)∧Yld P l (v.den C.β0) J J'∧Nat.blt d C.n=true ∧
    ∀ ops,RunK P C.n ops l2 ((d,SV.b true)::fs1) ((kJ,some (jt J'))::L1) (fun _ fs2 L2=>At C fs2 L2 (Q .normal))
theorem G.regionY {C : Ctx} {P : Program} {fs : FL} {L : TL} {Q : Exit → Act → World → Prop} {id : Nat} {l1 l2 : List Oper} {d : Nat} {co x : Operand} {ats : Array TypeId} {ty : TypeId} {pos : String} {after : Array Edge}
    (h : ∀ ops,RunK P C.n ops l1 fs L (fun _ fs1 L1=>YK C P d co x l2 Q fs1 L1)) (p1:l1.all plainB=true) (p2:l2.all plainB=true) :
    G C P fs L (.region id (l1++⟨some d,.call ⟨.value co,#[x],ats⟩,ty,pos,after,none⟩::l2).toArray false) Q:=by
  intro a w hh
  refine (wpIn_wide (n:=0)).1 (wpIn_region_lit ?_)
  obtain ⟨ss,fs1,L1,h1,l,kJ,v,J,J',hc,hx,hv,hJ,hy,hn,h2⟩:=h (l1++⟨some d,.call ⟨.value co,#[x],ats⟩,ty,pos,after,none⟩::l2).toArray
  obtain ⟨ss2,fs2,L2,h3,hq⟩:=h2 (l1++⟨some d,.call ⟨.value co,#[x],ats⟩,ty,pos,after,none⟩::l2).toArray
  refine Run.soundI (ro:=none) h1 p1 hh (fun a' w' hh'=>?_)
  refine yield_step (rest:=l2) hc hx hv hJ hy hn hh' (fun a2 w2 hh2=>?_)
  have:=Run.soundI (ro:=none) (m:=0) (rest:=[]) (Q:=Q) h3 p2 hh2 (fun a3 w3 hh3=>wpListIn_nil (hq a3 w3 hh3))
  rwa [List.append_nil] at this
def GR (ro:Nat) (C:Ctx) (P:Program) (fs:FL) (L:TL) (c:Code) (Q:Exit→Act→World→Prop):Prop :=
  ∀ a w,Holds C (lk fs) (lkT L) a w→c.wpIn (Wd (some ro)) 0 P Q a w
section
variable {ro:Nat} {C:Ctx} {P:Program} {fs fs':FL} {L L':TL} {Q:Exit→Act→World→Prop}
theorem GR.rg {id:Nat} {l:List Oper} (hp:l.all plainB=true) (h:RunK P C.n l.toArray l fs L (fun _ fs' L'=>At C fs' L' (Q .normal))):GR ro C P fs L (.region id l.toArray false) Q:=by
  intro a w hh
  obtain ⟨ss,fs',L',h1,h2⟩:=h
  refine wpIn_region_lit ?_
  have:=Run.soundI (ro:=some ro) (m:=0) (rest:=[]) (Q:=Q) h1 hp hh (fun a3 w3 hh3=>wpListIn_nil (h2 a3 w3 hh3))
  rwa [List.append_nil] at this
theorem GR.block {id:Nat} {c:Code} (h:GR ro C P fs L c (Exit.inBlock id Q)):GR ro C P fs L (.block id c) Q:=fun a w hh=>wpIn_block (h a w hh)
end
theorem starM_of {β:Env} {w:World} {F:Foot} {ti:List (Nat×Tok)} (hs:Star (ti.map fun p=>p.2.r β) w F) (hnd:(ti.map (·.1)).Nodup):StarM (lkT (ti.map fun p=>(p.1,some p.2))) β w F:=by
  have h0:StarM (fun _=>none) β w (fun _=>False):=⟨fun _ _=>False,⟨fun _ _ h=>(by cases h),fun _ _ _ h=>h,fun _ _ _ _ h=>False.elim h,fun b=>by simp⟩⟩
  have:=StarM.puts (l:=ti) (F:=F) h0 (fun _ _=>rfl) hnd hs (fun _ _ h=>h) (fun b=>by simp)
  refine this.congr (fun k=>?_)
  have e1 : ∀ (to:List (Nat×Tok)),lkT (to.map (fun p=>(p.1,some p.2))) k=lkP to k:=by
    intro to
    induction to with
    | nil => rfl
    | cons p to ih =>
      rw [List.map_cons,lkT_cons]
      simp only [upd,lkP]
      split <;> simp [ih]
  rw [e1,puts_eq];simp
theorem star_ren {L : TL} {β : Env} {w : World} {F : Foot} {f : Nat → Nat} {tl : List (Nat × Tok)} {ts : List Tok} (hs : StarM (lkT L) β w F) (hl : RenL f L tl ts) (hnd : ((tl.map (·.1)).map f).Nodup) :
    ∃ F':Foot,Star (tl.map fun p=>p.2.r (fun k=>β (f k))) w F'∧∀ b,F' b→F b:=by
  obtain ⟨to,h1,h2,h3⟩ : ∃ to:List (Nat×Tok),(∀ p∈to,lkT L p.1=some p.2)∧to.map (·.1)=(tl.map (·.1)).map f∧(to.map fun p=>p.2.r β)=(tl.map fun p=>p.2.r (fun k=>β (f k))):=by
    clear hnd
    induction tl generalizing ts with
    | nil => exact ⟨[], fun p h => (by cases h), rfl, rfl⟩
    | cons p tl ih =>
      cases ts with
      | nil => exact hl.elim
      | cons t ts =>
        obtain ⟨to,h1,h2,h3⟩:=ih hl.2.2
        refine ⟨(f p.1,t)::to,fun q hq=>?_,?_,?_⟩
        · rcases List.mem_cons.1 hq with rfl | hq
          · exact hl.1
          · exact h1 q hq
        · simp only [List.map_cons];rw [← h2]
        · simp only [List.map_cons];rw [← h3,hl.2.1 β]
  obtain ⟨F',g1,g2⟩:=star_end hs h1 (by rw [h2];exact hnd)
  exact ⟨F',by rw [← h3];exact g1,g2⟩
def jl (l D:Nat) (r:Loop) (T:List (Nat×Tok)):List (Nat×Tok):=(16,ob l (.loop r))::(17,ob D (.deferred (some [])))::T
def JRes (βr:Env) (l D:Nat) (r:Loop) (T:List (Nat×Tok)):Res where
  holds w F:=∃ β:Env,(∀ k,k<20→β k=βr k)∧Star ((jl l D r T).map fun p=>p.2.r β) w F
  loc:=by
    intro w w' F hw h
    obtain ⟨β,h1,h2⟩:=h
    exact ⟨β,h1,h2.loc hw⟩
  lt:=by
    intro w F b h hb
    obtain ⟨β,h1,h2⟩:=h
    exact h2.lt hb
def BR (P:Program) (l:Nat) (body:Code) (Q:Exit→Act→World→Prop):Act→World→Prop:=fun a w=>∃ w₂,(Instr.beginRound l).run P w=.ok () w₂∧body.wpIn (Wd (some l)) 0 P Q a w₂
def ER (C:Ctx) (P:Program) (l D:Nat) (r:Loop) (T:List (Nat×Tok)):Exit→Act→World→Prop
  | .normal, _, w => ∃ w', (Instr.endRound l none).run P w = .ok (.bool true) w' ∧ ∃ F', (JRes C.β0 l D r T).holds w' F' ∧ (∀ b, F' b → C.F0 b ∨ C.W.heap.size ≤ b) ∧ Mod C.F0 C.W w'
  | _, _, _ => False
def RoundOk (P:Program) (N:Nat) (fs0:FL) (p:Nat) (assign body:Code) (v:SV) (T T':List (Nat×Tok)):Prop :=
  ∀ (C:Ctx) (l D:Nat) (r:Loop),C.n=N→r.state=.ready→r.pending=none→GR l C P ((p,v)::fs0) ((jl l D r T).map fun p=>(p.1,some p.2)) assign (Exit.then (BR P l body (ER C P l D r T')) (fun _ _ _=>False))
theorem putObj_mod {w:World} {l:Nat} {o:Obj} {F:Foot} (hF:F l):Mod F w (w.putObj l o) :=
  ⟨rfl,rfl,rfl,by rw [World.putObj_size];exact Nat.le_refl _,fun k _ hk=>World.putObj_heap_other (fun e=>hk (e▸hF)),Nat.le_refl _⟩
section
variable {C:Ctx} {P:Program} {fs:FL} {L:TL} {QF:Exit→Act→World→Prop}
theorem At.begin {l : Nat} {r : Loop} {body : Code} {Q : Exit → Act → World → Prop} (hL : lkT L 16 = some (ob l (.loop r))) (hr : r.state = .ready) (h : GR l C P fs ((16, some (ob l (.loop { r with state := .busy }))) :: L) body Q) :
    At C fs L (Exit.then (BR P l body Q) QF .normal):=by
  intro a w hh
  obtain ⟨β,F,hβ,hfs,hlt,hsz,hd,hs,hF,hM⟩:=hh
  obtain ⟨F1,F2,e1,dj,h1,h2⟩:=hs.take hL
  have hl1:F1 l:=(h1.1 l).2 rfl
  refine ⟨_,run_beginRound h1.2 hr,h a _ ⟨β,F,hβ,hfs,hlt,hsz,hd,?_,hF,hM.trans (putObj_mod (F:=fun b=>b=l) rfl) (fun k hk=>by subst hk;exact hF _ ((e1 _).2 (.inl hl1)))⟩⟩
  have hl:l<w.heap.size:=(Array.getElem?_eq_some_iff.1 h1.2).1
  have h3:=h2.loc (w':=w.putObj l (.loop { r with state:=.busy })) (fun b hb=>World.putObj_heap_other (fun e=>dj b ((h1.1 b).2 e) hb))
  have h4:=h3.put (k:=16) (t:=ob l (.loop { r with state:=.busy })) (F1:=F1) (F:=F) (by simp [upd]) ⟨h1.1,World.putObj_heap_same hl⟩ dj e1
  exact h4.congr (fun j=>by rw [lkT_cons];unfold upd;split <;> rfl)
theorem At.er {l D : Nat} {r : Loop} {T' : List (Nat × Tok)} (ρ : List (Nat × Nat)) (ts : List Tok) (hL : lkT L 16 = some (ob l (.loop { r with state := .busy }))) (hD : lkT L 17 = some (ob D (.deferred (some [])))) (hr : r.state = .ready) (hp : r.pending = none)
    (hρ:ρ.all (fun p=>Nat.ble 20 p.1)=true) (hl:RenL (rn ρ) L T' ts) (hnd:ndB (16::17::(T'.map (·.1)).map (rn ρ))=true) :
    At C fs L (ER C P l D r T' .normal):=by
  intro a w hh
  obtain ⟨β,F,hβ,hfs,hlt,hsz,hd,hs,hF,hM⟩:=hh
  have hk20 : ∀ k,k<20→rn ρ k=k:=by
    intro k hk
    unfold rn
    cases hl:lk ρ k with
    | none => rfl
    | some j =>
      have:=List.all_eq_true.1 hρ _ (lk_mem hl)
      have:=Nat.le_of_ble_eq_true this
      simp at this;omega
  have hl':RenL (rn ρ) L ((16,ob l (.loop { r with state:=.busy }))::(17,ob D (.deferred (some [])))::T') (ob l (.loop { r with state:=.busy })::ob D (.deferred (some []))::ts) :=
    ⟨by rw [hk20 16 (by decide)];exact hL,fun _=>rfl,by rw [hk20 17 (by decide)];exact hD,fun _=>rfl,hl⟩
  obtain ⟨F',h1,h2⟩:=star_ren hs hl' (by simp only [List.map_cons,hk20 16 (by decide),hk20 17 (by decide)];exact ndB_spec hnd)
  obtain ⟨F1,F2,e1,dj,h3,h4⟩:=h1
  have hl1:F1 l:=(h3.1 l).2 rfl
  have hlt':l<w.heap.size:=(Array.getElem?_eq_some_iff.1 h3.2).1
  have er:=run_endRound (P:=P) none h3.2
  have e2:({ { r with state:=LoopState.busy } with state:=if (none:Option Code).isNone=true then LoopState.ready else LoopState.done,pending:=none }:Loop)=r:=by
    obtain ⟨s,pe,a1,a2,a3,a4,a5,a6⟩:=r
    simp only at hr hp;subst hr hp;rfl
  rw [e2] at er
  refine ⟨_,er,F',⟨fun k=>β (rn ρ k),fun k hk=>by show β (rn ρ k)=_;rw [hk20 k hk,hβ k hk],F1,F2,e1,dj,⟨h3.1,World.putObj_heap_same hlt'⟩,h4.loc (fun b hb=>World.putObj_heap_other (fun e=>dj b ((h3.1 b).2 e) hb))⟩,fun b hb=>hF b (h2 b hb),hM.trans (putObj_mod (F:=fun b=>b=l) rfl) (fun k hk=>by subst hk;exact hF _ (h2 _ ((e1 _).2 (.inl hl1))))⟩
end
theorem sdrop (L:List Res) {A:List Res} {w:World} {F:Foot} (h:Star (L++A) w F) : ∃ F1 F2:Foot,(∀ b,F b↔F1 b∨F2 b)∧(∀ b,F1 b→¬ F2 b)∧Star L w F1∧Star A w F2:=Star_append.1 h
def chkN (τ ρ:List (Nat×Nat)) (k:Nat):Bool:=match lk τ k with
  | some j => Nat.blt j 20 && Nat.beq (rn ρ j) k
  | none => true
theorem lk_rn {ρ:List (Nat×Nat)} {k j:Nat} (h:lk ρ k=some j):rn ρ k=j:=by unfold rn;rw [h]
theorem G.rangeF {α : Type} {C : Ctx} {P : Program} {fs fs0 : FL} {L : TL} {Q : Exit → Act → World → Prop} {g : Operand} {p : Nat} {assign body : Code} {f : FuncId} {ks : List Nat} {ret : SV}
    (xs:List α) (val:α→SV) (T:Nat→List (Nat×Tok)) (I:List (Nat×Tok)) (hdf:C.df=[]) (hg:ev fs0 g=some (.a (.c (.fn (.func f) ks)))) (hfn:fnB P f=true)
    (ρ:List (Nat×Nat)) (ts0:List Tok) (hf:RenF (rn ρ) fs fs0) (hl:RenL (rn ρ) L (T 0++I) ts0) (hnd:ndB (((T 0++I).map (·.1)).map (rn ρ))=true)
    (hIk:I.all (fun q=>q.2.ks.all (fun k=>Nat.blt k 20))=true) (hsk:ks.all (fun k=>Nat.blt k 20)=true) (hfk:fs0.all (fun q=>q.2.ks.all (fun k=>Nat.blt k 20))=true) (hvk : ∀ x,(val x).ks=[]) (hpn:Nat.blt p C.n=true)
    (hTn : ∀ i,ndB (16::17::(T i++I).map (·.1))=true)
    (hit : ∀ (l:Nat) (J:Nat→Res) (β:Env),(∀ i x,xs[i]? = some x→Yld P l ((val x).den β) (J i) (J (i+1)))→SCon P f (SV.raw (.func (.yield l) #[] #[])::ks.map fun k=>SV.p k 0) ((18,jt (J 0))::I) ret ((18,jt (J xs.length))::I) [])
    (hr : ∀ i x,xs[i]? = some x→RoundOk P C.n fs0 p assign body (val x) (T i) (T (i+1)))
    (τ:List (Nat×Nat)) (Tout:List (Nat×Tok)) (tsN:List Tok) (hl':RenL (rn τ) ((T xs.length++I).map fun p=>(p.1,some p.2)) Tout tsN) (hnd':ndB ((Tout.map (·.1)).map (rn τ))=true) (hnd2:ndB (60::Tout.map (·.1))=true)
    (hc1:(List.range 20).all (chkN τ ρ)=true) (hc2:fs.all (fun q=>q.2.ks.all (chkN τ ρ))=true) (hc3:Tout.all (fun q=>q.2.ks.all (fun k=>(lk τ k).isSome))=true)
    (h : ∀ D,At { C with df:=[{ target:=.collected D,args:=#[] }] } fs ((60,some (ob D (.deferred (some []))))::Tout.map fun p=>(p.1,some p.2)) (Q .normal)) :
    G C P fs L (.rangeFunc g #[p] assign body) Q:=by
  intro a w hh
  refine (wpIn_wide (n:=0)).1 (wpIn_rangeFunc ?_)
  intro fn _
  obtain ⟨β,F,hβ,hfs,hlt,hsz,hd,hs,hF,hM⟩:=hh
  obtain ⟨βr,hβr⟩ : ∃ βr:Env,βr=fun k=>β (rn ρ k):=⟨_,rfl⟩
  have hfs0 : ∀ t x,lk fs0 t=some x→a.tmps.getD t undef=x.den βr:=fun t x hx=>by rw [hfs t _ (hf.spec t x hx),SV.den_ren,hβr]
  have hlt0 : ∀ t,(lk fs0 t).isSome→t<a.tmps.size:=fun t ht=>by
    obtain ⟨x,hx⟩:=Option.isSome_iff_exists.1 ht
    exact hlt t (by rw [hf.spec t x hx];rfl)
  obtain ⟨F1,hst,hF1⟩:=star_ren hs hl (ndB_spec hnd)
  rw [← hβr] at hst
  have small : ∀ {β1 β2:Env},(∀ k,k<20→β1 k=β2 k)→(I.map fun q=>q.2.r β1)=(I.map fun q=>q.2.r β2):=fun {β1 β2} hb =>
    List.map_congr_left (fun q hq=>q.2.sup (fun k hk=>hb k (by have:=List.all_eq_true.1 (List.all_eq_true.1 hIk q hq) k hk;rwa [Nat.blt_eq] at this)))
  -- the record
  obtain ⟨rec,hrec⟩ : ∃ rec:Loop,rec={ state:=.ready,pending:=none,fn,tmps:=a.tmps,params:=#[p],assign,body,defers:=w.heap.size }:=⟨_,rfl⟩
  obtain ⟨W1,hW1⟩ : ∃ W1,(w.alloc (.deferred (some []))).alloc (.loop rec)=W1:=⟨_,rfl⟩
  have hL1:W1.heap[w.heap.size+1]? = some (.loop rec):=by
    rw [← hW1];have:=World.alloc_heap_new (w.alloc (.deferred (some []))) (.loop rec);rwa [World.size_alloc] at this
  have hK1:W1.heap[w.heap.size]? = some (.deferred (some [])):=by
    rw [← hW1];exact (Below.heap_alloc _ _ _ (by simp)).trans (World.alloc_heap_new w _)
  have hS1:W1.heap.size=w.heap.size+2:=by rw [← hW1];simp
  have hold : ∀ k,k<w.heap.size→W1.heap[k]? = w.heap[k]?:=fun k hk=>by
    rw [← hW1];exact (Below.heap_alloc _ _ k (by simp;omega)).trans (Below.heap_alloc _ _ k hk)
  have hM1:Mod (fun _=>False) w W1:=by
    refine ⟨?_,?_,?_,by omega,fun k hk _=>hold k hk,Nat.le_of_eq ?_⟩ <;> rw [← hW1] <;> rfl
  have hgv:a.eval g=.func (.func f) #[] ((ks.map fun k=>ptr (βr k).b 0).toArray):=by
    cases g with
    | tmp t => exact hfs0 t _ hg
    | const v => simp only [ev, Option.some.injEq, SV.a.injEq, Av.c.injEq] at hg; cases hg
    | func q => simp only [ev, Option.some.injEq, SV.a.injEq, Av.c.injEq] at hg; cases hg
    | global q => simp only [ev, Option.some.injEq, SV.a.injEq, Av.c.injEq] at hg; cases hg
  refine ⟨w.heap.size+1,[{ target:=.collected w.heap.size,args:=#[] }],W1,{ target:=.fn (.func f) ((ks.map fun k=>ptr (βr k).b 0).toArray),args:=#[.func (.yield (w.heap.size+1)) #[] #[]] },W1,f,
    #[.func (.yield (w.heap.size+1)) #[] #[]]++(ks.map fun k=>ptr (βr k).b 0).toArray,W1,?_,?_,?_,?_,fun h=>(by cases h),?_⟩
  · rw [← hW1,hrec];exact run_enterLoop_outer _ _ _ _ _
  · simp only [resolve,hgv]
    simp [go_sem]
  · intro f' _;trivial
  · simp [invoke,go_sem,callFunc_run hfn]
  · -- the function's contract
    refine (callsIn_wide (n:=0 - 1)).2 ?_
    have hst1:=hst.loc (w':=W1) (fun b hb=>hold b (hst.lt hb))
    rw [List.map_append] at hst1
    obtain ⟨FT,FI,e1,dj,hT,hI⟩:=Star_append.1 hst1
    have hFlt : ∀ b,FT b→b<w.heap.size:=fun b hb=>hst.lt ((e1 b).2 (.inl hb))
    have hIlt : ∀ b,FI b→b<w.heap.size:=fun b hb=>hst.lt ((e1 b).2 (.inr hb))
    -- one round
    have hround : ∀ i x,xs[i]? = some x→Yld P (w.heap.size+1) ((val x).den βr) (JRes βr (w.heap.size+1) w.heap.size rec (T i)) (JRes βr (w.heap.size+1) w.heap.size rec (T (i+1))):=by
      intro i x hx w2 F2 hJ
      obtain ⟨β2,hb2,hs2⟩:=id hJ
      obtain ⟨G1,G2,g1,g2,g3,g4⟩:=hs2
      have hy:=run_yield (P:=P) (args:=#[(val x).den βr]) g3.2 (by rw [hrec];rfl)
      have hpt:((rec.params.zip #[(val x).den βr]).foldl (fun tmps (t,a)=>tmps.setIfInBounds t a) rec.tmps)=(⟨a.tmps,[]⟩:Act).tmps.setIfInBounds p ((val x).den βr):=by rw [hrec];simp
      rw [hpt] at hy
      refine ⟨_,_,_,_,hy,roundIn_of_wpIn trivial ?_⟩
      have hR:=hr i x hx ⟨w2,F2,β2,C.n,[]⟩ (w.heap.size+1) w.heap.size rec rfl (by rw [hrec]) (by rw [hrec])
      have hasg:rec.assign=assign:=by rw [hrec]
      have hbod:rec.body=body:=by rw [hrec]
      rw [hasg,hbod]
      refine wpIn_mono (hR { tmps:=a.tmps.setIfInBounds p ((val x).den βr),defers:=[] } w2 ?_) ?_
      · refine ⟨β2,F2,fun _ _=>rfl,?_,?_,by simp only [Array.size_setIfInBounds];exact hsz,rfl,starM_of ⟨G1,G2,g1,g2,g3,g4⟩ ?_,fun b hb=>.inl hb,Mod.refl _ _⟩
        · intro t y hy'
          rw [lk_cons] at hy'
          simp only [upd] at hy'
          by_cases et:t=p
          · subst et
            rw [if_pos rfl] at hy'
            cases hy'
            have:=getD_put_same (a:=⟨a.tmps,[]⟩) (k:=t) (v:=(val x).den βr) (by show t<a.tmps.size;rw [hsz];rwa [Nat.blt_eq] at hpn)
            exact this.trans (SV.den_congr _ (fun k hk=>by rw [hvk] at hk;cases hk))
          · rw [if_neg et] at hy'
            have h1:(a.tmps.setIfInBounds p ((val x).den βr)).getD t undef=a.tmps.getD t undef:=getD_put (a:=⟨a.tmps,[]⟩) (d:=some p) (v:=(val x).den βr) (fun k h=>by cases h;exact Ne.symm et)
            show (a.tmps.setIfInBounds p ((val x).den βr)).getD t undef=_
            rw [h1,hfs0 t y hy']
            refine SV.den_congr y (fun k hk=>(hb2 k ?_).symm)
            have:=List.all_eq_true.1 (List.all_eq_true.1 hfk (t,y) (lk_mem hy')) k hk
            rwa [Nat.blt_eq] at this
        · intro t ht
          simp only [Array.size_setIfInBounds]
          rw [lk_cons] at ht
          simp only [upd] at ht
          by_cases et:t=p
          · subst et;rw [hsz];rwa [Nat.blt_eq] at hpn
          · rw [if_neg et] at ht;exact hlt0 t ht
        · have:=ndB_spec (hTn i)
          rw [List.map_append] at this
          simp only [jl,List.map_cons]
          exact this.sublist (by simp)
      · intro e a3 w3 he
        cases e with
        | normal =>
          obtain ⟨w4,hb4,hbody⟩:=he
          refine ⟨w4,hb4,wpIn_mono hbody ?_⟩
          intro e2 a5 w5 he2
          cases e2 with
          | normal =>
            obtain ⟨w6,h6,F6,⟨β6,hb6,hs6⟩,hF6,hM6⟩:=he2
            exact ⟨_,_,h6,rfl,F6,⟨β6,fun k hk=>(hb6 k hk).trans (hb2 k hk),hs6⟩,hF6,hM6⟩
          | _ => exact he2.elim
        | _ => exact he.elim
    have hJ0:(JRes βr (w.heap.size+1) w.heap.size rec (T 0)).holds W1 (fun b=>b=w.heap.size+1∨(b=w.heap.size∨FT b)) :=
      ⟨βr,fun _ _=>rfl,fun b=>b=w.heap.size+1,fun b=>b=w.heap.size∨FT b,fun b=>Iff.rfl,fun b hb hb2=>by
        rcases hb2 with h2 | h2
        · omega
        · have:=hFlt b h2;omega,⟨fun b=>Iff.rfl,hL1⟩,fun b=>b=w.heap.size,FT,fun b=>Iff.rfl,fun b hb hb2=>by have:=hFlt b hb2;omega,⟨fun b=>Iff.rfl,hK1⟩,hT⟩
    have hcall:=hit (w.heap.size+1) (fun i=>JRes βr (w.heap.size+1) w.heap.size rec (T i)) βr hround βr W1 (fun b=>(b=w.heap.size+1∨(b=w.heap.size∨FT b))∨FI b)
      ⟨_,FI,fun b=>Iff.rfl,fun b hb hb2=>by
        rcases hb with hb | hb | hb
        · have:=hIlt b hb2;omega
        · have:=hIlt b hb2;omega
        · exact dj b hb hb2,hJ0,hI⟩
    have eargs:(List.map (SV.den βr) (SV.raw (.func (.yield (w.heap.size+1)) #[] #[])::ks.map fun k=>SV.p k 0)).toArray = #[.func (.yield (w.heap.size+1)) #[] #[]]++(ks.map fun k=>ptr (βr k).b 0).toArray:=by
      apply Array.ext'
      simp [SV.den,Av.den,Cl.den,ptr,Function.comp_def]
    rw [eargs] at hcall
    refine hcall.mono ?_
    rintro e w3 ⟨β3,hb3,rfl,F3,hs3,hF3,hM3⟩
    obtain ⟨G1,G2,g1,g2,⟨β4,hb4,hs4⟩,g4⟩:=hs3
    obtain ⟨H1,H2,k1,k2,k3,k4⟩:=hs4
    have hend:=run_endLoop (P:=P) k3.2 (by rw [hrec];simp)
    obtain ⟨W4,hW4⟩ : ∃ W4,w3.putObj (w.heap.size+1) (.loop { rec with state:=.exhausted })=W4:=⟨_,rfl⟩
    rw [hW4] at hend
    refine ⟨none,W4,by rw [hrec] at hend;exact hend,?_⟩
    show Q .normal _ W4
    have hwW:C.W.heap.size≤w.heap.size:=hM.size
    have hl1:H1 (w.heap.size+1):=(k3.1 _).2 rfl
    obtain ⟨M1,M2,m1,m2,m3,m4⟩:=k4
    rw [small (β1:=β3) (β2:=β4) (fun k hk=>(hb3 k (by simp)).trans (hb4 k hk).symm)] at g4
    have hMG : ∀ b,M2 b→¬ G2 b:=fun b hb=>g2 b ((k1 b).2 (.inr ((m1 b).2 (.inr hb))))
    have hTI:Star ((T xs.length++I).map fun q=>q.2.r β4) w3 (fun b=>M2 b∨G2 b):=by
      rw [List.map_append];exact Star_append.2 ⟨M2,G2,fun b=>Iff.rfl,hMG,m4,g4⟩
    have hMH : ∀ b,M2 b∨G2 b→b≠w.heap.size+1:=fun b hb e=>by
      subst e
      rcases hb with hb | hb
      · exact k2 _ hl1 ((m1 _).2 (.inr hb))
      · exact g2 _ ((k1 _).2 (.inl hl1)) hb
    have hoth : ∀ b,b≠w.heap.size+1→W4.heap[b]? = w3.heap[b]?:=fun b hb=>by rw [← hW4];exact World.putObj_heap_other hb
    have hTI4:=hTI.loc (w':=W4) (fun b hb=>hoth b (hMH b hb))
    have hD1:M1 w.heap.size:=(m3.1 _).2 rfl
    have hD4:(obRes w.heap.size (.deferred (some []))).holds W4 M1:=⟨m3.1,(hoth _ (by omega)).trans m3.2⟩
    have hTn':((T xs.length++I).map (·.1)).Nodup:=(List.nodup_cons.1 (List.nodup_cons.1 (ndB_spec (hTn xs.length))).2).2
    obtain ⟨F',s1,s2⟩:=star_ren (starM_of hTI4 hTn') hl' (ndB_spec hnd')
    obtain ⟨βo,hβo⟩ : ∃ βo:Env,βo=fun k=>if (lk τ k).isSome then β4 (rn τ k) else β k:=⟨_,rfl⟩
    have same : ∀ k,chkN τ ρ k=true→βo k=β k:=fun k hk=>by
      unfold chkN at hk
      cases hlk:lk τ k with
      | none => rw [hβo]; simp [hlk]
      | some j =>
        rw [hlk] at hk
        simp only [Bool.and_eq_true] at hk
        have h1:=hk.1
        rw [Nat.blt_eq] at h1
        have h2:=Nat.eq_of_beq_eq_true hk.2
        have h3:βo k=β4 (rn τ k):=by rw [hβo];simp [hlk]
        rw [h3,lk_rn hlk,hb4 j h1,hβr]
        show β (rn ρ j)=β k
        rw [h2]
    have eT:(Tout.map fun q=>q.2.r (fun k=>β4 (rn τ k)))=(Tout.map fun q=>q.2.r βo):=List.map_congr_left (fun q hq=>q.2.sup (fun k hk=>by
      have:=List.all_eq_true.1 (List.all_eq_true.1 hc3 q hq) k hk
      rw [hβo]
      show β4 (rn τ k)=if (lk τ k).isSome=true then β4 (rn τ k) else β k
      rw [if_pos this]))
    rw [eT] at s1
    have hsub : ∀ b,F' b→F3 b:=fun b hb=>by
      rcases s2 b hb with h | h
      · exact (g1 b).2 (.inl ((k1 b).2 (.inr ((m1 b).2 (.inr h)))))
      · exact (g1 b).2 (.inr h)
    have hdj : ∀ b,M1 b→¬ F' b:=fun b hb hb'=>by
      rcases s2 b hb' with h | h
      · exact m2 b hb h
      · exact g2 b ((k1 b).2 (.inr ((m1 b).2 (.inl hb)))) h
    have hst5:Star (((60,ob w.heap.size (.deferred (some [])))::Tout).map fun q=>q.2.r βo) W4 (fun b=>M1 b∨F' b):=⟨M1,F',fun b=>Iff.rfl,hdj,hD4,s1⟩
    have hFX : ∀ k,(k=w.heap.size+1∨k=w.heap.size∨FT k)∨FI k→C.F0 k∨C.W.heap.size≤k:=fun k hk=>by
      rcases hk with (hk | hk | hk) | hk
      · right;omega
      · right;omega
      · exact hF k (hF1 k ((e1 k).2 (.inl hk)))
      · exact hF k (hF1 k ((e1 k).2 (.inr hk)))
    refine h w.heap.size _ W4 ⟨βo,fun b=>M1 b∨F' b,fun k hk=>?_,fun t x hx=>?_,hlt,hsz,by show [_]++a.defers=[_];rw [hd,hdf];rfl,starM_of hst5 (ndB_spec hnd2),fun b hb=>?_,?_⟩
    · rw [same k (List.all_eq_true.1 hc1 k (List.mem_range.2 hk))];exact hβ k hk
    · rw [hfs t x hx]
      exact SV.den_congr x (fun k hk=>(same k (List.all_eq_true.1 (List.all_eq_true.1 hc2 (t,x) (lk_mem hx)) k hk)).symm)
    · rcases hb with hb | hb
      · have:=(m3.1 b).1 hb;subst this;exact .inr hwW
      · rcases hF3 b (hsub b hb) with h' | h'
        · exact hFX b h'
        · right;show C.W.heap.size≤b;omega
    · have A:=hM.trans hM1 (fun k hk=>hk.elim)
      have B:=A.trans hM3 (fun k hk=>hFX k hk)
      rw [← hW4]
      exact B.trans (putObj_mod (F:=fun b=>b=w.heap.size+1) rfl) (fun k hk=>.inr (by show C.W.heap.size≤k;omega))
end Go.Proofs.YtgjbibabegabnaaGreat.Sx
namespace Go.Proofs.YtgjbibabegabnaaGreat.Sx
open Go Go.RowKit Go.Sort Go.Lib
theorem mod_grow {w w':World} (h:Mod (fun _=>False) w w') : ∃ q os,w'=grow (w.drewN q) os:=by
  refine ⟨w'.drawn - w.drawn,w'.heap.extract w.heap.size w'.heap.size,?_⟩
  obtain ⟨hp,tp,dr,o,out⟩:=w
  obtain ⟨hp',tp',dr',o',out'⟩:=w'
  obtain ⟨h1,h2,h3,h4,h5,h6⟩:=h
  simp only at h1 h2 h3 h4 h5 h6
  subst h1 h2 h3
  simp only [grow,World.drewN,World.mk.injEq]
  refine ⟨?_,trivial,by omega,trivial,trivial⟩
  apply Array.ext'
  apply List.ext_getElem?
  intro j
  by_cases hj:j<hp.size
  · rw [Array.toList_append,List.getElem?_append_left (by simpa using hj),Array.getElem?_toList,Array.getElem?_toList]
    exact h5 j hj (fun h=>h)
  · rw [Array.toList_append,List.getElem?_append_right (by simp;omega),Array.getElem?_toList,Array.getElem?_toList]
    simp only [Array.length_toList,Array.getElem?_extract]
    split
    · rw [show hp.size+(j - hp.size)=j by omega]
    · exact Array.getElem?_eq_none (by omega)
section
variable {α:Type} [Inhabited α] {enc:α→List Value} {k:Nat}
theorem flatK_list (hk : ∀ x,(enc x).length=k) (l:List α):(flatK enc k l.toArray).toList=l.flatMap enc:=by
  have hl:(l.flatMap enc).length=l.length*k:=by
    induction l with
    | nil => simp
    | cons x l ih => rw [List.flatMap_cons, List.length_append, hk, ih, List.length_cons, Nat.succ_mul]; omega
  apply List.ext_getElem?
  intro t
  rw [Array.getElem?_toList]
  by_cases ht:t<l.length*k
  · have hk0 : 0 < k := by
      rcases Nat.eq_zero_or_pos k with h | h
      · subst h;simp at ht
      · exact h
    have h1:t / k<l.length:=Nat.div_lt_of_lt_mul (by rw [Nat.mul_comm];exact ht)
    have h2:=Nat.mod_lt t hk0
    have e1:(flatK enc k l.toArray)[t]? = some ((enc l[t / k])[t % k]'(by rw [hk];exact h2)):=by
      rw [Array.getElem?_eq_getElem (by simpa using ht)]
      simp [flatK,h1,hk,h2]
    have e2:(l.flatMap enc)[t]? = (enc l[t / k])[t % k]?:=by
      have:t=t / k*k+t % k:=by have:=Nat.div_add_mod t k;rw [Nat.mul_comm] at this;omega
      generalize t / k=i at *
      generalize t % k=o at *
      subst this
      clear ht e1 hl
      induction l generalizing i with
      | nil => simp at h1
      | cons x l ih =>
        rw [List.flatMap_cons]
        cases i with
        | zero => rw [List.getElem?_append_left (by rw [hk]; omega)]; simp
        | succ i =>
          rw [List.getElem?_append_right (by rw [hk,Nat.succ_mul];omega),hk,show (i+1)*k+o - k=i*k+o by rw [Nat.succ_mul];omega]
          exact ih i (by simpa using h1)
    rw [e1,e2,List.getElem?_eq_getElem (by rw [hk];exact h2)]
  · rw [Array.getElem?_eq_none (by simpa using ht),List.getElem?_eq_none (by omega)]
theorem holdsK_of_block {w:World} {g:Nat} {cur:Array Value} {e:TypeId} {l:List α} (hk : ∀ x,(enc x).length=k) (hb:w.heap[g]? = some (.cells cur e (0,0))) (ht:cur.toList.take (l.length*k)=l.flatMap enc):HoldsK enc k w g 0 l.toArray:=by
  intro j hj
  have hj':j<l.length*k:=by simpa using hj
  refine ⟨?_,by simp [World.frozen?,hb]⟩
  have h1:(cur.toList.take (l.length*k))[j]? = (flatK enc k l.toArray).toList[j]?:=by rw [ht,flatK_list hk]
  rw [List.getElem?_take_of_lt hj'] at h1
  simp only [World.cell?,hb,Nat.zero_add]
  simp only [Option.isSome_none,Bool.false_eq_true,if_false]
  rw [← Array.getElem?_toList,h1,Array.getElem?_toList,Array.getElem?_eq_getElem hj,getElem!_pos _ j hj];rfl
theorem heap_sortedK {w : World} {g n : Nat} {os : Array Obj} {cur : Array Value} {e : TypeId} {fr : Nat × Nat} (d : Array α) (hb : w.heap[g]? = some (.cells cur e fr)) :
    (sortWorldK enc k w g 0 n d os).heap[g]? = some (.cells (putCells id 0 (flatK enc k d) cur) e fr):=by
  have hg:g<w.heap.size:=(Array.getElem?_eq_some_iff.1 hb).1
  unfold sortWorldK putRowK
  rw [heap_grow_old _ _ (by simpa using hg)]
  simp [putRow,mapBlock,Sort.ahead,Array.getElem?_modify,hb,onCells]
theorem modK {w:World} {g n:Nat} {os:Array Obj} (d:Array α):Mod (fun x=>x=g) w (sortWorldK enc k w g 0 n d os):=by
  refine ⟨rfl,rfl,rfl,by simp [sortWorldK,putRowK],fun j hj hne=>?_,Nat.le_add_right _ _⟩
  unfold sortWorldK putRowK
  rw [heap_grow_old _ _ (by simpa using hj)]
  have:g≠j:=fun e=>hne e.symm
  simp [putRow,mapBlock,Sort.ahead,Array.getElem?_modify,this]
theorem take_putCellsK (hk : ∀ x,(enc x).length=k) (cur:Array Value) (l:List α) (h:l.length*k≤cur.size):(putCells id 0 (flatK enc k l.toArray) cur).toList.take (l.length*k)=l.flatMap enc:=by
  rw [← flatK_list hk]
  apply List.ext_getElem?
  intro j
  by_cases hj:j<l.length*k
  · have hj2:j<(flatK enc k l.toArray).size:=by simpa using hj
    rw [List.getElem?_take_of_lt hj,Array.getElem?_toList,Array.getElem?_toList,Array.getElem?_eq_getElem hj2]
    simp [putCells,hj,show j<cur.size by omega,hj2]
  · rw [List.getElem?_take_eq_none (by omega),List.getElem?_eq_none (by simp;omega)]
def srtBy (cf:α→α→Int) (l:List α):List α:=(pdq (ltOf cf) l.toArray 0 l.toArray.size (Lib.bitLen l.toArray.size) true true).toList
theorem srtBy_perm {cf:α→α→Int} (hO:SWO (ltOf cf)) (l:List α):(srtBy cf l).Perm l:=by
  have h:=(pdq_sorts (ltOf cf) hO l.toArray 0 l.toArray.size (Lib.bitLen l.toArray.size) true true (Nat.zero_le _) (Nat.le_refl _) (Or.inl rfl)).1
  obtain ⟨h1,_,h3⟩:=h
  have e : ∀ d:Array α,d.size=l.toArray.size→(d.extract 0 l.toArray.size).toList=d.toList:=fun d hd=>by
    rw [← hd];simp
  rw [e _ h1,e _ rfl] at h3
  exact h3
theorem srtBy_sorted {cf:α→α→Int} (hO:SWO (ltOf cf)) (l:List α):(srtBy cf l).Pairwise (fun a b=>¬ cf b a<0):=by
  have hp:=srtBy_perm hO l
  have h:=pdq_sorts (ltOf cf) hO l.toArray 0 l.toArray.size (Lib.bitLen l.toArray.size) true true (Nat.zero_le _) (Nat.le_refl _) (Or.inl rfl)
  have hs:=h.1.1
  refine List.pairwise_iff_getElem.2 (fun i j hi hj hij=>?_)
  have hi':i<l.toArray.size:=by rw [← hs];simpa [srtBy] using hi
  have hj':j<l.toArray.size:=by rw [← hs];simpa [srtBy] using hj
  have:=h.2 i j (Nat.zero_le _) hij hj'
  unfold srtBy
  rw [getElem!_pos _ j (by rw [hs];exact hj'),getElem!_pos _ i (by rw [hs];exact hi')] at this
  intro h2
  exact of_decide_eq_false this h2
theorem sort_con {P : Program} {ρ : Go.Shelf.Ren} {cf : α → α → Int} (L : SlLaysF0.n6 P ρ) (aE : ∀ w, (isAgg (ρ.t 24)).run P w = .ok true w) (zE : ∀ w, (Go.sizeOf (ρ.t 24)).run P w = .ok k w) (hk : ∀ x, (enc x).length = k) (h1 : ∀ x, ∀ v ∈ enc x, v.oneCell' = true)
    (hO:SWO (ltOf cf)) (g:Nat) (eg : ∀ args w,(callFunc g args).run P w=.ok (.enter g args) w)
    (hc : ∀ x y w,Calls P g #[.agg (enc x).toArray,.agg (enc y).toArray] w fun e w'=>e=.returned (.int .i64 (cf x y))∧∃ q os,w'=grow (w.drewN q) os)
    (hnil : ∀ w,Calls P (ρ.f 6) #[.slice none 0 0,.func (.func g) #[] #[]] w fun e w'=>e=.returned (.tuple #[])∧Mod (fun _=>False) w w') (T:TypeId) (j:Nat) (l:List α) (hl:l.length<4611686018427387904) :
    SCon P (ρ.f 6) [.a (.c (.nv j)),SV.raw (.func (.func g) #[] #[])] [(j,lrow j T enc k l)] (.tup []) [(j,lrow j T enc k (srtBy cf l))] []:=by
  intro β w F hs
  have hs1:=Star_one.1 hs
  obtain ⟨hF,hrow⟩:=hs1
  have hlen:(srtBy cf l).length=l.length:=(srtBy_perm hO l).length_eq
  have ea:(List.map (SV.den β) [.a (.c (.nv j)),SV.raw (.func (.func g) #[] #[])]).toArray = #[one1 (β j).v,.func (.func g) #[] #[]]:=rfl
  rw [ea]
  rcases hrow.2 with ⟨hv,h0⟩ | ⟨g0,cap,cur,hv,_,hgb,r1,r2,r3,r4⟩
  · have hl0:l=[]:=List.eq_nil_of_length_eq_zero h0
    subst hl0
    have e2:srtBy cf ([]:List α)=[]:=List.eq_nil_of_length_eq_zero hlen
    rw [hv]
    refine (hnil w).mono ?_
    rintro e w' ⟨rfl,hm⟩
    refine ⟨β,fun _ _=>rfl,rfl,fun _=>False,Star_one.2 ⟨fun x=>?_,?_⟩,fun b hb=>hb.elim,hm.weaken (fun _ _ h=>h.elim)⟩
    · rw [hv];simp [Value.ownBlock]
    · rw [e2];exact ⟨by simp,.inl ⟨hv,rfl⟩⟩
  · have hlt:g0<w.heap.size:=(Array.getElem?_eq_some_iff.1 hgb).1
    have hcall:=AnyQ.slices_SortFunc_eq L k aE zE enc hk h1 cf hO g #[] g0 0 cap l.toArray w eg (fun m os dk _ x y=>hc x y _) (holdsK_of_block hk hgb r4) hlt (by simpa using hl)
    rw [hv]
    refine hcall.mono ?_
    rintro e w' ⟨rfl,n,os,rfl⟩
    have eb : ∀ x,F x↔x=g0:=fun x=>by rw [hF,hv];simp [Value.ownBlock,eq_comm]
    refine ⟨β,fun _ _=>rfl,rfl,F,Star_one.2 ⟨hF,?_⟩,fun b hb=>.inl hb,(modK _).weaken (fun b _ hb=>(eb b).2 hb)⟩
    refine ⟨by rw [chunk_len hk],.inr ⟨g0,cap,_,by rw [hv,hlen],Nat.zero_le _,heap_sortedK _ hgb,by omega,r2,by simp [putCells,r3],?_⟩⟩
    rw [hlen]
    have:=take_putCellsK hk cur (srtBy cf l) (by rw [hlen,r3];exact Nat.mul_le_mul_right k r1)
    rw [hlen] at this
    exact this
end
section
variable {P:Program}
theorem spec_ofM (fs0 : FL) (L0 : TL) (N : Nat) {f : FuncId} {fn : Func} {c : Code} {args : List SV} {ti to : List (Nat × Tok)} {ret : SV} {fr : List Nat} (hf : P.funcs[f]? = some fn) (hb : fn.body = some c) (hN : fn.ntmps = N) (h0 : (List.range args.length).zip args = fs0) (h1 : ti.map (fun p => (p.1, some p.2)) = L0)
    (hn:Nat.ble args.length N=true) (hnd:ndB (ti.map (·.1))=true) (h : ∀ (β:Env) (W:World) (F:Foot),G ⟨W,F,β,N,[]⟩ P fs0 L0 c (bodyPostM Fence.wide 0 P fn (Ret F W fr β ret to))):SCon P f args ti ret to fr:=by
  intro β w F hs
  subst h0 h1 hN
  refine (callsIn_wide (n:=0)).1 (callsIn_of_wp_marks hf hb trivial ?_ rfl)
  refine (wpIn_wide (n:=0)).2 ?_
  exact h β w F _ _ (holds_enter hs hn (ndB_spec hnd))
theorem At.mark {W : World} {F0 : Foot} {β0 : Env} {N : Nat} {D : Nat} {fs : FL} {L : TL} {fn : Func} {R : Ending → World → Prop} (hD : lkT L 60 = some (ob D (.deferred (some [])))) (h : At ⟨W, F0, β0, N, []⟩ fs ((60, none) :: L) (bodyPost P fn R .ret)) :
    At ⟨W,F0,β0,N,[{ target:=.collected D,args:=#[] }]⟩ fs L (bodyPostM Fence.wide 0 P fn R .ret):=by
  intro a w hh
  obtain ⟨β,F,hβ,hfs,hlt,hsz,hd,hs,hF,hM⟩:=hh
  obtain ⟨F1,F2,e1,dj,h1,h2⟩:=hs.take hD
  have hD1:F1 D:=(h1.1 D).2 rfl
  have h3:=h2.loc (w':=w.putObj D (.deferred none)) (fun b hb=>World.putObj_heap_other (fun e=>dj b ((h1.1 b).2 e) hb))
  obtain ⟨_,v,hv,hR⟩:=h { a with defers:=[] } (w.putObj D (.deferred none)) ⟨β,F2,hβ,hfs,hlt,hsz,rfl,h3.congr (fun j=>by rw [lkT_cons]),fun b hb=>hF b ((e1 b).2 (.inr hb)),hM.trans (putObj_mod (F:=fun b=>b=D) rfl) (fun k hk=>by subst hk;exact hF _ ((e1 _).2 (.inl hD1)))⟩
  show LeavesInM Fence.wide 0 P fn a.tmps R a.defers .returning w
  rw [hd]
  exact ⟨by simp,.inl ⟨D,_,rfl,run_takeDeferred h1.2,v,hv,hR⟩⟩
end
end Go.Proofs.YtgjbibabegabnaaGreat.Sx
namespace Go.Proofs.YtgjbibabegabnaaGreat
open Go Go.Shelf
def shSort_ren:Go.Shelf.Ren:=⟨fun | 6=>106 | 15=>133 | 14=>132 | 28=>157 | 29=>158 | 20=>149 | 21=>150 | 22=>151 | 23=>152 | 24=>153 | 25=>154 | 26=>155 | 27=>156 | 46=>169 | 47=>170 | 48=>171 | 49=>172 | 50=>173 | 57=>176 | n=>n,fun | 22=>54 | 24=>28 | 25=>87 | 3=>3 | 39=>188 | 0=>0 | 53=>218 | 55=>220 | 4=>4 | 46=>211 | 45=>210 | 50=>215 | 5=>5 | 9=>9 | 66=>230 | 70=>234 | 76=>236 | 77=>237 | n=>n,fun | n=>n⟩
theorem shSort:Go.Proofs.SlLaysF0.n6 Tryz.prog shSort_ren:={
  mixed:=by kernel_rfl
  f6:=⟨Tryz.f106.name,by decide,Tryz.func106.trans (congrArg some (by kernel_rfl))⟩
  f14:=⟨Tryz.f132.name,by decide,Tryz.func132.trans (congrArg some (by kernel_rfl))⟩
  f15:=Tryz.func133.trans (congrArg some (by kernel_rfl))
  f20:=⟨Tryz.f149.name,by decide,Tryz.func149.trans (congrArg some (by kernel_rfl))⟩
  f21:=⟨Tryz.f150.name,by decide,Tryz.func150.trans (congrArg some (by kernel_rfl))⟩
  f22:=⟨Tryz.f151.name,by decide,Tryz.func151.trans (congrArg some (by kernel_rfl))⟩
  f23:=⟨Tryz.f152.name,by decide,Tryz.func152.trans (congrArg some (by kernel_rfl))⟩
  f24:=⟨Tryz.f153.name,by decide,Tryz.func153.trans (congrArg some (by kernel_rfl))⟩
  f25:=⟨Tryz.f154.name,by decide,Tryz.func154.trans (congrArg some (by kernel_rfl))⟩
  f26:=⟨Tryz.f155.name,by decide,Tryz.func155.trans (congrArg some (by kernel_rfl))⟩
  f27:=⟨Tryz.f156.name,by decide,Tryz.func156.trans (congrArg some (by kernel_rfl))⟩
  f28:=Tryz.func157.trans (congrArg some (by kernel_rfl))
  f29:=Tryz.func158.trans (congrArg some (by kernel_rfl))
  f46:=⟨Tryz.f169.name,by decide,Tryz.func169.trans (congrArg some (by kernel_rfl))⟩
  f47:=Tryz.func170.trans (congrArg some (by kernel_rfl))
  f48:=Tryz.func171.trans (congrArg some (by kernel_rfl))
  f49:=⟨Tryz.f172.name,by decide,Tryz.func172.trans (congrArg some (by kernel_rfl))⟩
  f50:=⟨Tryz.f173.name,by decide,Tryz.func173.trans (congrArg some (by kernel_rfl))⟩
  f57:=⟨Tryz.f176.name,by decide,Tryz.func176.trans (congrArg some (by kernel_rfl))⟩
  t0:=Tryz.underlying0
  a0:=Tryz.isAgg0
  z0:=Tryz.sizeOf0
  v0:=Tryz.zeroValue0
  t3:=Tryz.underlying3
  a3:=Tryz.isAgg3
  z3:=Tryz.sizeOf3
  v3:=Tryz.zeroValue3
  t4:=Tryz.underlying4
  a4:=Tryz.isAgg4
  z4:=Tryz.sizeOf4
  v4:=Tryz.zeroValue4
  t5:=Tryz.underlying5
  a5:=Tryz.isAgg5
  z5:=Tryz.sizeOf5
  v5:=Tryz.zeroValue5
  t9:=Tryz.underlying9
  a9:=Tryz.isAgg9
  z9:=Tryz.sizeOf9
  v9:=Tryz.zeroValue9
  t22:=Tryz.underlying54
  a22:=Tryz.isAgg54
  z22:=Tryz.sizeOf54
  v22:=Tryz.zeroValue54
  t25:=Tryz.underlying87
  a25:=Tryz.isAgg87
  z25:=Tryz.sizeOf87
  v25:=Tryz.zeroValue87
  t39:=Tryz.underlying188
  a39:=Tryz.isAgg188
  z39:=Tryz.sizeOf188
  v39:=Tryz.zeroValue188
  t45:=Tryz.underlying210
  a45:=Tryz.isAgg210
  z45:=Tryz.sizeOf210
  v45:=Tryz.zeroValue210
  t46:=Tryz.underlying211
  a46:=Tryz.isAgg211
  z46:=Tryz.sizeOf211
  v46:=Tryz.zeroValue211
  t50:=Tryz.underlying215
  a50:=Tryz.isAgg215
  z50:=Tryz.sizeOf215
  v50:=Tryz.zeroValue215
  t53:=Tryz.underlying218
  a53:=Tryz.isAgg218
  z53:=Tryz.sizeOf218
  v53:=Tryz.zeroValue218
  t55:=Tryz.underlying220
  a55:=Tryz.isAgg220
  z55:=Tryz.sizeOf220
  v55:=Tryz.zeroValue220
  t66:=Tryz.underlying230
  a66:=Tryz.isAgg230
  z66:=Tryz.sizeOf230
  v66:=Tryz.zeroValue230
  t70:=Tryz.underlying234
  a70:=Tryz.isAgg234
  z70:=Tryz.sizeOf234
  v70:=Tryz.zeroValue234
  t76:=Tryz.underlying236
  a76:=Tryz.isAgg236
  z76:=Tryz.sizeOf236
  v76:=Tryz.zeroValue236
  t77:=Tryz.underlying237
  a77:=Tryz.isAgg237
  z77:=Tryz.sizeOf237
  v77:=Tryz.zeroValue237 }
end Go.Proofs.YtgjbibabegabnaaGreat
namespace Go.Proofs.YtgjbibabegabnaaGreat
open Go Go.Sort Go.Lib Go.Proofs.YtgjbibabegabnaaGreat.Sx
theorem isgnL {a b:TItem}:isgn a b<0↔ilt a b:=by
  unfold isgn
  split
  · rename_i h;exact ⟨fun _=>h,fun _=>by decide⟩
  · rename_i h;split
    · exact ⟨fun h2=>absurd h2 (by decide),fun h2=>absurd h2 h⟩
    · exact ⟨fun h2=>absurd h2 (by decide),fun h2=>absurd h2 h⟩
theorem itW {i:Nat} (h:i<4611686018427387904):w64 ((i:Int)+1)=((i+1:Nat):Int):=by simp only [w64,IntKind.wrap_i64];omega
theorem itS {α:Type} {l:List α} {i:Nat} {x:α} (h:l[i]? = some x):l.take (i+1)=l.take i++[x]:=by rw [List.take_add_one,h];rfl
theorem vals_it {S : Foot} {W0 : World} {s0 : Value} {b0 o0 : Nat} {l0 : List TItem} (hI : LAt S W0 s0 b0 o0 eTItem 2 l0) (hl : l0.length < 4611686018427387904) (l : Nat) (J : Nat → Res) (β0 : Env) (hy : ∀ i x, l0[i]? = some x → Yld Tryz.prog l ((SV.agg [.i x.key, .i x.id]).den β0) (J i) (J (i + 1))) :
    SCon Tryz.prog 107 [SV.raw (.func (.yield l) #[] #[]),SV.p 1 0] [(18,jt (J 0)),(0,rd S W0),(1,blk 1 [.v s0] 54)] (.tup []) [(18,jt (J l0.length)),(0,rd S W0),(1,blk 1 [.v s0] 54)] []:=by
  refine spec_of [(0,_),(1,_)] [(18,_),(0,_),(1,_)] 16 Tryz.func107 rfl Tryz.ntmps107 rfl rfl rfl rfl (fun β W F=>?_)
  refine G.seq<|G.rg<|K.load1 Y g0 rfl rfl t54 rfl rfl<|K.lenL (rV 0 S W0 s0 b0 o0 eTItem 2 l0) (hI.is 0) g0 rfl rfl Tryz.underlying54 rfl<|K.mv rfl rfl<|K.nil<|At.next<|G.block<|G.lp (σ:={ i:Nat // i≤l0.length }) (fun q=>[(0,SV.raw (.func (.yield l) #[] #[])),(5,SV.raw s0),(6,SV.i (l0.length:Int)),(7,SV.i (q.1:Int))]) (fun q=>[(18,jt (J q.1)),(0,rd S W0),(1,blk 1 [.v s0] 54)]) (fun q=>l0.length - q.1) ⟨0,Nat.zero_le _⟩ ?_ ?_
  · exact At.into [] [_,_,_] rfl ⟨rfl,rfl,rfl,rfl,trivial⟩ ⟨rfl,(fun _=>rfl),rfl,(fun _=>rfl),rfl,(blk_ren rfl rfl),trivial⟩ rfl
  · rintro ⟨i,hi⟩
    show G _ _ [(0,SV.raw (.func (.yield l) #[] #[])),(5,SV.raw s0),(6,SV.i (l0.length:Int)),(7,SV.i (i:Int))] [(18,some (jt (J i))),(0,some (rd S W0)),(1,some (blk 1 [.v s0] 54))] _ _
    refine G.seq<|G.rg<|K.bin (V:=.bool (decide ((i:Int)<(l0.length:Int)))) g0 rfl rfl (fun _=>rfl) rfl<|K.nil<|At.next<|G.seq<|G.cond rfl (fun h1=>?_) (fun h1=>?_)
    · have hlt:i<l0.length:=by have:=of_decide_eq_true h1;omega
      obtain ⟨x,hx⟩ : ∃ x,l0[i]? = some x:=⟨_,List.getElem?_eq_getElem hlt⟩
      refine G.skip<|At.next<|G.seq<|G.block<|G.seq<|G.rg<|K.idxL (rV 0 S W0 s0 b0 o0 eTItem 2 l0) i (hI.is 0) hx rfl g0 rfl rfl rfl Tryz.underlying54 el54.size_run rfl<|K.loadSL Y (rV 0 S W0 s0 b0 o0 eTItem 2 l0) i 0 [_,_] [_,_] (hI.is 0) hx g0 rfl rfl t28 rfl rfl rfl rfl rfl<|K.alloc Y 100 _ g0 t28 rfl rfl rfl rfl rfl<|K.store Y _ g0 rfl rfl rfl t28 rfl rfl rfl rfl rfl<|K.nil<|At.next<|G.seq ?_
      refine G.regionY (l1:=[_,_]) (l2:=[_]) (fun ops=>K.mv rfl rfl<|K.loadS Y _ g0 rfl rfl t28 rfl rfl rfl<|K.nil ?_) rfl rfl
      refine ⟨_,18,SV.agg [.i x.key,.i x.id],J i,J (i+1),rfl,rfl,rfl,rfl,hy i x hx,rfl,fun ops=>K.un (V:=.bool false) g0 rfl (fun _=>rfl) rfl<|K.nil<|At.next<|G.cond rfl (fun h=>by cases h) (fun _=>G.skip<|At.block_normal<|At.next<|G.rg<|K.bin (V:=.int .i64 ((i+1:Nat):Int)) g0 rfl rfl (fun _=>by rw [← itW (by omega)];rfl) rfl<|K.mv rfl rfl<|K.nil<|At.ag ⟨i+1,hlt⟩ [] [_,_,_] (by show l0.length - (i+1)<l0.length - i;omega) rfl ⟨rfl,rfl,rfl,rfl,trivial⟩ ⟨rfl,(fun _=>rfl),rfl,(fun _=>rfl),rfl,(blk_ren rfl rfl),trivial⟩ rfl)⟩
    · have he:i=l0.length:=by have:=of_decide_eq_false h1;omega
      subst he
      exact G.exit<|At.over_exit<|At.over_exit<|At.block_hit<|At.dn Y [] rfl rfl rfl rfl rfl rfl rfl
theorem appendSeq_con {S : Foot} {W0 : World} {s0 : Value} {b0 o0 : Nat} {l0 : List TItem} (hI : LAt S W0 s0 b0 o0 eTItem 2 l0) (hl : l0.length + 1 < 4294967296) :
    SCon Tryz.prog 131 [SV.raw (.slice none 0 0),.a (.c (.fn (.func 107) [1]))] [(0,rd S W0),(1,blk 1 [.v s0] 54)] (.a (.c (.nv 30))) [(0,rd S W0),(1,blk 1 [.v s0] 54),(30,lrow 30 28 eTItem 2 l0)] [30]:=by
  refine spec_ofM [(0,_),(1,_)] [(0,_),(1,_)] 13 Tryz.func131 rfl Tryz.ntmps131 rfl rfl rfl rfl (fun β W F=>?_)
  refine G.seq<|G.rg<|K.box Y 100 _ g0 rfl rfl rfl rfl rfl rfl<|K.as rfl rfl<|K.nil<|At.nilBlk (n:=100) (l':=[_]) 0 101 28 eTItem 2 rfl rfl rfl rfl rfl<|At.next<|G.seq<|G.seq<|G.rg<|K.mv rfl rfl<|K.nil<|At.next<|G.block ?_
  refine G.rangeF (fs0:=[(2,SV.p 2 0),(6,.a (.c (.fn (.func 107) [1])))]) (f:=107) (ks:=[1]) l0 (fun x=>SV.agg [.i x.key,.i x.id]) (fun i=>[(2,blk 2 [.nv 23] 54),(23,lrow 23 28 eTItem 2 (l0.take i))]) [(0,rd S W0),(1,blk 1 [.v s0] 54)] rfl rfl (cf 107 rfl)
    [(2,100),(23,101)] [_,_,_,_] ⟨rfl,rfl,trivial⟩ ⟨rfl,(blk_ren rfl rfl),rfl,(lrow_ren rfl),rfl,(fun _=>rfl),rfl,(blk_ren rfl rfl),trivial⟩ rfl rfl rfl rfl (fun _=>rfl) rfl (fun _=>rfl)
    (fun l J β1 hy=>vals_it hI (by omega) l J β1 hy) (fun i x hx=>?_)
    [(100,2),(101,23),(0,0),(1,1)] [(100,blk 100 [.nv 101] 54),(101,lrow 101 28 eTItem 2 (l0.take l0.length)),(0,rd S W0),(1,blk 1 [.v s0] 54)] [_,_,_,_]
    ⟨rfl,(blk_ren rfl rfl),rfl,(lrow_ren rfl),rfl,(fun _=>rfl),rfl,(blk_ren rfl rfl),trivial⟩ rfl rfl rfl rfl rfl (fun D=>?_)
  · show RoundOk _ _ _ _ _ _ _ [(2,blk 2 [.nv 23] 54),(23,lrow 23 28 eTItem 2 (l0.take i))] [(2,blk 2 [.nv 23] 54),(23,lrow 23 28 eTItem 2 (l0.take (i+1)))]
    have hlt:=(List.getElem?_eq_some_iff.1 hx).1
    have hle:(l0.take i).length+1<4294967296:=by rw [List.length_take];omega
    rw [itS hx]
    intro C l D r hn hr hp
    refine GR.rg rfl<|K.alloc Y 102 _ g0 t28 rfl rfl rfl rfl (by rw [hn];rfl)<|K.store Y _ g0 rfl rfl rfl t28 rfl rfl rfl rfl rfl<|K.nil<|At.begin rfl hr<|GR.block<|GR.rg rfl<|K.load1 Y g0 rfl rfl t54 rfl (by rw [hn];rfl)<|K.loadS Y _ g0 rfl rfl t28 rfl rfl (by rw [hn];rfl)<|K.buildL Y 103 ([x]:List TItem) [(0,_)] [((.tmp 9),_)] eTItem_len g0 (AllE.spec ⟨rfl,trivial⟩) rfl rfl Tryz.underlying54 t28 rfl rfl rfl rfl rfl rfl rfl (by rw [hn];rfl)<|K.appendL 104 (lrowV 103 28 eTItem 2 ([x]:List TItem)) _ el54 (lrowV_is eTItem_len (by decide)) eTItem_one g0 rfl rfl rfl rfl rfl (ap_m hle) (ap_b hle (by decide)) rfl rfl rfl rfl rfl (by rw [hn];rfl)<|K.store Y _ g0 rfl rfl rfl t54 rfl rfl rfl rfl rfl<|K.nil<|At.block_normal ?_
    exact At.er [(23,104)] [_,_] rfl rfl hr hp rfl ⟨rfl,(blk_ren rfl rfl),rfl,(lrow_ren rfl),trivial⟩ rfl
  · rw [List.take_length]
    refine At.block_normal<|At.next<|G.seq<|G.rg<|K.load1 Y g0 rfl rfl t54 rfl rfl<|K.as rfl rfl<|K.nil<|At.next<|G.ret<|At.mark rfl<|At.ren (fs':=[(4,.a (.c (.nv 30)))]) (tl:=[(0,rd S W0),(1,blk 1 [.v s0] 54),(30,lrow 30 28 eTItem 2 l0)]) [(30,101)] [_,_,_] rfl ⟨rfl,trivial⟩ ⟨rfl,(fun _=>rfl),rfl,(blk_ren rfl rfl),rfl,(lrow_ren rfl),trivial⟩ rfl<|At.dr Y [4] rfl rfl (by rfl) (by rfl) rfl rfl rfl
theorem collect_con {S : Foot} {W0 : World} {s0 : Value} {b0 o0 : Nat} {l0 : List TItem} (hI : LAt S W0 s0 b0 o0 eTItem 2 l0) (hl : l0.length + 1 < 4294967296) :
    SCon Tryz.prog 105 [.a (.c (.fn (.func 107) [1]))] [(0,rd S W0),(1,blk 1 [.v s0] 54)] (.a (.c (.nv 30))) [(0,rd S W0),(1,blk 1 [.v s0] 54),(30,lrow 30 28 eTItem 2 l0)] [30]:=by
  refine spec_of [(0,_)] [(0,_),(1,_)] 5 Tryz.func105 rfl Tryz.ntmps105 rfl rfl rfl rfl (fun β W F=>?_)
  exact G.seq<|G.rg<|K.as rfl rfl<|K.nil<|At.next<|G.seq<|G.rg<|K.mv rfl rfl<|K.c0 (cf 131 rfl) (appendSeq_con hI hl) g0 rfl rfl rfl rfl<|K.as rfl rfl<|K.nil<|At.next<|G.ret<|At.dr Y [2] rfl rfl (by rfl) (by rfl) rfl rfl rfl
theorem insNil_con:SCon Tryz.prog 149 [SV.raw (.slice none 0 0),SV.i 0,SV.i 0,SV.raw (.func (.func 46) #[] #[])] [] (.tup []) [] []:=by
  refine spec_of [(0,_),(1,_),(2,_),(3,_)] [] 53 Tryz.func149 rfl Tryz.ntmps149 rfl rfl rfl rfl (fun β W F=>?_)
  refine G.seq<|G.rg<|K.mv rfl rfl<|K.bin (V:=.int .i64 (w64 (0+1))) g0 rfl rfl (fun _=>rfl) rfl<|K.as rfl rfl<|K.nil<|At.next<|G.block<|G.lp (σ:=Unit) (fun _=>[(2,SV.i 0),(8,SV.i (w64 (0+1)))]) (fun _=>[]) (fun _=>0) () (At.into [] [] rfl ⟨rfl,rfl,trivial⟩ trivial rfl) (fun _=>?_)
  show G _ _ [(2,SV.i 0),(8,SV.i (w64 (0+1)))] [] _ _
  exact G.seq<|G.seq<|G.rg<|K.mv rfl rfl<|K.mv rfl rfl<|K.bin (V:=.bool (decide (w64 (0+1)<0))) g0 rfl rfl (fun _=>rfl) rfl<|K.nil<|At.next<|G.cond rfl (fun h=>absurd h (by decide)) (fun _=>G.exit<|At.over_exit<|At.over_exit<|At.block_hit<|At.dn Y [] rfl rfl rfl rfl rfl rfl rfl)
theorem pdqNil_con:SCon Tryz.prog 132 [SV.raw (.slice none 0 0),SV.i 0,SV.i 0,SV.i 0,SV.raw (.func (.func 46) #[] #[])] [] (.tup []) [] []:=by
  refine spec_of [(0,_),(1,_),(2,_),(3,_),(4,_)] [] 148 Tryz.func132 rfl Tryz.ntmps132 rfl rfl rfl rfl (fun β W F=>?_)
  refine G.seq<|G.rg<|K.as rfl rfl<|K.nil<|At.next<|G.seq<|G.rg<|K.as rfl rfl<|K.nil<|At.next<|G.block<|G.lp (σ:=Unit) (fun _=>[(0,SV.raw (.slice none 0 0)),(1,SV.i 0),(2,SV.i 0),(4,SV.raw (.func (.func 46) #[] #[]))]) (fun _=>[]) (fun _=>0) () (At.into [] [] rfl ⟨rfl,rfl,rfl,rfl,trivial⟩ trivial rfl) (fun _=>?_)
  show G _ _ [(0,SV.raw (.slice none 0 0)),(1,SV.i 0),(2,SV.i 0),(4,SV.raw (.func (.func 46) #[] #[]))] [] _ _
  refine G.block<|G.seq<|G.rg<|K.mv rfl rfl<|K.mv rfl rfl<|K.bin (V:=.int .i64 (w64 (0 - 0))) g0 rfl rfl (fun _=>rfl) rfl<|K.as rfl rfl<|K.nil<|At.next<|G.seq<|G.seq<|G.rg<|K.mv rfl rfl<|K.bin (V:=.bool (decide (w64 (0 - 0)≤12))) g0 rfl rfl (fun _=>rfl) rfl<|K.nil<|At.next<|G.cond rfl (fun _=>?_) (fun h=>absurd h (by decide))
  exact G.seq<|G.rg<|K.mv rfl rfl<|K.mv rfl rfl<|K.mv rfl rfl<|K.mv rfl rfl<|K.cR (cf 149 rfl) insNil_con g0 rfl rfl rfl rfl<|K.nil<|At.next<|G.ret<|At.over_ret<|At.block_ret<|At.over_ret<|At.block_ret<|At.dr Y [] rfl rfl (by rfl) (by rfl) rfl rfl rfl
theorem len0_con:SCon Tryz.prog 133 [.a (.c (.v (.int .u64 0)))] [] (SV.i 0) [] []:=by
  intro β w F hs
  have h:=Any.bits_Len (SlLaysF0.n15.bits (P:=Tryz.prog) (ρ:=shSort_ren) { shSort with }) (0:Int) w (by decide) (by decide)
  refine Calls.mono h ?_
  rintro e w' ⟨rfl,rfl⟩
  exact ⟨β,fun _ _=>rfl,rfl,F,hs,fun b hb=>.inl hb,Mod.refl _ _⟩
theorem sortNil_con:SCon Tryz.prog 106 [SV.raw (.slice none 0 0),SV.raw (.func (.func 46) #[] #[])] [] (.tup []) [] []:=by
  refine spec_of [(0,_),(1,_)] [] 14 Tryz.func106 rfl Tryz.ntmps106 rfl rfl rfl rfl (fun β W F=>?_)
  exact G.seq<|G.rg<|K.mv rfl rfl<|K.bi1 (X:=SV.raw (.slice none 0 0)) (V:=.int .i64 0) g0 rfl (fun _ _ w=>lenS Tryz.underlying54 _ w) rfl<|K.as rfl rfl<|K.nil<|At.next<|G.rg<|K.mv rfl rfl<|K.mv rfl rfl<|K.mv rfl rfl<|K.conv (V:=.int .u64 0) g0 rfl (cv_int (by rw [Tryz.underlying3];rfl) Tryz.underlying188) rfl<|K.cR (cf 133 rfl) len0_con g0 rfl rfl rfl rfl<|K.mv rfl rfl<|K.cR (cf 132 rfl) pdqNil_con g0 rfl rfl rfl rfl<|K.nil<|At.dn Y [] rfl rfl rfl rfl rfl rfl rfl
instance:Inhabited TItem:=⟨zTItem⟩
theorem swoI:SWO (ltOf isgn) where
  irrefl x:=by unfold ltOf;exact decide_eq_false (fun h=>ilt_irrefl x (isgnL.1 h))
  trans x y z h1 h2:=by
    unfold ltOf at *
    have a:=isgnL.1 (of_decide_eq_true h1);have b:=isgnL.1 (of_decide_eq_true h2)
    exact decide_eq_true (isgnL.2 (ilt_trans_le a (ilt_ile b)))
  ntrans x y z h1 h2:=by
    unfold ltOf at *
    have a:=not_ilt.1 (fun h=>of_decide_eq_false h1 (isgnL.2 h));have b:=not_ilt.1 (fun h=>of_decide_eq_false h2 (isgnL.2 h))
    exact decide_eq_false (fun h=>not_ilt.2 (ile_trans b a) (isgnL.1 h))
theorem sort_item (j:Nat) (l:List TItem) (hl:l.length<4611686018427387904):SCon Tryz.prog 106 [.a (.c (.nv j)),SV.raw (.func (.func 46) #[] #[])] [(j,lrow j 28 eTItem 2 l)] (.tup []) [(j,lrow j 28 eTItem 2 (srtBy isgn l))] []:=by
  refine sort_con (ρ:=shSort_ren) (k:=2) shSort Tryz.isAgg28 Tryz.sizeOf28 (fun _=>rfl) (fun x v hv=>by simp [eTItem] at hv;rcases hv with rfl | rfl <;> rfl) swoI 46 (fun args w=>callFunc_run (cf 46 rfl) args w) (fun x y w=>?_) (fun w=>?_) 28 j l hl
  · have h:=item_Compare_con (k:=1000001) (itemCompare_eq 1000001 (by decide) x y) (fun _=>⟨0,.bool false⟩) w (fun _=>False) (fun _ h=>h)
    refine Calls.mono h ?_
    rintro e w' ⟨β',_,rfl,F',_,_,hm⟩
    exact ⟨rfl,mod_grow hm⟩
  · have h:=sortNil_con (fun _=>⟨0,.bool false⟩) w (fun _=>False) (fun _ h=>h)
    refine Calls.mono h ?_
    rintro e w' ⟨β',_,rfl,F',_,_,hm⟩
    exact ⟨rfl,hm⟩
theorem sorted_con0 {S : Foot} {W0 : World} {s0 : Value} {b0 o0 : Nat} {l0 : List TItem} (hI : LAt S W0 s0 b0 o0 eTItem 2 l0) (hl : l0.length + 1 < 4294967296) :
    SCon Tryz.prog 76 [.a (.c (.fn (.func 107) [1])),SV.raw (.func (.func 46) #[] #[])] [(0,rd S W0),(1,blk 1 [.v s0] 54)] (.a (.c (.nv 30))) [(0,rd S W0),(1,blk 1 [.v s0] 54),(30,lrow 30 28 eTItem 2 (srtBy isgn l0))] [30]:=by
  refine spec_of [(0,_),(1,_)] [(0,_),(1,_)] 12 Tryz.func76 rfl Tryz.ntmps76 rfl rfl rfl rfl (fun β W F=>?_)
  exact G.seq<|G.rg<|K.as rfl rfl<|K.nil<|At.next<|G.seq<|G.rg<|K.mv rfl rfl<|K.c0 (cf 105 rfl) (collect_con hI hl) g0 rfl rfl rfl rfl<|K.as rfl rfl<|K.nil<|At.next<|G.seq<|G.rg<|K.mv rfl rfl<|K.mv rfl rfl<|K.c0 (cf 106 rfl) (sort_item 30 l0 (by omega)) g0 rfl rfl rfl rfl<|K.nil<|At.next<|G.seq<|G.rg<|K.mv rfl rfl<|K.as rfl rfl<|K.nil<|At.next<|G.ret<|At.dr Y [4] rfl rfl (by rfl) (by rfl) rfl rfl rfl
theorem values_con {s0:Value} (h1:s0.oneCell'=true):SCon Tryz.prog 77 [SV.raw s0] [] (.a (.c (.fn (.func 107) [50]))) [(50,blk 50 [.v s0] 54)] [50]:=by
  refine spec_of [(0,_)] [] 4 Tryz.func77 rfl Tryz.ntmps77 rfl rfl rfl rfl (fun β W F=>?_)
  exact G.seq<|G.rg<|K.box Y 50 _ g0 rfl rfl (by show (s0.oneCell'&&true)=true;rw [h1];rfl) rfl rfl rfl<|K.as rfl rfl<|K.nil<|At.next<|G.seq<|G.rg<|K.mkFn1 g0 rfl rfl<|K.as rfl rfl<|K.nil<|At.next<|G.ret<|At.dr Y [2] rfl rfl (by rfl) (by rfl) rfl rfl rfl
def item_Sorted.f (k:Nat) (l0:List TItem):Option (List TItem):=bif decide (l0.length+1<4294967296) then some (srtBy isgn l0) else none
abbrev item_Sorted_st (S:Foot) (W0:World) (s0:Value) (r:List TItem) (m30:Nat):Prop:=SCon Tryz.prog 51 [SV.raw s0] [(0,rd S W0)] (.a (.c (.nv m30))) [(0,rd S W0),(m30,lrow m30 28 eTItem 2 r)] [m30]
theorem item_Sorted_con0 {k:Nat} {S:Foot} {W0:World} {s0:Value} {l0:List TItem} {r:List TItem} (hL0:LArg S W0 s0 eTItem 2 l0) (H0:item_Sorted.f k l0=some r):item_Sorted_st S W0 s0 r 30:=by
  obtain ⟨hl,H0⟩:=grd H0
  cases H0
  obtain ⟨b0,o0,hI0⟩:=hL0
  obtain ⟨ao,cap,hE,_⟩:=id hI0.sl
  have h1:s0.oneCell'=true:=by rw [hE];rfl
  refine spec_of [(0,_)] [(0,_)] 6 Tryz.func51 rfl Tryz.ntmps51 rfl rfl rfl rfl (fun β W F=>?_)
  have hs:SCon Tryz.prog 76 [.a (.c (.fn (.func 107) [50])),SV.raw (.func (.func 46) #[] #[])] [(0,rd S W0),(50,blk 50 [.v s0] 54)] (.a (.c (.nv 30))) [(0,rd S W0),(50,blk 50 [.v s0] 54),(30,lrow 30 28 eTItem 2 (srtBy isgn l0))] [30]:=SCon.ren (rn [(0,0),(1,50),(30,30)]) (sorted_con0 hI0 hl) ⟨(fun _=>rfl),(blk_ren rfl rfl),trivial⟩ ⟨(fun _=>rfl),(blk_ren rfl rfl),(lrow_ren rfl),trivial⟩ (rn_nd rfl rfl rfl) (rn_ks rfl rfl rfl rfl)
  exact G.seq<|G.rg<|K.as rfl rfl<|K.nil<|At.next<|G.seq<|G.rg<|K.mv rfl rfl<|K.c0 (cf 77 rfl) (values_con h1) g0 rfl rfl rfl rfl<|K.c0 (cf 76 rfl) hs g0 rfl rfl rfl rfl<|K.as rfl rfl<|K.nil<|At.next<|G.ret<|At.dr Y [2] rfl rfl (by rfl) (by rfl) rfl rfl rfl
theorem item_Sorted_con {k:Nat} {S:Foot} {W0:World} {s0:Value} {l0:List TItem} {r:List TItem} (hL0:LArg S W0 s0 eTItem 2 l0) (H0:item_Sorted.f k l0=some r) (m30:Nat) (hd:ndB [m30]=true):item_Sorted_st S W0 s0 r m30 :=
  SCon.ren (rn [(30,m30)]) (item_Sorted_con0 (k:=k) hL0 H0) ⟨(fun _=>rfl),trivial⟩ ⟨(fun _=>rfl),(lrow_ren rfl),trivial⟩ (rn_nd hd rfl rfl) (rn_ks hd rfl rfl rfl)
end Go.Proofs.YtgjbibabegabnaaGreat
namespace Go.Proofs.YtgjbibabegabnaaGreat
open Go Go.Proofs.YtgjbibabegabnaaGreat.Sx
variable {ω:Type}
def pQ:PT ω TQueue→List TQueue
  | .nil => []
  | .node _ _ l r _ q => q :: (pQ l ++ pQ r)
def pI:Nat→PT ω TQueue→PT ω Nat
  | _, .nil => .nil
  | i, .node o g l r n _ => .node o g (pI (i + 1) l) (pI (i + 1 + (pQ l).length) r) n i
end Go.Proofs.YtgjbibabegabnaaGreat
namespace Go.Proofs.YtgjbibabegabnaaGreat
open Go Go.Proofs.YtgjbibabegabnaaGreat.Sx
structure THp where
  q:Nat
  c:Nat
def hA (A:List (Nat→Nat)) (e:THp):Nat:=A.getD e.q (fun _=>0) e.c
def hTree (Q:List TQueue) (e:THp):Option (TS TSlot TSize):=(Q[e.q]?).bind fun q=>match e.c with
  | 4 => some q.present
  | 6 => some q.gone
  | _ => none
def hQueue (Q:List TQueue) (e:THp):Option TQueue:=if e.c=1 then Q[e.q]? else none
structure TPart where
  shelf:THp
  floor:TTook
def eTPart (A:List (Nat→Nat)) (x:TPart):List Value:=[ptr (hA A x.shelf) 0,.bool x.floor.found,.int .i64 x.floor.item.key,.int .i64 x.floor.item.id]
theorem eTPart_len (A:List (Nat→Nat)) : ∀ x,(eTPart A x).length=4:=fun _=>rfl
theorem eTPart_one (A:List (Nat→Nat)) : ∀ x,(eTPart A x).all Value.oneCell'=true:=fun _=>rfl
def partsIn (n:Nat) (l:List TPart):Bool:=l.all fun x=>decide (x.shelf.q<n)
structure TViews where
  parts:List TPart
instance:Inhabited TOp:=⟨⟨0,false,⟨0,0⟩⟩⟩
instance:Inhabited TQueue:=⟨⟨0,⟨⟨[],[],0,0,0⟩,⟨0,0⟩⟩,⟨⟨[],[],0,0,0⟩,⟨0,0⟩⟩,⟨⟨[],[],0,0,0⟩,⟨0,0⟩⟩,⟨⟨[],[],0,0,0⟩,⟨0,0⟩⟩,0⟩⟩
structure TPast where
  capacity:Int
  root:PT TOp TQueue
structure TPastI where
  capacity:Int
  root:PT TOp Nat
structure TL12Act where
  kind:Int
  time:Int
  told:Bool
  x:TItem
def eTL12Act (x:TL12Act):List Value:=[.int .i64 x.kind,.int .i64 x.time,.bool x.told,.int .i64 x.x.key,.int .i64 x.x.id]
theorem eTL12Act_len : ∀ x,(eTL12Act x).length=5:=fun _=>rfl
def shelf_Above.f (k:Nat) (p1:Pool (TNode TSlot TSize)) (rt0:TRef) (a1:TItem):Option (Int):=(Tree_Len.f opsS k p1 rt0).bind fun x1=>(shelf_Of.f k a1).bind fun x2=>(Tree_Rank.f opsS k p1 rt0 x2).bind fun x3=>(shelf_Of.f k a1).bind fun x4=>(Tree_Find.f opsS k p1 rt0 x4).bind fun x5=>bif x5.2 then (some (w64 ((w64 (x1 - x3)) - 1))) else (some (w64 (x1 - x3)))
def fuse_part_ahead.f (k:Nat) (Q:List TQueue) (a0:TPart):Option (Int):=bif (!a0.floor.found) then (some 0) else ((hTree Q a0.shelf).bind fun x1=>(Tree_Len.f opsS k x1.p x1.r).bind fun x2=>(hTree Q a0.shelf).bind fun x3=>(shelf_Above.f k x3.p x3.r a0.floor.item).bind fun x4=>some (w64 (x2 - x4)))
def fuse_part_size.f (k:Nat) (Q:List TQueue) (a0:TPart):Option (Int):=(hTree Q a0.shelf).bind fun x1=>(Tree_Len.f opsS k x1.p x1.r).bind fun x2=>(fuse_part_ahead.f k Q a0).bind fun x3=>some (w64 (x2 - x3))
def fuse_part_rank.f (k:Nat) (Q:List TQueue) (a0:TPart) (a1:TItem):Option (Int):=(shelf_Of.f k a1).bind fun x1=>(hTree Q a0.shelf).bind fun x2=>(Tree_Rank.f opsS k x2.p x2.r x1).bind fun x3=>(fuse_part_ahead.f k Q a0).bind fun x4=>some (gmax 0 (w64 (x3 - x4)))
def fuse_Views_Len.l0 (k:Nat) (Q:List TQueue) (a0:TViews):Nat→(Int×Int)→Option (Int)
  | 0, _ => none
  | n + 1, (v1, v2) => bif (decide (v2 < (a0.parts.length : Int))) then ((atL a0.parts v2).bind fun x2 => (fuse_part_size.f k Q x2).bind fun x3 => fuse_Views_Len.l0 k Q a0 n ((w64 (v1 + x3)), (w64 (v2 + 1)))) else (some v1)
def fuse_Views_Len.f (k:Nat) (Q:List TQueue) (a0:TViews):Option (Int):=(fuse_Views_Len.l0 k Q a0 k (0,0)).bind fun x1=>some x1
def fuse_Views_rank.l0 (k:Nat) (Q:List TQueue) (a0:TViews) (a1:TItem):Nat→(Int×Int)→Option (Int)
  | 0, _ => none
  | n + 1, (v1, v2) => bif (decide (v2 < (a0.parts.length : Int))) then ((atL a0.parts v2).bind fun x2 => (fuse_part_rank.f k Q x2 a1).bind fun x3 => fuse_Views_rank.l0 k Q a0 a1 n ((w64 (v1 + x3)), (w64 (v2 + 1)))) else (some v1)
def fuse_Views_rank.f (k:Nat) (Q:List TQueue) (a0:TViews) (a1:TItem):Option (Int):=(fuse_Views_rank.l0 k Q a0 a1 k (0,0)).bind fun x1=>some x1
def Tree_At.l0 {E A:Type} (O:Ops E A) (k:Nat) (p1:Pool (TNode E A)):Nat→(Int×TRef)→Option (Sum (E×Bool) (Unit))
  | 0, _ => none
  | n + 1, (v1, v2) => bif (v2.gen != 0) then ((Tree_get.f O k p1 v2).bind fun x2 => (Tree_get.f O k p1 x2.left).bind fun x3 => bif (v1 == x3.size) then (some (Sum.inl (x2.e, true))) else (bif (decide (v1 < x3.size)) then (Tree_At.l0 O k p1 n (v1, x2.left)) else (Tree_At.l0 O k p1 n ((w64 (v1 - (w64 (x3.size + 1)))), x2.right)))) else (some (Sum.inr ()))
def Tree_At.f {E A:Type} (O:Ops E A) (k:Nat) (p1:Pool (TNode E A)) (rt0:TRef) (a1:Int):Option (E×Bool):=bif (decide (a1<0)) then (some (O.zE,false)) else ((Tree_At.l0 O k p1 k (a1,rt0)).bind (Sum.elim (fun r=>some r) (fun w1=>some (O.zE,false))))
def fuse_Views_within.l0 (k:Nat) (Q:List TQueue) (a0:TViews) (a1:TPart) (a2:Int):Nat→(Int×Int)→Option (Sum (TItem×Bool) (Unit))
  | 0, _ => none
  | n + 1, (v1, v2) => bif (decide (v1 < v2)) then ((hTree Q a1.shelf).bind fun x5 => (Tree_At.f opsS k x5.p x5.r (w64 ((w64 (v1 + v2)).tdiv 2))).bind fun x6 => (fuse_Views_rank.f k Q a0 x6.1.item).bind fun x7 => bif (x7 == a2) then (some (Sum.inl (x6.1.item, true))) else (bif (decide (x7 < a2)) then (fuse_Views_within.l0 k Q a0 a1 a2 n ((w64 ((w64 ((w64 (v1 + v2)).tdiv 2)) + 1)), v2)) else (fuse_Views_within.l0 k Q a0 a1 a2 n (v1, (w64 ((w64 (v1 + v2)).tdiv 2)))))) else (some (Sum.inr ()))
def fuse_Views_within.f (k:Nat) (Q:List TQueue) (a0:TViews) (a1:TPart) (a2:Int):Option (TItem×Bool):=(fuse_part_ahead.f k Q a1).bind fun x1=>(hTree Q a1.shelf).bind fun x2=>(Tree_Len.f opsS k x2.p x2.r).bind fun x3=>(fuse_Views_within.l0 k Q a0 a1 a2 k (x1,x3)).bind (Sum.elim (fun r=>some r) (fun w4=>some (zTItem,false)))
def fuse_Views_At.l0 (k:Nat) (Q:List TQueue) (a0:TViews) (a1:Int):Nat→Int→Option (Sum (TItem×Bool) (Unit))
  | 0, _ => none
  | n + 1, v1 => bif (decide (v1 < (a0.parts.length : Int))) then ((atL a0.parts v1).bind fun x2 => (fuse_Views_within.f k Q a0 x2 a1).bind fun x3 => bif x3.2 then (some (Sum.inl (x3.1, true))) else (fuse_Views_At.l0 k Q a0 a1 n (w64 (v1 + 1)))) else (some (Sum.inr ()))
def fuse_Views_At.f (k:Nat) (Q:List TQueue) (a0:TViews) (a1:Int):Option (TItem×Bool):=(fuse_Views_At.l0 k Q a0 a1 k 0).bind (Sum.elim (fun r=>some r) (fun w1=>some (zTItem,false)))
def fuse_part_raised.f (k:Nat) (Q:List TQueue) (a0:TPart) (a1:TItem):Option (TPart):=bif (!a0.floor.found) then (some (TPart.mk a0.shelf (TTook.mk true a1))) else ((item_Compare.f k a0.floor.item a1).bind fun x1=>bif (decide (x1<0)) then (some (TPart.mk a0.shelf (TTook.mk true a1))) else (some a0))
def slices_Clone.f (k:Nat) (Q:List TQueue) (l0:List TPart):Option (List TPart):=bif decide (([]:List TPart).length+l0.length<4294967296) then (some (([]:List TPart)++l0)) else none
def fuse_Views_Then.l0 (k:Nat) (Q:List TQueue) (a1:THp) (x3:List TPart) (x10:TItem×Bool):Nat→(List TPart×Int)→Option (List TPart)
  | 0, _ => none
  | n + 1, (v1, v2) => bif (decide (v2 < ((x3 ++ ([(TPart.mk (THp.mk a1.q 6) zTTook)] : List TPart)).length : Int))) then ((atL v1 v2).bind fun x11 => (fuse_part_raised.f k Q x11 x10.1).bind fun x12 => fuse_Views_Then.l0 k Q a1 x3 x10 n ((v1.set ((v2).toNat) x12), (w64 (v2 + 1)))) else (some v1)
def fuse_Views_Then.f (k:Nat) (Q:List TQueue) (a0:TViews) (a1:THp):Option (TViews):=(hQueue Q a1).bind fun x1=>(partial_Queue_Present.f k x1).bind fun x2=>(slices_Clone.f k Q a0.parts).bind fun x3=>(hQueue Q a1).bind fun x4=>(partial_Queue_Gone.f k x4).bind fun x5=>bif decide (x3.length+([(TPart.mk (THp.mk a1.q 6) zTTook)]:List TPart).length<4294967296) then ((hQueue Q a1).bind fun x6=>(partial_Queue_Deletes.f k x6).bind fun x7=>(fuse_Views_Len.f k Q (TViews.mk (x3++([(TPart.mk (THp.mk a1.q 6) zTTook)]:List TPart)))).bind fun x8=>bif (decide (x7≥x8)) then (some (TViews.mk ([(TPart.mk (THp.mk a1.q 4) zTTook)]:List TPart))) else (((fuse_Views_At.f k Q (TViews.mk (x3++([(TPart.mk (THp.mk a1.q 6) zTTook)]:List TPart))) (w64 (x7 - 1))).bind fun x10=>bif x10.2 then (fuse_Views_Then.l0 k Q a1 x3 x10 k ((x3++([(TPart.mk (THp.mk a1.q 6) zTTook)]:List TPart)),0)) else (some (x3++([(TPart.mk (THp.mk a1.q 6) zTTook)]:List TPart)))).bind fun x9=>bif decide (x9.length+([(TPart.mk (THp.mk a1.q 4) zTTook)]:List TPart).length<4294967296) then (some (TViews.mk (x9++([(TPart.mk (THp.mk a1.q 4) zTTook)]:List TPart)))) else none)) else none
def fuse_Views_Min.f (k:Nat) (Q:List TQueue) (a0:TViews):Option (TItem×Bool):=(fuse_Views_At.f k Q a0 0).bind fun x1=>some (x1.1,x1.2)
def slices_IndexFunc.l0 (k:Nat) (l0:List TPart) (fn1:TPart→Option Bool):Nat→Int→Option (Sum (Int) (Unit))
  | 0, _ => none
  | n + 1, v1 => bif (decide (v1 < (l0.length : Int))) then ((atL l0 v1).bind fun x2 => (fn1 x2).bind fun x3 => bif x3 then (some (Sum.inl v1)) else (slices_IndexFunc.l0 k l0 fn1 n (w64 (v1 + 1)))) else (some (Sum.inr ()))
def slices_IndexFunc.f (k:Nat) (Q:List TQueue) (l0:List TPart) (fn1:TPart→Option Bool):Option (Int):=(slices_IndexFunc.l0 k l0 fn1 k 0).bind (Sum.elim (fun r=>some r) (fun w1=>some (-1)))
def slices_ContainsFunc.f (k:Nat) (Q:List TQueue) (l0:List TPart) (fn1:TPart→Option Bool):Option (Bool):=(slices_IndexFunc.f k Q l0 fn1).bind fun x1=>some (decide (x1≥0))
def fuse_Views_Has_1.f (k:Nat) (Q:List TQueue) (a0:TPart) (c0:TItem):Option (Bool):=(shelf_Of.f k c0).bind fun x1=>(hTree Q a0.shelf).bind fun x2=>(Tree_Find.f opsS k x2.p x2.r x1).bind fun x3=>bif x3.2 then (bif (!a0.floor.found) then (some true) else ((item_Compare.f k a0.floor.item c0).bind fun x4=>some (decide (x4<0)))) else (some false)
def fuse_Views_Has.f (k:Nat) (Q:List TQueue) (a0:TViews) (a1:TItem):Option (Bool):=(slices_ContainsFunc.f k Q a0.parts (fun z0=>fuse_Views_Has_1.f k Q z0 a1)).bind fun x1=>some x1
def fuse_None.f (k:Nat):Option (TViews):=some (TViews.mk ([]:List TPart))
def past_node_size.f (k:Nat) (t0:PT TOp TQueue):Option (Int):=bif t0.isNil then (some 0) else (some t0.n)
def past_node_leans.f (k:Nat) (t0:PT TOp TQueue):Option (Bool):=bif decide (t0.isNil=false) then ((past_node_size.f k t0.lf).bind fun x1=>(past_node_size.f k t0.rt).bind fun x2=>some (decide ((w64 (3*(gmax x1 x2)))>(w64 ((w64 (2*t0.n))+1))))) else none
def past_node_height.r (k:Nat):Nat→PT TOp TQueue→Option (Int)
  | 0, _ => none
  | n + 1, t0 => bif t0.isNil then (some 0) else ((past_node_height.r k n t0.lf).bind fun x1 => (past_node_height.r k n t0.rt).bind fun x2 => some (w64 (1 + (gmax x1 x2))))
def past_node_height.f (k:Nat) (t0:PT TOp TQueue):Option (Int):=past_node_height.r k k t0
def past_add.f (k:Nat) (q0:TQueue) (a1:TOp):Option (Int×TQueue):=bif a1.insert then ((partial_Queue_Insert.f k q0 a1.time a1.item).bind fun x1=>some (x1.2.1,x1.2.2)) else ((partial_Queue_Delete.f k q0 a1.time).bind fun x2=>some (x2.2.1,x2.2.2))
def past_Past_queue.l0 (k:Nat) (l1:List TOp):Nat→(TQueue×Int)→Option (TQueue)
  | 0, _ => none
  | n + 1, (v1, v2) => bif (decide (v2 < (l1.length : Int))) then ((atL l1 v2).bind fun x3 => (past_add.f k v1 x3).bind fun x4 => past_Past_queue.l0 k l1 n (x4.2, (w64 (v2 + 1)))) else (some v1)
def past_Past_queue.f (k:Nat) (a0:Int) (l1:List TOp):Option (TQueue):=(partial_New.f k a0).bind fun x1=>(past_Past_queue.l0 k l1 k (x1,0)).bind fun x2=>some x2
def past_Past_build.r (k:Nat):Nat→Int→List TOp→Option (PT TOp TQueue)
  | 0, _, _ => none
  | n + 1, a0, l1 => bif ((l1.length : Int) == 0) then (some (PT.nil : PT TOp TQueue)) else ((atL l1 (w64 ((l1.length : Int).tdiv 2))).bind fun x1 => bif decide (0 ≤ (w64 ((l1.length : Int).tdiv 2)) ∧ (w64 ((l1.length : Int).tdiv 2)) ≤ (l1.length : Int)) then ((past_Past_build.r k n a0 ((l1.drop 0).take ((((w64 ((l1.length : Int).tdiv 2))).toNat) - 0))).bind fun x2 => bif decide (0 ≤ (w64 ((w64 ((l1.length : Int).tdiv 2)) + 1)) ∧ (w64 ((w64 ((l1.length : Int).tdiv 2)) + 1)) ≤ (l1.length : Int)) then ((past_Past_build.r k n a0 ((l1.drop (((w64 ((w64 ((l1.length : Int).tdiv 2)) + 1))).toNat)).take (l1.length - (((w64 ((w64 ((l1.length : Int).tdiv 2)) + 1))).toNat)))).bind fun x3 => (past_Past_queue.f k a0 l1).bind fun x4 => some (PT.node x1 false x2 x3 (l1.length : Int) x4)) else none) else none)
def past_Past_build.f (k:Nat) (a0:Int) (l1:List TOp):Option (PT TOp TQueue):=past_Past_build.r k k a0 l1
def past_Past_put.r (k:Nat):Nat→Int→PT TOp TQueue→TOp→Option (PT TOp TQueue)
  | 0, _, _, _ => none
  | n + 1, a0, t1, a2 => bif t1.isNil then ((past_Past_build.f k a0 ([a2] : List TOp)).bind fun x1 => some x1) else ((past_add.f k t1.q a2).bind fun x2 => bif (decide (a2.time < t1.op.time)) then ((past_Past_put.r k n a0 t1.lf a2).bind fun x3 => (past_node_size.f k x3).bind fun x4 => (past_node_size.f k t1.rt).bind fun x5 => some (PT.node t1.op t1.gone x3 t1.rt (w64 ((w64 (x4 + 1)) + x5)) x2.2)) else (bif (decide (a2.time > t1.op.time)) then ((past_Past_put.r k n a0 t1.rt a2).bind fun x6 => (past_node_size.f k t1.lf).bind fun x7 => (past_node_size.f k x6).bind fun x8 => some (PT.node t1.op t1.gone t1.lf x6 (w64 ((w64 (x7 + 1)) + x8)) x2.2)) else ((past_node_size.f k t1.lf).bind fun x9 => (past_node_size.f k t1.rt).bind fun x10 => some (PT.node a2 false t1.lf t1.rt (w64 ((w64 (x9 + 1)) + x10)) x2.2))))
def past_Past_put.f (k:Nat) (a0:Int) (t1:PT TOp TQueue) (a2:TOp):Option (PT TOp TQueue):=past_Past_put.r k k a0 t1 a2
def past_Past_even.r (k:Nat):Nat→Int→PT TOp TQueue→Int→Option (PT TOp TQueue)
  | 0, _, _, _ => none
  | n + 1, a0, t1, a2 => bif t1.isNil then (some (PT.nil : PT TOp TQueue)) else ((past_node_leans.f k t1).bind fun x1 => bif x1 then ((partial_Queue_Ops.f k t1.q).bind fun x2 => (past_Past_build.f k a0 x2).bind fun x3 => some x3) else (bif (decide (a2 < t1.op.time)) then ((past_Past_even.r k n a0 t1.lf a2).bind fun x4 => (past_node_size.f k x4).bind fun x5 => (past_node_size.f k t1.rt).bind fun x6 => some (PT.node t1.op t1.gone x4 t1.rt (w64 ((w64 (x5 + 1)) + x6)) t1.q)) else ((past_Past_even.r k n a0 t1.rt a2).bind fun x7 => (past_node_size.f k t1.lf).bind fun x8 => (past_node_size.f k x7).bind fun x9 => some (PT.node t1.op t1.gone t1.lf x7 (w64 ((w64 (x8 + 1)) + x9)) t1.q))))
def past_Past_even.f (k:Nat) (a0:Int) (t1:PT TOp TQueue) (a2:Int):Option (PT TOp TQueue):=past_Past_even.r k k a0 t1 a2
def past_New.f (k:Nat) (a0:Int):Option (TPast):=some (TPast.mk (gmin (gmax a0 0) 65536) (PT.nil:PT TOp TQueue))
def past_Past_insert.f (k:Nat) (q0:TPast) (a1:TOp):Option (Int×TPast):=bif q0.root.isNil then ((past_Past_queue.f k q0.capacity ([]:List TOp)).bind fun x1=>(past_add.f k x1 a1).bind fun x2=>bif (x2.1 != 0) then (some (x2.1,q0)) else ((past_Past_build.f k q0.capacity ([a1]:List TOp)).bind fun x3=>some (0,(TPast.mk q0.capacity x3)))) else ((past_add.f k q0.root.q a1).bind fun x4=>bif (x4.1 != 0) then (some (x4.1,(TPast.mk q0.capacity (PT.node q0.root.op q0.root.gone q0.root.lf q0.root.rt q0.root.n x4.2)))) else ((partial_Queue_Revoke.f k x4.2 a1.time).bind fun x5=>(past_Past_put.f k q0.capacity (PT.node q0.root.op q0.root.gone q0.root.lf q0.root.rt q0.root.n x5.2.2) a1).bind fun x6=>(past_Past_even.f k q0.capacity x6 a1.time).bind fun x7=>some (0,(TPast.mk q0.capacity x7))))
def past_Past_Insert.f (k:Nat) (q0:TPast) (a1:Int) (a2:TItem):Option (Int×TPast):=(past_Past_insert.f k q0 (TOp.mk a1 true a2)).bind fun x1=>some (x1.1,x1.2)
def past_Past_Delete.f (k:Nat) (q0:TPast) (a1:Int):Option (Int×TPast):=(past_Past_insert.f k q0 (TOp.mk a1 false zTItem)).bind fun x1=>some (x1.1,x1.2)
def past_Past_Len.f (k:Nat) (q0:TPast):Option (Int):=bif q0.root.isNil then (some 0) else ((partial_Queue_Len.f k q0.root.q).bind fun x1=>some x1)
def past_Past_Ops.f (k:Nat) (q0:TPast):Option (List TOp):=bif q0.root.isNil then (some ([]:List TOp)) else ((partial_Queue_Ops.f k q0.root.q).bind fun x1=>some x1)
def past_Past_Height.f (k:Nat) (q0:TPast):Option (Int):=(past_node_height.f k q0.root).bind fun x1=>some x1
def past_Past_Len_x.f (k:Nat) (q0:TPast):Option (Int):=(partial_Queue_Len.f k q0.root.q).bind fun x1=>some x1
def past_Past_Revoke.l0 (k:Nat) (a1:Int):Nat→(PT TOp TQueue×List (PF TOp TQueue))→Option (PT TOp TQueue×List (PF TOp TQueue))
  | 0, _ => none
  | n + 1, (v1, v2) => bif decide (v1.isNil = false) then (bif (v1.op.time != a1) then (bif (decide (a1 < v1.op.time)) then (bif decide (v1.lf.isNil = false) then ((partial_Queue_Revoke.f k v1.lf.q a1).bind fun x3 => past_Past_Revoke.l0 k a1 n ((PT.node v1.lf.op v1.lf.gone v1.lf.lf v1.lf.rt v1.lf.n x3.2.2), ((PF.mk v1.op v1.gone v1.n v1.q true v1.rt) :: v2))) else none) else (bif decide (v1.rt.isNil = false) then ((partial_Queue_Revoke.f k v1.rt.q a1).bind fun x4 => past_Past_Revoke.l0 k a1 n ((PT.node v1.rt.op v1.rt.gone v1.rt.lf v1.rt.rt v1.rt.n x4.2.2), ((PF.mk v1.op v1.gone v1.n v1.q false v1.lf) :: v2))) else none)) else (some (v1, v2))) else none
def past_Past_Revoke.f (k:Nat) (q0:TPast) (a1:Int):Option (Int×TPast):=bif q0.root.isNil then (some (14,q0)) else ((partial_Queue_Revoke.f k q0.root.q a1).bind fun x1=>bif (x1.2.1 != 0) then (some (x1.2.1,(TPast.mk q0.capacity (PT.node q0.root.op q0.root.gone q0.root.lf q0.root.rt q0.root.n x1.2.2)))) else ((past_Past_Revoke.l0 k a1 k ((PT.node q0.root.op q0.root.gone q0.root.lf q0.root.rt q0.root.n x1.2.2),([]:List (PF TOp TQueue)))).bind fun x2=>bif decide (x2.1.isNil=false) then (bif decide ((plug x2.2 (PT.node x2.1.op true x2.1.lf x2.1.rt x2.1.n x2.1.q)).isNil=false) then ((past_Past_Len_x.f k (TPast.mk q0.capacity (plug x2.2 (PT.node x2.1.op true x2.1.lf x2.1.rt x2.1.n x2.1.q)))).bind fun x5=>bif (decide ((w64 (2*x5))<((plug x2.2 (PT.node x2.1.op true x2.1.lf x2.1.rt x2.1.n x2.1.q)).n))) then ((past_Past_Ops.f k (TPast.mk q0.capacity (plug x2.2 (PT.node x2.1.op true x2.1.lf x2.1.rt x2.1.n x2.1.q)))).bind fun x6=>(past_Past_build.f k q0.capacity x6).bind fun x7=>some (0,(TPast.mk q0.capacity x7))) else (some (0,(TPast.mk q0.capacity (plug x2.2 (PT.node x2.1.op true x2.1.lf x2.1.rt x2.1.n x2.1.q)))))) else none) else none))
def past_Past_until.l0 (k:Nat) (Q:List TQueue) (q0:TPastI) (a1:Int) (a2:Bool):Nat→(List TPart×PT TOp Nat×List TQueue)→Option (List TPart×List TQueue)
  | 0, _ => none
  | n + 1, (v1, v2, v3) => bif (!v2.isNil) then (bif decide (v2.q < Q.length) then (bif (decide (a1 < v2.op.time)) then (past_Past_until.l0 k Q q0 a1 a2 n (v1, v2.lf, v3)) else (bif (a1 == v2.op.time) then (bif (!a2) then (past_Past_until.l0 k Q q0 a1 a2 n (v1, v2.lf, v3)) else (bif (!v2.lf.isNil) then (bif decide (v2.lf.q < Q.length) then ((fuse_Views_Then.f k v3 (TViews.mk v1) (THp.mk v2.lf.q 1)).bind fun x3 => bif (!v2.gone) then ((past_Past_queue.f k q0.capacity ([v2.op] : List TOp)).bind fun x4 => bif decide (partsIn v3.length x3.parts = true) then ((fuse_Views_Then.f k (v3 ++ [x4]) x3 (THp.mk v3.length 1)).bind fun x5 => bif decide (partsIn v3.length ([] : List TPart) = true) then (bif decide (partsIn v3.length v1 = true) then (bif decide ((THp.mk v2.lf.q 1).q < v3.length) then (bif decide (v2.q < Q.length) then (past_Past_until.l0 k Q q0 a1 a2 n (x5.parts, v2.rt, (v3 ++ [x4]))) else none) else none) else none) else none) else none) else (past_Past_until.l0 k Q q0 a1 a2 n (x3.parts, v2.rt, v3))) else none) else (bif (!v2.gone) then ((past_Past_queue.f k q0.capacity ([v2.op] : List TOp)).bind fun x6 => bif decide (partsIn v3.length v1 = true) then ((fuse_Views_Then.f k (v3 ++ [x6]) (TViews.mk v1) (THp.mk v3.length 1)).bind fun x7 => bif decide (partsIn v3.length ([] : List TPart) = true) then (bif decide (v2.q < Q.length) then (past_Past_until.l0 k Q q0 a1 a2 n (x7.parts, v2.rt, (v3 ++ [x6]))) else none) else none) else none) else (past_Past_until.l0 k Q q0 a1 a2 n (v1, v2.rt, v3))))) else (bif (!v2.lf.isNil) then (bif decide (v2.lf.q < Q.length) then ((fuse_Views_Then.f k v3 (TViews.mk v1) (THp.mk v2.lf.q 1)).bind fun x8 => bif (!v2.gone) then ((past_Past_queue.f k q0.capacity ([v2.op] : List TOp)).bind fun x9 => bif decide (partsIn v3.length x8.parts = true) then ((fuse_Views_Then.f k (v3 ++ [x9]) x8 (THp.mk v3.length 1)).bind fun x10 => bif decide (partsIn v3.length ([] : List TPart) = true) then (bif decide (partsIn v3.length v1 = true) then (bif decide ((THp.mk v2.lf.q 1).q < v3.length) then (bif decide (v2.q < Q.length) then (past_Past_until.l0 k Q q0 a1 a2 n (x10.parts, v2.rt, (v3 ++ [x9]))) else none) else none) else none) else none) else none) else (past_Past_until.l0 k Q q0 a1 a2 n (x8.parts, v2.rt, v3))) else none) else (bif (!v2.gone) then ((past_Past_queue.f k q0.capacity ([v2.op] : List TOp)).bind fun x11 => bif decide (partsIn v3.length v1 = true) then ((fuse_Views_Then.f k (v3 ++ [x11]) (TViews.mk v1) (THp.mk v3.length 1)).bind fun x12 => bif decide (partsIn v3.length ([] : List TPart) = true) then (bif decide (v2.q < Q.length) then (past_Past_until.l0 k Q q0 a1 a2 n (x12.parts, v2.rt, (v3 ++ [x11]))) else none) else none) else none) else (past_Past_until.l0 k Q q0 a1 a2 n (v1, v2.rt, v3)))))) else none) else (some (v1, v3))
def past_Past_until.f (k:Nat) (Q:List TQueue) (q0:TPastI) (a1:Int) (a2:Bool):Option (TViews×List TQueue):=(fuse_None.f k).bind fun x1=>(past_Past_until.l0 k Q q0 a1 a2 k (x1.parts,q0.root,Q)).bind fun x2=>some ((TViews.mk x2.1),x2.2)
def past_Past_At.f (k:Nat) (Q:List TQueue) (q0:TPastI) (a1:Int):Option (TViews×List TQueue):=(past_Past_until.f k Q q0 a1 true).bind fun x1=>some (x1.1,x1.2)
def past_Past_Ahead.f (k:Nat) (Q:List TQueue) (q0:TPastI) (a1:Int):Option (TViews×List TQueue):=(past_Past_until.f k Q q0 a1 false).bind fun x1=>some (x1.1,x1.2)
def Lw14_awake.f (k:Nat):Option (Bool):=(past_New.f k 9).bind fun x1=>((past_Past_Insert.f k x1 1 (TItem.mk 5 0)).bind fun x3=>bif (x3.1 != 0) then (some (Sum.inl false)) else ((past_Past_Insert.f k x3.2 2 (TItem.mk 3 0)).bind fun x4=>bif (x4.1 != 0) then (some (Sum.inl false)) else ((past_Past_Delete.f k x4.2 3).bind fun x5=>bif (x5.1 != 0) then (some (Sum.inl false)) else (some (Sum.inr (x5.2.capacity,x5.2.root)))))).bind (Sum.elim (fun r=>some r) (fun w2=>(past_Past_At.f k (pQ w2.2) (TPastI.mk w2.1 (pI 0 w2.2)) 9).bind fun x6=>(fuse_Views_Min.f k x6.2 x6.1).bind fun x7=>bif x7.2 then (bif (x7.1.key == 5) then (bif decide (partsIn x6.2.length x6.1.parts=true) then ((past_Past_At.f k x6.2 (TPastI.mk w2.1 (pI 0 w2.2)) 2).bind fun x8=>(fuse_Views_Len.f k x8.2 x8.1).bind fun x9=>bif (x9 == 2) then (bif decide (partsIn x8.2.length x6.1.parts=true) then (bif decide (partsIn x8.2.length x8.1.parts=true) then ((past_Past_Ahead.f k x8.2 (TPastI.mk w2.1 (pI 0 w2.2)) 2).bind fun x10=>(fuse_Views_Len.f k x10.2 x10.1).bind fun x11=>some (x11 == 1)) else none) else none) else (some false)) else none) else (some false)) else (some false)))
def R12_At.l0 (k:Nat) (l0:List TOp) (a1:Int):Nat→Int→Option (Sum (Int) (Unit))
  | 0, _ => none
  | n + 1, v1 => bif (decide (v1 < (l0.length : Int))) then ((atL l0 v1).bind fun x2 => bif (x2.time == a1) then (some (Sum.inl v1)) else (R12_At.l0 k l0 a1 n (w64 (v1 + 1)))) else (some (Sum.inr ()))
def R12_At.f (k:Nat) (l0:List TOp) (a1:Int):Option (Int):=(R12_At.l0 k l0 a1 k 0).bind (Sum.elim (fun r=>some r) (fun w1=>some (-1)))
def R12_Without.f (k:Nat) (l0:List TOp) (a1:Int):Option (List TOp):=bif decide (0≤a1∧a1≤(l0.length:Int)) then (bif decide (([]:List TOp).length+((l0.drop 0).take (((a1).toNat) - 0)).length<4294967296) then (bif decide (0≤(w64 (a1+1))∧(w64 (a1+1))≤(l0.length:Int)) then (bif decide ((([]:List TOp)++((l0.drop 0).take (((a1).toNat) - 0))).length+((l0.drop (((w64 (a1+1))).toNat)).take (l0.length - (((w64 (a1+1))).toNat))).length<4294967296) then (some ((([]:List TOp)++((l0.drop 0).take (((a1).toNat) - 0)))++((l0.drop (((w64 (a1+1))).toNat)).take (l0.length - (((w64 (a1+1))).toNat))))) else none) else none) else none) else none
def R12_Has.l0 (k:Nat) (l0:List TOp) (a1:TItem):Nat→Int→Option (Sum (Bool) (Unit))
  | 0, _ => none
  | n + 1, v1 => bif (decide (v1 < (l0.length : Int))) then ((atL l0 v1).bind fun x2 => bif x2.insert then (bif ((x2.item.key == a1.key) && ((x2.item.id == a1.id) && true)) then (some (Sum.inl true)) else (R12_Has.l0 k l0 a1 n (w64 (v1 + 1)))) else (R12_Has.l0 k l0 a1 n (w64 (v1 + 1)))) else (some (Sum.inr ()))
def R12_Has.f (k:Nat) (l0:List TOp) (a1:TItem):Option (Bool):=(R12_Has.l0 k l0 a1 k 0).bind (Sum.elim (fun r=>some r) (fun w1=>some false))
def R12_Add.l0 (k:Nat) (l0:List TOp) (a1:TOp):Nat→Int→Option (Int)
  | 0, _ => none
  | n + 1, v1 => bif (decide (v1 < (l0.length : Int))) then ((atL l0 v1).bind fun x2 => bif (decide (x2.time < a1.time)) then (R12_Add.l0 k l0 a1 n (w64 (v1 + 1))) else (some v1)) else (some v1)
def R12_Add.f (k:Nat) (l0:List TOp) (a1:TOp):Option (List TOp):=(R12_Add.l0 k l0 a1 k 0).bind fun x1=>bif decide (0≤x1∧x1≤(l0.length:Int)) then (bif decide (([]:List TOp).length+((l0.drop 0).take (((x1).toNat) - 0)).length<4294967296) then (bif decide ((([]:List TOp)++((l0.drop 0).take (((x1).toNat) - 0))).length+([a1]:List TOp).length<4294967296) then (bif decide (0≤x1∧x1≤(l0.length:Int)) then (bif decide (((([]:List TOp)++((l0.drop 0).take (((x1).toNat) - 0)))++([a1]:List TOp)).length+((l0.drop ((x1).toNat)).take (l0.length - ((x1).toNat))).length<4294967296) then (some (((([]:List TOp)++((l0.drop 0).take (((x1).toNat) - 0)))++([a1]:List TOp))++((l0.drop ((x1).toNat)).take (l0.length - ((x1).toNat))))) else none) else none) else none) else none) else none
def shelf_Items.l0 (k:Nat) (x2:List TSlot):Nat→(List TItem×Int)→Option (List TItem)
  | 0, _ => none
  | n + 1, (v1, v2) => bif (decide (v2 < (x2.length : Int))) then ((atL x2 v2).bind fun x3 => bif decide (v1.length + ([x3.item] : List TItem).length < 4294967296) then (shelf_Items.l0 k x2 n ((v1 ++ ([x3.item] : List TItem)), (w64 (v2 + 1)))) else none) else (some v1)
def shelf_Items.f (k:Nat) (p1:Pool (TNode TSlot TSize)) (rt0:TRef):Option (List TItem):=((Tree_All.f opsS k p1 rt0).bind fun x2=>shelf_Items.l0 k x2 k (([]:List TItem),0)).bind fun x1=>some x1
def fuse_Views_Items.l0 (k:Nat) (Q:List TQueue) (a0:TViews):Nat→(List TItem×Int)→Option (List TItem)
  | 0, _ => none
  | n + 1, (v1, v2) => bif (decide (v2 < (a0.parts.length : Int))) then ((atL a0.parts v2).bind fun x2 => (hTree Q x2.shelf).bind fun x3 => (shelf_Items.f k x3.p x3.r).bind fun x4 => (fuse_part_ahead.f k Q x2).bind fun x5 => bif decide (0 ≤ x5 ∧ x5 ≤ (x4.length : Int)) then (bif decide (v1.length + ((x4.drop ((x5).toNat)).take (x4.length - ((x5).toNat))).length < 4294967296) then (fuse_Views_Items.l0 k Q a0 n ((v1 ++ ((x4.drop ((x5).toNat)).take (x4.length - ((x5).toNat)))), (w64 (v2 + 1)))) else none) else none) else (some v1)
def fuse_Views_Items.f (k:Nat) (Q:List TQueue) (a0:TViews):Option (List TItem):=(fuse_Views_Items.l0 k Q a0 k (([]:List TItem),0)).bind fun x1=>(item_Sorted.f k x1).bind fun x6=>some x6
def R14_Until.l0 (k:Nat) (l0:List TOp) (a1:Int) (a2:Bool):Nat→(List TOp×Int)→Option (List TOp)
  | 0, _ => none
  | n + 1, (v1, v2) => bif (decide (v2 < (l0.length : Int))) then ((atL l0 v2).bind fun x2 => bif (decide (x2.time < a1)) then (bif decide (v1.length + ([x2] : List TOp).length < 4294967296) then (R14_Until.l0 k l0 a1 a2 n ((v1 ++ ([x2] : List TOp)), (w64 (v2 + 1)))) else none) else (bif (x2.time == a1) then (bif a2 then (bif decide (v1.length + ([x2] : List TOp).length < 4294967296) then (R14_Until.l0 k l0 a1 a2 n ((v1 ++ ([x2] : List TOp)), (w64 (v2 + 1)))) else none) else (R14_Until.l0 k l0 a1 a2 n (v1, (w64 (v2 + 1))))) else (R14_Until.l0 k l0 a1 a2 n (v1, (w64 (v2 + 1)))))) else (some v1)
def R14_Until.f (k:Nat) (l0:List TOp) (a1:Int) (a2:Bool):Option (List TItem):=(R14_Until.l0 k l0 a1 a2 k (([]:List TOp),0)).bind fun x1=>(R12_Run.f k x1).bind fun x3=>some x3.1
def R02_Same.l0 (k:Nat) (l0:List TItem) (l1:List TItem):Nat→Int→Option (Sum (Bool) (Unit))
  | 0, _ => none
  | n + 1, v1 => bif (decide (v1 < (l0.length : Int))) then ((atL l0 v1).bind fun x2 => (atL l1 v1).bind fun x3 => bif (!((x2.key == x3.key) && ((x2.id == x3.id) && true))) then (some (Sum.inl false)) else (R02_Same.l0 k l0 l1 n (w64 (v1 + 1)))) else (some (Sum.inr ()))
def R02_Same.f (k:Nat) (l0:List TItem) (l1:List TItem):Option (Bool):=bif ((l0.length:Int) != (l1.length:Int)) then (some false) else ((R02_Same.l0 k l0 l1 k 0).bind (Sum.elim (fun r=>some r) (fun w1=>some true)))
def Lw13_Same.l0 (k:Nat) (Q:List TQueue) (a0:TViews) (l1:List TItem):Nat→Int→Option (Sum (Bool) (Unit))
  | 0, _ => none
  | n + 1, v1 => bif (decide (v1 ≤ (l1.length : Int))) then ((fuse_Views_At.f k Q a0 v1).bind fun x6 => (bif (decide (v1 ≥ 0)) then (some (decide (v1 < (l1.length : Int)))) else (some false)).bind fun x7 => bif (!(x6.2 == x7)) then (some (Sum.inl false)) else (bif x7 then ((atL l1 v1).bind fun x8 => bif (!((x6.1.key == x8.key) && ((x6.1.id == x8.id) && true))) then (some (Sum.inl false)) else (bif (!x7) then (bif (!((x6.1.key == 0) && ((x6.1.id == 0) && true))) then (some (Sum.inl false)) else (Lw13_Same.l0 k Q a0 l1 n (w64 (v1 + 1)))) else (Lw13_Same.l0 k Q a0 l1 n (w64 (v1 + 1))))) else (bif (!x7) then (bif (!((x6.1.key == 0) && ((x6.1.id == 0) && true))) then (some (Sum.inl false)) else (Lw13_Same.l0 k Q a0 l1 n (w64 (v1 + 1)))) else (Lw13_Same.l0 k Q a0 l1 n (w64 (v1 + 1)))))) else (some (Sum.inr ()))
def Lw13_Same.f (k:Nat) (Q:List TQueue) (a0:TViews) (l1:List TItem):Option (Bool):=((fuse_Views_Len.f k Q a0).bind fun x2=>bif (x2 != (l1.length:Int)) then (some (Sum.inl false)) else ((fuse_Views_Items.f k Q a0).bind fun x3=>(R02_Same.f k x3 l1).bind fun x4=>bif (!x4) then (some (Sum.inl false)) else (some (Sum.inr ())))).bind (Sum.elim (fun r=>some r) (fun w1=>(Lw13_Same.l0 k Q a0 l1 k (-1)).bind (Sum.elim (fun r=>some r) (fun w5=>(fuse_Views_Min.f k Q a0).bind fun x9=>bif (x9.2 == (decide ((l1.length:Int)>0))) then (bif (!x9.2) then (some true) else ((atL l1 0).bind fun x10=>some ((x9.1.key == x10.key)&&((x9.1.id == x10.id)&&true)))) else (some false)))))
def R12_Ops.l0 (k:Nat) (l0:List TOp) (l1:List TOp):Nat→Int→Option (Sum (Bool) (Unit))
  | 0, _ => none
  | n + 1, v1 => bif (decide (v1 < (l0.length : Int))) then ((atL l0 v1).bind fun x2 => (atL l1 v1).bind fun x3 => bif (!((x2.time == x3.time) && ((x2.insert == x3.insert) && ((x2.item.key == x3.item.key) && ((x2.item.id == x3.item.id) && true))))) then (some (Sum.inl false)) else (R12_Ops.l0 k l0 l1 n (w64 (v1 + 1)))) else (some (Sum.inr ()))
def R12_Ops.f (k:Nat) (l0:List TOp) (l1:List TOp):Option (Bool):=bif ((l0.length:Int) != (l1.length:Int)) then (some false) else ((R12_Ops.l0 k l0 l1 k 0).bind (Sum.elim (fun r=>some r) (fun w1=>some true)))
def R01_Rest.f (k:Nat) (a0:Int) (a1:Int):Option (Int):=bif decide (a1≠0) then (bif decide (a1≠0) then (some ((w64 ((a0.tmod a1)+a1)).tmod a1)) else none) else none
def Lw14_do.f (k:Nat) (q0:TPast) (l1:List TOp) (a2:Int) (a3:TL12Act):Option (List TOp×Bool×TPast):=bif a3.told then (bif (decide ((l1.length:Int)>0)) then ((R01_Rest.f k a3.time (l1.length:Int)).bind fun x1=>(atL l1 x1).bind fun x2=>(R12_At.f k l1 x2.time).bind fun x3=>(R01_Rest.f k a3.kind 3).bind fun x4=>bif (x4 == 0) then ((past_Past_Insert.f k q0 x2.time a3.x).bind fun x5=>bif ((l1.length:Int) == a2) then (some (l1,(x5.1 == 10),x5.2)) else (bif (decide (x3≥0)) then (some (l1,(x5.1 == 11),x5.2)) else ((R12_Has.f k l1 a3.x).bind fun x6=>bif x6 then (some (l1,(x5.1 == 2),x5.2)) else ((R12_Add.f k l1 (TOp.mk x2.time true a3.x)).bind fun x7=>some (x7,(x5.1 == 0),x5.2))))) else (bif (x4 == 1) then ((past_Past_Delete.f k q0 x2.time).bind fun x8=>bif ((l1.length:Int) == a2) then (some (l1,(x8.1 == 10),x8.2)) else (bif (decide (x3≥0)) then (some (l1,(x8.1 == 11),x8.2)) else ((R12_Add.f k l1 (TOp.mk x2.time false zTItem)).bind fun x9=>some (x9,(x8.1 == 0),x8.2)))) else (bif (x4 == 2) then (bif (decide (x3<0)) then ((past_Past_Revoke.f k q0 x2.time).bind fun x10=>some (l1,(x10.1 == 14),x10.2)) else ((R12_Without.f k l1 x3).bind fun x11=>(past_Past_Revoke.f k q0 x2.time).bind fun x12=>some (x11,(x12.1 == 0),x12.2))) else (bif ((l1.length:Int) == a2) then (some (l1,(0 == 10),q0)) else (bif (decide (x3≥0)) then (some (l1,(0 == 11),q0)) else ((R12_Add.f k l1 (TOp.mk x2.time false zTItem)).bind fun x13=>some (x13,(0 == 0),q0))))))) else ((R12_At.f k l1 a3.time).bind fun x14=>(R01_Rest.f k a3.kind 3).bind fun x15=>bif (x15 == 0) then ((past_Past_Insert.f k q0 a3.time a3.x).bind fun x16=>bif ((l1.length:Int) == a2) then (some (l1,(x16.1 == 10),x16.2)) else (bif (decide (x14≥0)) then (some (l1,(x16.1 == 11),x16.2)) else ((R12_Has.f k l1 a3.x).bind fun x17=>bif x17 then (some (l1,(x16.1 == 2),x16.2)) else ((R12_Add.f k l1 (TOp.mk a3.time true a3.x)).bind fun x18=>some (x18,(x16.1 == 0),x16.2))))) else (bif (x15 == 1) then ((past_Past_Delete.f k q0 a3.time).bind fun x19=>bif ((l1.length:Int) == a2) then (some (l1,(x19.1 == 10),x19.2)) else (bif (decide (x14≥0)) then (some (l1,(x19.1 == 11),x19.2)) else ((R12_Add.f k l1 (TOp.mk a3.time false zTItem)).bind fun x20=>some (x20,(x19.1 == 0),x19.2)))) else (bif (x15 == 2) then (bif (decide (x14<0)) then ((past_Past_Revoke.f k q0 a3.time).bind fun x21=>some (l1,(x21.1 == 14),x21.2)) else ((R12_Without.f k l1 x14).bind fun x22=>(past_Past_Revoke.f k q0 a3.time).bind fun x23=>some (x22,(x23.1 == 0),x23.2))) else (bif ((l1.length:Int) == a2) then (some (l1,(0 == 10),q0)) else (bif (decide (x14≥0)) then (some (l1,(0 == 11),q0)) else ((R12_Add.f k l1 (TOp.mk a3.time false zTItem)).bind fun x24=>some (x24,(0 == 0),q0)))))))) else ((R12_At.f k l1 a3.time).bind fun x25=>(R01_Rest.f k a3.kind 3).bind fun x26=>bif (x26 == 0) then ((past_Past_Insert.f k q0 a3.time a3.x).bind fun x27=>bif ((l1.length:Int) == a2) then (some (l1,(x27.1 == 10),x27.2)) else (bif (decide (x25≥0)) then (some (l1,(x27.1 == 11),x27.2)) else ((R12_Has.f k l1 a3.x).bind fun x28=>bif x28 then (some (l1,(x27.1 == 2),x27.2)) else ((R12_Add.f k l1 (TOp.mk a3.time true a3.x)).bind fun x29=>some (x29,(x27.1 == 0),x27.2))))) else (bif (x26 == 1) then ((past_Past_Delete.f k q0 a3.time).bind fun x30=>bif ((l1.length:Int) == a2) then (some (l1,(x30.1 == 10),x30.2)) else (bif (decide (x25≥0)) then (some (l1,(x30.1 == 11),x30.2)) else ((R12_Add.f k l1 (TOp.mk a3.time false zTItem)).bind fun x31=>some (x31,(x30.1 == 0),x30.2)))) else (bif (x26 == 2) then (bif (decide (x25<0)) then ((past_Past_Revoke.f k q0 a3.time).bind fun x32=>some (l1,(x32.1 == 14),x32.2)) else ((R12_Without.f k l1 x25).bind fun x33=>(past_Past_Revoke.f k q0 a3.time).bind fun x34=>some (x33,(x34.1 == 0),x34.2))) else (bif ((l1.length:Int) == a2) then (some (l1,(0 == 10),q0)) else (bif (decide (x25≥0)) then (some (l1,(0 == 11),q0)) else ((R12_Add.f k l1 (TOp.mk a3.time false zTItem)).bind fun x35=>some (x35,(0 == 0),q0)))))))
def Lw14_asked.f (k:Nat) (q0:TPast) (l1:List TOp) (a2:Int):Option (Bool):=(past_Past_At.f k (pQ q0.root) (TPastI.mk q0.capacity (pI 0 q0.root)) a2).bind fun x1=>(R14_Until.f k l1 a2 true).bind fun x2=>(Lw13_Same.f k x1.2 x1.1 x2).bind fun x3=>bif x3 then (bif decide (partsIn x1.2.length x1.1.parts=true) then ((past_Past_Ahead.f k x1.2 (TPastI.mk q0.capacity (pI 0 q0.root)) a2).bind fun x4=>(R14_Until.f k l1 a2 false).bind fun x5=>(Lw13_Same.f k x4.2 x4.1 x5).bind fun x6=>some x6) else none) else (some false)
def Lw14_PastActs.l0 (k:Nat) (l1:List TL12Act) (a2:Int) (x6:Int):Nat→(Int×PT TOp TQueue×List TOp×Int)→Option (Sum (Bool) (Unit))
  | 0, _ => none
  | n + 1, (v1, v2, v3, v4) => bif (decide (v4 < (l1.length : Int))) then ((atL l1 v4).bind fun x8 => (Lw14_do.f k (TPast.mk v1 v2) v3 x6 x8).bind fun x9 => bif (!x9.2.1) then (some (Sum.inl false)) else ((past_Past_Len.f k x9.2.2).bind fun x10 => bif (x10 != (x9.1.length : Int)) then (some (Sum.inl false)) else ((past_Past_Ops.f k x9.2.2).bind fun x11 => (R12_Ops.f k x11 x9.1).bind fun x12 => bif (!x12) then (some (Sum.inl false)) else ((Lw14_asked.f k x9.2.2 x9.1 a2).bind fun x13 => bif (!x13) then (some (Sum.inl false)) else ((Lw14_asked.f k x9.2.2 x9.1 x8.time).bind fun x14 => bif (!x14) then (some (Sum.inl false)) else (Lw14_PastActs.l0 k l1 a2 x6 n (x9.2.2.capacity, x9.2.2.root, x9.1, (w64 (v4 + 1))))))))) else (some (Sum.inr ()))
def Lw14_PastBetween.l0 (k:Nat) (l0:List TL12Act):Nat→(Int×PT TOp TQueue×List TOp×Int)→Option (Int×PT TOp TQueue×List TOp)
  | 0, _ => none
  | n + 1, (v1, v2, v3, v4) => bif (decide (v4 < (l0.length : Int))) then ((atL l0 v4).bind fun x7 => (Lw14_do.f k (TPast.mk v1 v2) v3 60 x7).bind fun x8 => Lw14_PastBetween.l0 k l0 n (x8.2.2.capacity, x8.2.2.root, x8.1, (w64 (v4 + 1)))) else (some (v1, v2, v3))
def Lw14_PastBetween.l1 (k:Nat) (x6:Int×PT TOp TQueue×List TOp):Nat→Int→Option (Sum (Bool) (Unit))
  | 0, _ => none
  | n + 1, v101 => bif (decide ((w64 (v101 + 1)) < (x6.2.2.length : Int))) then ((atL x6.2.2 (w64 (v101 + 1))).bind fun x10 => (past_Past_Ahead.f k (pQ x6.2.1) (TPastI.mk x6.1 (pI 0 x6.2.1)) x10.time).bind fun x11 => (atL x6.2.2 v101).bind fun x12 => bif decide (partsIn x11.2.length x11.1.parts = true) then ((past_Past_At.f k x11.2 (TPastI.mk x6.1 (pI 0 x6.2.1)) x12.time).bind fun x13 => (fuse_Views_Items.f k x13.2 x13.1).bind fun x14 => (Lw13_Same.f k x13.2 x11.1 x14).bind fun x15 => bif (!x15) then (some (Sum.inl false)) else (Lw14_PastBetween.l1 k x6 n (w64 (v101 + 1)))) else none) else (some (Sum.inr ()))
def Lw14_PastBetween.f (k:Nat) (l0:List TL12Act):Option (Bool):=((Lw14_awake.f k).bind fun x2=>bif (!x2) then ((Lw14_awake.f k).bind fun x3=>some (Sum.inl x3)) else (bif (decide ((l0.length:Int)>40)) then ((Lw14_awake.f k).bind fun x4=>some (Sum.inl x4)) else (some (Sum.inr ())))).bind (Sum.elim (fun r=>some r) (fun w1=>(past_New.f k 60).bind fun x5=>(Lw14_PastBetween.l0 k l0 k (x5.capacity,x5.root,([]:List TOp),0)).bind fun x6=>(Lw14_PastBetween.l1 k x6 k 0).bind (Sum.elim (fun r=>some r) (fun w9=>(past_Past_Len.f k (TPast.mk x6.1 x6.2.1)).bind fun x16=>some (x16 == (x6.2.2.length:Int))))))
end Go.Proofs.YtgjbibabegabnaaGreat
namespace Go.Proofs.YtgjbibabegabnaaGreat
open Go Go.Proofs.YtgjbibabegabnaaGreat.Sx
theorem noks {x:SV} (hx:x.ks.isEmpty=true) (β β':Env):x.den β=x.den β':=SV.den_congr x (fun j hj=>by rw [List.isEmpty_iff] at hx;rw [hx] at hj;cases hj)
theorem perm4 {α:Type} (x1 x2 x3 x4 x5 x6 x7 x8 x9:α) (ex:List α):([x1,x2,x3,x4,x5,x6,x7,x8,x9]++ex).Perm (([x4,x5]++ex)++[x1,x2,x3,x6,x7,x8,x9]):=by
  have h1:([x1,x2,x3]++[x4,x5]).Perm ([x4,x5]++[x1,x2,x3]):=List.perm_append_comm
  have h2:([x1,x2,x3]++[x4,x5]++([x6,x7,x8,x9]++ex)).Perm ([x4,x5]++[x1,x2,x3]++([x6,x7,x8,x9]++ex)):=h1.append_right _
  refine h2.trans ?_
  rw [List.append_assoc,List.append_assoc]
  refine List.Perm.append_left [x4,x5] ?_
  rw [← List.append_assoc]
  exact List.perm_append_comm
theorem perm6 {α:Type} (x1 x2 x3 x4 x5 x6 x7 x8 x9:α) (ex:List α):([x1,x2,x3,x4,x5,x6,x7,x8,x9]++ex).Perm (([x6,x7]++ex)++[x1,x2,x3,x4,x5,x8,x9]):=by
  have h1:([x1,x2,x3,x4,x5]++[x6,x7]).Perm ([x6,x7]++[x1,x2,x3,x4,x5]):=List.perm_append_comm
  have h2:([x1,x2,x3,x4,x5]++[x6,x7]++([x8,x9]++ex)).Perm ([x6,x7]++[x1,x2,x3,x4,x5]++([x8,x9]++ex)):=h1.append_right _
  refine h2.trans ?_
  rw [List.append_assoc,List.append_assoc]
  refine List.Perm.append_left [x6,x7] ?_
  rw [← List.append_assoc]
  exact List.perm_append_comm
theorem onTree {f : FuncId} {args : List SV} {ret : SV} {A : List (Nat → Nat)} {Q : List TQueue} {e : THp} {t : TS TSlot TSize} {fr : List Nat} {ex : List (Nat × Tok)} (k : Nat) (hAQ : A.length = Q.length) (ht : hTree Q e = some t)
    (h4:SCon Tryz.prog f (SV.p 4 0::args) [(4,blk 4 [.p 5 0,.i t.r.index,.i t.r.gen] 121),(5,plS 5 t.p)] ret ((4,blk 4 [.p 5 0,.i t.r.index,.i t.r.gen] 121)::(5,plS 5 t.p)::ex) fr)
    (h6:SCon Tryz.prog f (SV.p 6 0::args) [(6,blk 6 [.p 7 0,.i t.r.index,.i t.r.gen] 121),(7,plS 7 t.p)] ret ((6,blk 6 [.p 7 0,.i t.r.index,.i t.r.gen] 121)::(7,plS 7 t.p)::ex) fr)
    (ha:args.all (fun x=>x.ks.isEmpty)=true) (hr:ret.ks.all (fun j=>!qks.contains j)=true) (hfr:fr.all (fun j=>!qks.contains j)=true) (hex:ex.all (fun p=>p.2.ks.all fun j=>!qks.contains j)=true) :
    SCon Tryz.prog f (SV.raw (ptr (hA A e) 0)::args) [(k,hp k tq A Q)] ret ((k,hp k tq A Q)::ex) fr:=by
  obtain ⟨i,c⟩:=e
  unfold hTree at ht
  obtain ⟨q,hQ,hc⟩:=Option.bind_eq_some_iff.1 ht
  simp only at hQ hc
  have hlt:i<A.length:=by rw [hAQ];exact (List.getElem?_eq_some_iff.1 hQ).1
  have hAi:A[i]? = some A[i]:=List.getElem?_eq_getElem hlt
  have hAe : ∀ c,hA A ⟨i,c⟩=A[i] c:=fun c=>by simp [hA,List.getD_eq_getElem?_getD,hAi]
  have hset:Q.set i q=Q:=by
    apply List.ext_getElem?
    intro j
    rw [List.getElem?_set]
    by_cases hj:i=j
    · subst hj
      rw [if_pos rfl,if_pos (List.getElem?_eq_some_iff.1 hQ).1,hQ]
    · rw [if_neg hj]
  have hfr' : ∀ j∈qks,j∉fr:=fun j hj hm=>by
    have:=List.all_eq_true.1 hfr j hm
    simp only [Bool.not_eq_true',List.contains_eq_mem,decide_eq_false_iff_not] at this
    exact this hj
  have hex' : ∀ p∈ex,∀ j∈p.2.ks,j∉qks:=fun p hp j hj hm=>by
    have:=List.all_eq_true.1 (List.all_eq_true.1 hex p hp) j hj
    simp only [Bool.not_eq_true',List.contains_eq_mem,decide_eq_false_iff_not] at this
    exact this hm
  have hr' : ∀ β β':Env,(∀ j,j∉qks→β' j=β j)→ret.den β=ret.den β':=fun β β' hb=>SV.den_congr ret (fun j hj=>(hb j (fun hm=>by
    have:=List.all_eq_true.1 hr j hj
    simp only [Bool.not_eq_true',List.contains_eq_mem,decide_eq_false_iff_not] at this
    exact this hm)).symm)
  have main : ∀ m0:Nat,m0∈qks→c=m0→SCon Tryz.prog f (SV.p m0 0::args) (tq q) ret (tq q++ex) fr→SCon Tryz.prog f (SV.raw (ptr (hA A ⟨i,c⟩) 0)::args) [(k,hp k tq A Q)] ret ((k,hp k tq A Q)::ex) fr:=by
    intro m0 hm hcm hh
    subst hcm
    have:=SCon.heap (exi:=[]) (exo:=ex) (args':=SV.raw (ptr (hA A ⟨i,c⟩) 0)::args) (ret':=ret) k qks hAi hQ tq_byB (by simpa using hh) hfr' (fun p hp=>by cases hp) hex' (fun β β' hb _=>by
      rw [List.map_cons,List.map_cons]
      congr 1
      · rw [hAe];simp [SV.den,Av.den,Cl.den,ptr,hb c hm]
      · exact List.map_congr_left (fun x hx=>noks (List.all_eq_true.1 ha x hx) β β')) (fun β β' _ hb=>hr' β β' hb)
    rw [hset] at this;exact this
  have fx : ∀ l:List (Nat×Tok),(∀ p∈l,∀ j∈p.2.ks,j∈qks)→∀ p∈l,∀ j∈p.2.ks,j∉fr:=fun l hl p hp j hj=>hfr' j (hl p hp j hj)
  split at hc
  · cases hc
    refine main 4 (by decide) R ?_
    have h1:=h4.frame [(1,blk 1 [.v (.int .i64 q.capacity),.p 2 0,.p 4 0,.p 6 0,.p 8 0,.v (.int .i64 q.excess)] 99),(2,blk 2 [.p 3 0,.v (.int .i64 q.marks.r.index),.v (.int .i64 q.marks.r.gen)] 144),(3,plM 3 q.marks.p),(6,blk 6 [.p 7 0,.v (.int .i64 q.gone.r.index),.v (.int .i64 q.gone.r.gen)] 121),(7,plS 7 q.gone.p),(8,blk 8 [.p 9 0,.v (.int .i64 q.times.r.index),.v (.int .i64 q.times.r.gen)] 121),(9,plS 9 q.times.p)] (fx _ (by simp [blk,pl,Cl.ks]))
    exact h1.perm (by simpa using perm4 _ _ _ _ _ _ _ _ _ []) (perm4 _ _ _ _ _ _ _ _ _ ex).symm
  · cases hc
    refine main 6 (by decide) R ?_
    have h1:=h6.frame [(1,blk 1 [.v (.int .i64 q.capacity),.p 2 0,.p 4 0,.p 6 0,.p 8 0,.v (.int .i64 q.excess)] 99),(2,blk 2 [.p 3 0,.v (.int .i64 q.marks.r.index),.v (.int .i64 q.marks.r.gen)] 144),(3,plM 3 q.marks.p),(4,blk 4 [.p 5 0,.v (.int .i64 q.present.r.index),.v (.int .i64 q.present.r.gen)] 121),(5,plS 5 q.present.p),(8,blk 8 [.p 9 0,.v (.int .i64 q.times.r.index),.v (.int .i64 q.times.r.gen)] 121),(9,plS 9 q.times.p)] (fx _ (by simp [blk,pl,Cl.ks]))
    exact h1.perm (by simpa using perm6 _ _ _ _ _ _ _ _ _ []) (perm6 _ _ _ _ _ _ _ _ _ ex).symm
  · cases hc
theorem onQueueG {f : FuncId} {args : List SV} {ret ret' : SV} {A : List (Nat → Nat)} {Q : List TQueue} {e : THp} {q : TQueue} (k : Nat) (hAQ : A.length = Q.length) (hq : hQueue Q e = some q)
    (h:SCon Tryz.prog f (SV.p 1 0::args) (tq q) ret (tq q) []) (ha:args.all (fun x=>x.ks.isEmpty)=true) (hr : ∀ β β':Env,(∀ j∈qks,(β j).b=hA A ⟨e.q,j⟩)→ret.den β=ret'.den β') :
    SCon Tryz.prog f (SV.raw (ptr (hA A e) 0)::args) [(k,hp k tq A Q)] ret' [(k,hp k tq A Q)] []:=by
  obtain ⟨i,c⟩:=e
  unfold hQueue at hq
  simp only at hq hr
  split at hq
  · rename_i hc
    subst hc
    have hlt:i<A.length:=by rw [hAQ];exact (List.getElem?_eq_some_iff.1 hq).1
    have hAi:A[i]? = some A[i]:=List.getElem?_eq_getElem hlt
    have hAe : ∀ c,hA A ⟨i,c⟩=A[i] c:=fun c=>by simp [hA,List.getD_eq_getElem?_getD,hAi]
    have hset:Q.set i q=Q:=by
      apply List.ext_getElem?
      intro j
      rw [List.getElem?_set]
      by_cases hj:i=j
      · subst hj
        rw [if_pos rfl,if_pos (List.getElem?_eq_some_iff.1 hq).1,hq]
      · rw [if_neg hj]
    have:=SCon.heap (exi:=[]) (exo:=[]) (args':=SV.raw (ptr (hA A ⟨i,1⟩) 0)::args) (ret':=ret') k qks hAi hq tq_byB (by simpa using h) (fun j _=>by simp) (fun p hp=>by cases hp) (fun p hp=>by cases hp) (fun β β' hb _=>by
      rw [List.map_cons,List.map_cons]
      congr 1
      · rw [hAe];simp [SV.den,Av.den,Cl.den,ptr,hb 1 (by decide)]
      · exact List.map_congr_left (fun x hx=>noks (List.all_eq_true.1 ha x hx) β β')) (fun β β' hb _=>hr β β' (fun j hj=>by rw [hAe];exact hb j hj))
    rw [hset] at this;exact this
  · cases hq
theorem onQueue {f : FuncId} {args : List SV} {ret : SV} {A : List (Nat → Nat)} {Q : List TQueue} {e : THp} {q : TQueue} (k : Nat) (hAQ : A.length = Q.length) (hq : hQueue Q e = some q)
    (h:SCon Tryz.prog f (SV.p 1 0::args) (tq q) ret (tq q) []) (ha:args.all (fun x=>x.ks.isEmpty)=true) (hr:ret.ks.isEmpty=true) :
    SCon Tryz.prog f (SV.raw (ptr (hA A e) 0)::args) [(k,hp k tq A Q)] ret [(k,hp k tq A Q)] [] :=
  onQueueG k hAQ hq h ha (fun β β' _=>noks hr β β')
theorem onQueueP {f : FuncId} {args : List SV} {A : List (Nat → Nat)} {Q : List TQueue} {e : THp} {q : TQueue} (k c : Nat) (hc : c ∈ qks) (hAQ : A.length = Q.length) (hq : hQueue Q e = some q)
    (h:SCon Tryz.prog f (SV.p 1 0::args) (tq q) (SV.p c 0) (tq q) []) (ha:args.all (fun x=>x.ks.isEmpty)=true) :
    SCon Tryz.prog f (SV.raw (ptr (hA A e) 0)::args) [(k,hp k tq A Q)] (SV.raw (ptr (hA A ⟨e.q,c⟩) 0)) [(k,hp k tq A Q)] [] :=
  onQueueG k hAQ hq h ha (fun β β' hb=>by simp [SV.den,Av.den,Cl.den,ptr,hb c hc])
theorem lrow_grow {α:Type} {f g:α→List Value} {k T s:Nat} : ∀ {l:List α},(∀ x∈l,f x=g x)→lrow k T f s l=lrow k T g s l:=by
  intro l h
  have:l.flatMap f=l.flatMap g:=by
    induction l with
    | nil => rfl
    | cons x l ih => rw [List.flatMap_cons, List.flatMap_cons, h x (by simp), ih (fun y hy => h y (by simp [hy]))]
  unfold lrow;rw [this]
theorem hA_grow {A:List (Nat→Nat)} {e:THp} (a:Nat→Nat) (h:e.q<A.length):hA (A++[a]) e=hA A e:=by
  simp [hA,List.getD_eq_getElem?_getD,List.getElem?_append_left h]
theorem parts_grow {A:List (Nat→Nat)} {Q:List TQueue} {k T s:Nat} {l:List TPart} (a:Nat→Nat) (hAQ:A.length=Q.length) (h:partsIn Q.length l=true):lrow k T (eTPart A) s l=lrow k T (eTPart (A++[a])) s l:=by
  refine lrow_grow (fun x hx=>?_)
  have:=List.all_eq_true.1 h x hx
  unfold eTPart
  rw [hA_grow a (by rw [hAQ];simpa using this)]
theorem len_grow {A:List (Nat→Nat)} {Q:List TQueue} (hAQ:A.length=Q.length) (a:Nat→Nat) (q:TQueue):(A++[a]).length=(Q++[q]).length:=by simp [hAQ]
theorem hA_new {A:List (Nat→Nat)} {Q:List TQueue} (a:Nat→Nat) (hAQ:A.length=Q.length):a 1=hA (A++[a]) ⟨Q.length,1⟩:=by
  simp [hA,List.getD_eq_getElem?_getD,← hAQ]
end Go.Proofs.YtgjbibabegabnaaGreat
namespace Go.Proofs.YtgjbibabegabnaaGreat
open Go Go.Proofs.YtgjbibabegabnaaGreat.Sx
theorem larg_grow {S:Foot} {w:World} {v:Value} {s:Nat} {A:List (Nat→Nat)} {Q:List TQueue} {l:List TPart} (a:Nat→Nat) (hAQ:A.length=Q.length) (hp:partsIn Q.length l=true) (h:LArg S w v (eTPart A) s l):LArg S w v (eTPart (A++[a])) s l:=by
  obtain ⟨b,o,h⟩:=h
  have e:l.flatMap (eTPart A)=l.flatMap (eTPart (A++[a])):=by
    have : ∀ m:List TPart,(∀ x∈m,x∈l)→m.flatMap (eTPart A)=m.flatMap (eTPart (A++[a])):=by
      intro m
      induction m with
      | nil => intro _; rfl
      | cons x m ih =>
        intro hm
        have:=List.all_eq_true.1 hp x (hm x (by simp))
        have ex:eTPart A x=eTPart (A++[a]) x:=by
          unfold eTPart
          rw [hA_grow a (by rw [hAQ];simpa using this)]
        rw [List.flatMap_cons,List.flatMap_cons,ex,ih (fun y hy=>hm y (by simp [hy]))]
    exact this l (fun x hx=>hx)
  refine ⟨b,o,⟨fun c=>?_,h.pos,h.sl,h.inn,fun j u hu=>h.cells j u (by rw [e];exact hu)⟩⟩
  have:=h.len c
  rw [eTPart_len] at this ⊢;exact this
theorem hq_late {A:List (Nat→Nat)} {Q:List TQueue} {n0 n1 n2 n3 n4 n5 n6 n7 n8:Nat} (hAQ:A.length=Q.length) (β:Env):(SV.p n0 0).den β=(SV.a (.c (.v (ptr (hA (A++[adr qks (gN [n0,n1,n2,n3,n4,n5,n6,n7,n8]) β]) ⟨Q.length,1⟩) 0)))).den β:=by
  show _=ptr (hA (A++[adr qks (gN [n0,n1,n2,n3,n4,n5,n6,n7,n8]) β]) ⟨Q.length,1⟩) 0
  rw [← hA_new _ hAQ]
  simp [SV.den,Av.den,Cl.den,ptr,adr,gN]
end Go.Proofs.YtgjbibabegabnaaGreat
